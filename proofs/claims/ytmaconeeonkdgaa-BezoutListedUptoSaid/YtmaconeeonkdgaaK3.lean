/- Parts IntD, IntE, IntF, Pop, Small, Power, Root, Zg, Ref1d, Ref3, Ref3b, joined. -/
import Derived.Test.YtmaconeeonkdgaaK2

/- integers: divisions with rest -/
namespace Go.Proofs.Ytmaconeeonkdgaa
open Go.RowKit

theorem zint_Trunc_bad {w : World} {s t : Bool} {A B : Option Addr} {n cap m cap' : Nat} {x y : Int} (hx : Zi w s A n cap x) (_hl : n ≤ 68719476736) (hy : Zi w t B m cap' y) (hl' : m ≤ 68719476736) (h0 : y = 0) :
    Calls Try.prog 66 #[.agg #[.bool s, .slice A n cap], .agg #[.bool t, .slice B m cap']] w (RetZZE w 0 0 4) := by
  obtain ⟨xs, hr, rfl⟩ := hx
  obtain ⟨ys, hq, hyv⟩ := hy
  have hz : nv ys = 0 := sg_eq_zero.1 (by rw [hyv, h0])
  have HZ := Lib.hid hz
  clear hz h0 hyv
  go_enter Try.func66, Try.ntmps66
  go_upto_region 1 with (fail)
  obtain ⟨g, g2, g3, g4, wa, hg4, hg3, hg2, hg, hwa, hb1, hb2, hb3, hb4, hea, l12, l23, l34, l4, n12, n21, n13, n31, n23, n32, n14, n41, n24, n42, n34, n43⟩ := boxes4 w 27 27 27 27 (.bool s) (.slice A n cap) (.bool t) (.slice B m cap') (.bool false) (.slice none 0 0) (.bool false) (.slice none 0 0)
  rw [hg4, hg3, hg2, hg, hwa]
  have hgw : w.heap.size ≤ g := Nat.le_of_eq hg
  clear hwa hg hg2 hg3 hg4
  obtain ⟨f1, f2, f3, f4⟩ := hb1.two
  obtain ⟨h1, h2, h3, h4⟩ := hb2.two
  go_wp2_with fail
  refine (divnat_DivMod_bad (hq.ext hea) (by omega) HZ.out).mono ?_
  rintro e w1 ⟨rfl, hx1⟩
  clear f1 f2 f3 f4 h1 h2 h3 h4
  have hb3 := hb3.ext hx1
  have hb4 := hb4.ext hx1
  have hsz := hx1.size
  have e1 := hea.trans hx1
  obtain ⟨i1, i2, i3, i4⟩ := hb3.two
  obtain ⟨k1, k2, k3, k4⟩ := hb4.two
  go_wp2_with fail
  refine bodyPost_ret (res_iie rfl rfl rfl rfl ((hb3.two_set _ _).two_far n34 _ _) ((hb4.two_far n43 _ _).two_set _ _)) rfl ?_
  exact ⟨_, _, _, _, _, _, _, _, rfl, Zr.zero, Zr.zero, (Upd.two _ _).ext ((Upd.two _ _).ext e1 (by omega)) (by omega)⟩
set_option maxHeartbeats 4000000 in
theorem zint_Trunc {w : World} {s t : Bool} {A B : Option Addr} {n cap m cap' : Nat} {x y : Int} (hx : Zi w s A n cap x) (hl : n ≤ 68719476736) (hy : Zi w t B m cap' y) (hl' : m ≤ 68719476736) (h0 : y ≠ 0) :
    Calls Try.prog 66 #[.agg #[.bool s, .slice A n cap], .agg #[.bool t, .slice B m cap']] w (RetZZE w (x.tdiv y) (x.tmod y) 0) := by
  obtain ⟨xs, hr, rfl⟩ := hx
  obtain ⟨ys, hq, rfl⟩ := hy
  have hz : nv ys ≠ 0 := fun e => h0 (sg_eq_zero.2 e)
  have HZ := Lib.hid hz
  clear hz h0
  go_enter Try.func66, Try.ntmps66
  go_upto_region 1 with (fail)
  obtain ⟨g, g2, g3, g4, wa, hg4, hg3, hg2, hg, hwa, hb1, hb2, hb3, hb4, hea, l12, l23, l34, l4, n12, n21, n13, n31, n23, n32, n14, n41, n24, n42, n34, n43⟩ := boxes4 w 27 27 27 27 (.bool s) (.slice A n cap) (.bool t) (.slice B m cap') (.bool false) (.slice none 0 0) (.bool false) (.slice none 0 0)
  rw [hg4, hg3, hg2, hg, hwa]
  have hgw : w.heap.size ≤ g := Nat.le_of_eq hg
  clear hwa hg hg2 hg3 hg4
  obtain ⟨f1, f2, f3, f4⟩ := hb1.two
  obtain ⟨h1, h2, h3, h4⟩ := hb2.two
  go_wp2_with fail
  refine (divnat_DivMod (hr.ext hea) (by omega) (hq.ext hea) (by omega) HZ.out).mono ?_
  rintro e w1 ⟨Aq, nq, cq, Ar, nr, cr, rfl, hnq, hrq, hoq, hnr, hrr, hor, hx1⟩
  clear f1 f2 f3 f4 h1 h2 h3 h4
  have hb1 := hb1.ext hx1
  have hb2 := hb2.ext hx1
  have hb3 := hb3.ext hx1
  have hb4 := hb4.ext hx1
  have hsz := hx1.size
  have e1 := hea.trans hx1
  go_upto_region 4 with (fail)
  obtain ⟨f1, f2, f3, f4⟩ := hb1.two
  obtain ⟨h1, h2, h3, h4⟩ := hb2.two
  obtain ⟨i1, i2, i3, i4⟩ := hb3.two
  obtain ⟨k1, k2, k3, k4⟩ := hb4.two
  go_region_held3 (fun w' => w'.cell? ⟨g, 0, none⟩ = some (.bool s) ∧ w'.cell? ⟨g, 1, none⟩ = some (.slice A n cap) ∧ w'.cell? ⟨g2, 0, none⟩ = some (.bool t) ∧ w'.cell? ⟨g2, 1, none⟩ = some (.slice B m cap')) (go_keep)
    (first
    | (go_at_call 55; (with_reducible refine (zint_of hnq.out).mono ?_); rintro e w5 ⟨s5, rfl, hs5, hx5⟩; have he5 : Ext w1 w5 := Ext.trans (by repeat (first | exact Ext.refl _ | assumption | apply Ext.drewN | apply Ext.drew | apply Ext.alloc)) hx5; clear f1 f2 f3 f4 h1 h2 h3 h4 i1 i2 i3 i4 k1 k2 k3 k4; obtain ⟨f1, f2, f3, f4⟩ := (hb1.ext he5).two; obtain ⟨h1, h2, h3, h4⟩ := (hb2.ext he5).two; obtain ⟨i1, i2, i3, i4⟩ := (hb3.ext he5).two; obtain ⟨k1, k2, k3, k4⟩ := (hb4.ext he5).two)
    | (go_at_call 55; (with_reducible refine (zint_of hnr.out).mono ?_); rintro e w6 ⟨s6, rfl, hs6, hx6⟩; have he6 : Ext w1 w6 := Ext.trans (by repeat (first | exact Ext.refl _ | assumption | apply Ext.drewN | apply Ext.drew | apply Ext.alloc)) hx6; clear f1 f2 f3 f4 h1 h2 h3 h4 i1 i2 i3 i4 k1 k2 k3 k4; obtain ⟨f1, f2, f3, f4⟩ := (hb1.ext he6).two; obtain ⟨h1, h2, h3, h4⟩ := (hb2.ext he6).two; obtain ⟨i1, i2, i3, i4⟩ := (hb3.ext he6).two; obtain ⟨k1, k2, k3, k4⟩ := (hb4.ext he6).two))
  all_goals
    clear f1 f2 f3 f4 h1 h2 h3 h4 i1 i2 i3 i4 k1 k2 k3 k4
    first
    | (obtain ⟨wb, hwb⟩ : ∃ wb, (((w6.setCell ⟨g3, 0, none⟩ (.bool s5)).setCell ⟨g3, 1, none⟩ (.slice Aq nq cq)).setCell ⟨g4, 0, none⟩ (.bool s6)).setCell ⟨g4, 1, none⟩ (.slice Ar nr cr) = wb := ⟨_, rfl⟩
       rw [hwb]
       have hL := he6)
    | (obtain ⟨wb, hwb⟩ : ∃ wb, (((w5.setCell ⟨g3, 0, none⟩ (.bool s5)).setCell ⟨g3, 1, none⟩ (.slice Aq nq cq)).setCell ⟨g4, 0, none⟩ (.bool s6)).setCell ⟨g4, 1, none⟩ (.slice Ar nr cr) = wb := ⟨_, rfl⟩
       rw [hwb]
       have hL := he5)
    have q3 : Bk wb g3 27 [.bool s5, .slice Aq nq cq] := by rw [← hwb]; exact ((hb3.ext hL).two_set _ _).two_far n34 _ _
    have q4 : Bk wb g4 27 [.bool s6, .slice Ar nr cr] := by rw [← hwb]; exact ((hb4.ext hL).two_far n43 _ _).two_set _ _
    have r5 : Zr wb w.heap.size s5 Aq nq cq ((sg s (nv xs)).tdiv (sg t (nv ys))) := by
      rw [← hwb]
      exact (((((Zr_of hs5.out hnq.out hoq (sg_tdiv _ _ _ _)).ext hL).upd (by omega) (Upd.two _ _)).upd (by omega) (Upd.two _ _)).mono (by omega))
    have r6 : Zr wb w.heap.size s6 Ar nr cr ((sg s (nv xs)).tmod (sg t (nv ys))) := by
      rw [← hwb]
      exact (((((Zr_of hs6.out hnr.out hor (sg_tmod _ _ _ _)).ext hL).upd (by omega) (Upd.two _ _)).upd (by omega) (Upd.two _ _)).mono (by omega))
    have eb : Ext w wb := by rw [← hwb]; exact (Upd.two _ _).ext ((Upd.two _ _).ext (e1.trans hL) (by omega)) (by omega)
    clear hwb
    go_wp2_with fail
    refine bodyPost_ret (res_iie rfl rfl rfl rfl q3 q4) rfl ?_
    exact ⟨s5, Aq, nq, cq, s6, Ar, nr, cr, rfl, r5, r6, eb⟩

/-- quotient and rest, the rest on the divisor's side -/
structure Flo (q r x y : Int) : Prop where
  eq : q * y + r = x
  pos : 0 < y → 0 ≤ r ∧ r < y
  neg : y < 0 → y < r ∧ r ≤ 0
theorem tmod_abs {x y : Int} (h : y ≠ 0) : (x.tmod y).natAbs < y.natAbs := by
  rw [Int.natAbs_tmod]
  exact Nat.mod_lt _ (by omega)
theorem flo_same {x y : Int} (h0 : y ≠ 0) (h : x.tmod y = 0 ∨ (decide (x.tmod y < 0) = decide (y < 0))) : Flo (x.tdiv y) (x.tmod y) x y := by
  have h1 := tmod_abs (x := x) h0
  refine ⟨by rw [Int.mul_comm]; exact Int.mul_tdiv_add_tmod x y, fun hp => ?_, fun hn => ?_⟩
  · rcases h with h | h
    · omega
    · have hd : ¬ y < 0 := by omega
      rw [decide_eq_false hd] at h
      have := of_decide_eq_false h
      omega
  · rcases h with h | h
    · omega
    · rw [decide_eq_true hn] at h
      have := of_decide_eq_true h
      omega
theorem flo_other {x y : Int} (h0 : y ≠ 0) (h : x.tmod y ≠ 0) (h2 : decide (x.tmod y < 0) ≠ decide (y < 0)) : Flo (x.tdiv y - 1) (x.tmod y + y) x y := by
  have h1 := tmod_abs (x := x) h0
  refine ⟨?_, fun hp => ?_, fun hn => ?_⟩
  · have := Int.mul_tdiv_add_tmod x y
    rw [Int.sub_mul, Int.one_mul, Int.mul_comm]
    omega
  · have hd : ¬ y < 0 := by omega
    rw [decide_eq_false hd] at h2
    have : x.tmod y < 0 := by
      refine Int.lt_of_not_ge (fun hge => h2 (decide_eq_false (by omega)))
    omega
  · rw [decide_eq_true hn] at h2
    have : ¬ x.tmod y < 0 := fun hlt => h2 (decide_eq_true hlt)
    omega
end Go.Proofs.Ytmaconeeonkdgaa

/- integers: zint.Floor -/
namespace Go.Proofs.Ytmaconeeonkdgaa
open Go.RowKit

theorem Zi.sgn {w : World} {s : Bool} {A : Option Addr} {n cap : Nat} {z : Int} (h : Zi w s A n cap z) (h0 : z ≠ 0) : s = decide (z < 0) := by
  obtain ⟨xs, _, rfl⟩ := h
  have hm : nv xs ≠ 0 := fun e => h0 (sg_eq_zero.2 e)
  rw [sg_lt, decide_eq_true (show 0 < nv xs by omega), Bool.and_true]
theorem boxN2 (w : World) (t t' : TypeId) (l l' : List Value) : ∃ g g2 wa, w.heap.size + 1 = g2 ∧ w.heap.size = g ∧ (w.alloc (.cells l.toArray t)).alloc (.cells l'.toArray t') = wa ∧ Bk wa g t l ∧ Bk wa g2 t' l' ∧ Ext w wa ∧ g < g2 ∧ g2 < wa.heap.size ∧ g ≠ g2 ∧ g2 ≠ g := by
  refine ⟨_, _, _, rfl, rfl, rfl, (Bk.new w t l).alloc _, ?_, ((Ext.refl w).alloc _).alloc _, by omega, by simp, by omega, by omega⟩
  have := Bk.new (w.alloc (.cells l.toArray t)) t' l'
  simpa using this
theorem Zr.upd_hi {w0 w w' : World} {base base' g : Nat} {s : Bool} {A : Option Addr} {n cap : Nat} {z z' : Int} (h0 : Zr w0 base' s A n cap z') (hw : w0.heap.size ≤ g) (h : Zr w base s A n cap z) (e : Upd g w w') : Zr w' base s A n cap z :=
  ⟨h.sgn, h.len, h.own.upd e (fun a ha => by have := (h0.own.block a ha).2; omega)⟩
end Go.Proofs.Ytmaconeeonkdgaa

/- integers: zint.Euclid and zint.Mod, where the divisor lies above 0 -/
namespace Go.Proofs.Ytmaconeeonkdgaa
open Go.RowKit

/-- quotient and rest, the rest from 0 on -/
structure Euc (q r x y : Int) : Prop where
  eq : q * y + r = x
  lo : 0 ≤ r
  hi : r < y
theorem euc_same {x y : Int} (h0 : 0 < y) (h : ¬ x.tmod y < 0) : Euc (x.tdiv y) (x.tmod y) x y := by
  have h1 := tmod_abs (x := x) (y := y) (by omega)
  exact ⟨by rw [Int.mul_comm]; exact Int.mul_tdiv_add_tmod x y, by omega, by omega⟩
theorem euc_other {x y : Int} (h0 : 0 < y) (h : x.tmod y < 0) : Euc (x.tdiv y - 1) (x.tmod y + y) x y := by
  have h1 := tmod_abs (x := x) (y := y) (by omega)
  refine ⟨?_, by omega, by omega⟩
  have := Int.mul_tdiv_add_tmod x y
  rw [Int.sub_mul, Int.one_mul, Int.mul_comm]
  omega
def EucP (w : World) (x y : Int) (e : Ending) (w' : World) : Prop := ∃ q r, Hid (Euc q r x y) ∧ RetZZE w q r 0 e w'
set_option maxHeartbeats 8000000 in
theorem zint_Euclid {w : World} {s t : Bool} {A B : Option Addr} {n cap m cap' : Nat} {x y : Int} (hx : Zi w s A n cap x) (hl : n ≤ 68719476736) (hy : Zi w t B m cap' y) (hl' : m ≤ 68719476736) (h0 : 0 < y) :
    Calls Try.prog 89 #[.agg #[.bool s, .slice A n cap], .agg #[.bool t, .slice B m cap']] w (EucP w x y) := by
  have HT : Hid (t = false) := (show _ = _ by rw [hy.sgn (by omega)]; exact decide_eq_false (by omega))
  have H0 := Lib.hid h0
  have LX := Lib.hid (Nat.le_trans hx.ln hl)
  have LY := Lib.hid (Nat.le_trans hy.ln hl')
  clear h0
  obtain rfl := HT.out
  clear HT
  go_enter Try.func89, Try.ntmps89
  go_upto_region 1 with (fail)
  obtain ⟨g, g2, g3, g4, wa, hg4, hg3, hg2, hg, hwa, hb1, hb2, hb3, hb4, hea, l12, l23, l34, l4, n12, n21, n13, n31, n23, n32, n14, n41, n24, n42, n34, n43⟩ := boxes4 w 27 27 27 27 (.bool s) (.slice A n cap) (.bool false) (.slice B m cap') (.bool false) (.slice none 0 0) (.bool false) (.slice none 0 0)
  rw [hg4, hg3, hg2, hg, hwa]
  have hgw : w.heap.size ≤ g := Nat.le_of_eq hg
  clear hwa hg hg2 hg3 hg4
  obtain ⟨f1, f2, f3, f4⟩ := hb1.two
  obtain ⟨h1, h2, h3, h4⟩ := hb2.two
  go_wp2_with fail
  refine (zint_Trunc (hx.ext hea) hl (hy.ext hea) hl' (by have := H0.out; omega)).mono ?_
  rintro e w1 ⟨sq, Aq, nq, cq, sr, Ar, nr, cr, rfl, zq, zr, hx1⟩
  clear f1 f2 f3 f4 h1 h2 h3 h4
  have bq : nq ≤ 68719476736 := zq.le (Nat.le_trans (ln_mono (by rw [Int.natAbs_tdiv]; exact Nat.div_le_self _ _)) LX.out)
  have br : nr ≤ 68719476736 := zr.le (Nat.le_trans (ln_mono (Nat.le_of_lt (tmod_abs (by have := H0.out; omega)))) LY.out)
  go_upto_region 2 with (fail)
  obtain ⟨g7, g8, v1, hg8, hg7, hv1, hb7, hb8, he, l78, l8, n78, n87⟩ := boxN2 w1 27 27 [.bool sq, .slice Aq nq cq] [.bool sr, .slice Ar nr cr]
  rw [hg8, hg7, hv1]
  have hs7 : w1.heap.size ≤ g7 := Nat.le_of_eq hg7
  have zq := zq.ext he
  have zr := zr.ext he
  have x1 := hx1.trans he
  have hb2 := hb2.ext x1
  have hb3 := hb3.ext x1
  have hb4 := hb4.ext x1
  have e1 := hea.trans x1
  have sz1 := hx1.size
  clear hg8 hg7 hv1 he hb1 hx1
  obtain ⟨f1, f2, f3, f4⟩ := hb7.two
  obtain ⟨h1, h2, h3, h4⟩ := hb8.two
  obtain ⟨i1, i2, i3, i4⟩ := hb2.two
  have hn37 : g3 ≠ g7 := by omega
  have hn38 : g3 ≠ g8 := by omega
  have hn47 : g4 ≠ g7 := by omega
  have hn48 : g4 ≠ g8 := by omega
  have hn73 := hn37.symm
  have hn83 := hn38.symm
  have hn74 := hn47.symm
  have hn84 := hn48.symm
  by_cases hr0 : x.tmod y < 0
  · have hsr : sr = true := by rw [zr.sgn]; exact decide_eq_true hr0
    have HF : Hid (Euc (x.tdiv y - 1) (x.tmod y + y) x y) := euc_other H0.out hr0
    subst hsr
    clear hr0
    go_upto_region 6 with (fail)
    obtain ⟨j1, j2, j3, j4⟩ := hb3.two
    obtain ⟨k1, k2, k3, k4⟩ := hb4.two
    go_region_held3 (fun w' => w'.cell? ⟨g7, 0, none⟩ = some (.bool sq) ∧ w'.cell? ⟨g7, 1, none⟩ = some (.slice Aq nq cq) ∧ w'.cell? ⟨g8, 0, none⟩ = some (.bool true) ∧ w'.cell? ⟨g8, 1, none⟩ = some (.slice Ar nr cr) ∧ w'.cell? ⟨g2, 0, none⟩ = some (.bool false) ∧ w'.cell? ⟨g2, 1, none⟩ = some (.slice B m cap')) (go_keep)
      (first
      | (go_at_call 15; refine (zint_Of (v := 1) (by omega)).mono ?_; rintro e w5 ⟨s5, A5, n5, c5, rfl, z5, hx5⟩; have he5 : Ext v1 w5 := Ext.trans (by repeat (first | exact Ext.refl _ | assumption | apply Ext.drewN | apply Ext.drew | apply Ext.alloc)) hx5; have b5 : n5 ≤ 1 := z5.le (by decide +kernel); (try have z9 := z9.ext hx5); clear f1 f2 f3 f4 h1 h2 h3 h4 i1 i2 i3 i4 j1 j2 j3 j4 k1 k2 k3 k4; obtain ⟨f1, f2, f3, f4⟩ := (hb7.ext he5).two; obtain ⟨h1, h2, h3, h4⟩ := (hb8.ext he5).two; obtain ⟨i1, i2, i3, i4⟩ := (hb2.ext he5).two; obtain ⟨j1, j2, j3, j4⟩ := (hb3.ext he5).two; obtain ⟨k1, k2, k3, k4⟩ := (hb4.ext he5).two)
      | (go_at_call 16; (with_reducible refine (zint_Sub (zq.zi.ext (by repeat (first | exact Ext.refl _ | assumption | apply Ext.drewN | apply Ext.drew | apply Ext.alloc))) (by omega) z5.zi (by omega)).mono ?_); rintro e w6 ⟨s6, A6, n6, c6, rfl, z6, hx6⟩; have he6 : Ext v1 w6 := Ext.trans (by repeat (first | exact Ext.refl _ | assumption | apply Ext.drewN | apply Ext.drew | apply Ext.alloc)) hx6; (try have z9 := z9.ext hx6); clear f1 f2 f3 f4 h1 h2 h3 h4 i1 i2 i3 i4 j1 j2 j3 j4 k1 k2 k3 k4; obtain ⟨f1, f2, f3, f4⟩ := (hb7.ext he6).two; obtain ⟨h1, h2, h3, h4⟩ := (hb8.ext he6).two; obtain ⟨i1, i2, i3, i4⟩ := (hb2.ext he6).two; obtain ⟨j1, j2, j3, j4⟩ := (hb3.ext he6).two; obtain ⟨k1, k2, k3, k4⟩ := (hb4.ext he6).two)
      | (go_at_call 24; (with_reducible refine (zint_Add (zr.zi.ext (by repeat (first | exact Ext.refl _ | assumption | apply Ext.drewN | apply Ext.drew | apply Ext.alloc))) (by omega) (hy.ext (e1.trans (by repeat (first | exact Ext.refl _ | assumption | apply Ext.drewN | apply Ext.drew | apply Ext.alloc)))) (by omega)).mono ?_); rintro e w9 ⟨s9, A9, n9, c9, rfl, z9, hx9⟩; have he9 : Ext v1 w9 := Ext.trans (by repeat (first | exact Ext.refl _ | assumption | apply Ext.drewN | apply Ext.drew | apply Ext.alloc)) hx9; (try have z5 := z5.ext hx9); (try have z6 := z6.ext hx9); clear f1 f2 f3 f4 h1 h2 h3 h4 i1 i2 i3 i4 j1 j2 j3 j4 k1 k2 k3 k4; obtain ⟨f1, f2, f3, f4⟩ := (hb7.ext he9).two; obtain ⟨h1, h2, h3, h4⟩ := (hb8.ext he9).two; obtain ⟨i1, i2, i3, i4⟩ := (hb2.ext he9).two; obtain ⟨j1, j2, j3, j4⟩ := (hb3.ext he9).two; obtain ⟨k1, k2, k3, k4⟩ := (hb4.ext he9).two))
    all_goals
      clear f1 f2 f3 f4 h1 h2 h3 h4 i1 i2 i3 i4 j1 j2 j3 j4 k1 k2 k3 k4
      first
      | (obtain ⟨wb, hwb⟩ : ∃ wb, (((w6.setCell ⟨g3, 0, none⟩ (.bool s6)).setCell ⟨g3, 1, none⟩ (.slice A6 n6 c6)).setCell ⟨g4, 0, none⟩ (.bool s9)).setCell ⟨g4, 1, none⟩ (.slice A9 n9 c9) = wb := ⟨_, rfl⟩
         rw [hwb]
         have hL := he6)
      | (obtain ⟨wb, hwb⟩ : ∃ wb, (((w9.setCell ⟨g3, 0, none⟩ (.bool s6)).setCell ⟨g3, 1, none⟩ (.slice A6 n6 c6)).setCell ⟨g4, 0, none⟩ (.bool s9)).setCell ⟨g4, 1, none⟩ (.slice A9 n9 c9) = wb := ⟨_, rfl⟩
         rw [hwb]
         have hL := he9)
      have s1 := he5.size
      have s2 := he6.size
      have s3 := he9.size
      have s4 : wa.heap.size ≤ v1.heap.size := x1.size
      have q3 : Bk wb g3 27 [.bool s6, .slice A6 n6 c6] := by rw [← hwb]; exact ((hb3.ext hL).two_set _ _).two_far n34 _ _
      have q4 : Bk wb g4 27 [.bool s9, .slice A9 n9 c9] := by rw [← hwb]; exact ((hb4.ext hL).two_far n43 _ _).two_set _ _
      have r5 : Zr wb w.heap.size s6 A6 n6 c6 (x.tdiv y - 1) := by
        rw [← hwb]
        exact ((z6.upd (by first | omega | (simp; omega)) (Upd.two _ _)).upd (by first | omega | (simp; omega)) (Upd.two _ _)).mono (by first | omega | (simp; omega))
      have r6 : Zr wb w.heap.size s9 A9 n9 c9 (x.tmod y + y) := by
        rw [← hwb]
        exact ((z9.upd (by first | omega | (simp; omega)) (Upd.two _ _)).upd (by first | omega | (simp; omega)) (Upd.two _ _)).mono (by first | omega | (simp; omega))
      have eb : Ext w wb := by rw [← hwb]; exact (Upd.two _ _).ext ((Upd.two _ _).ext (e1.trans hL) (by omega)) (by omega)
      clear hwb
      go_wp2_with fail
      refine bodyPost_ret (res_iie rfl rfl rfl rfl q3 q4) rfl ?_
      exact ⟨_, _, HF, s6, A6, n6, c6, s9, A9, n9, c9, rfl, r5, r6, eb⟩
  · have hsr : sr = false := by rw [zr.sgn]; exact decide_eq_false hr0
    have HF : Hid (Euc (x.tdiv y) (x.tmod y) x y) := euc_same H0.out hr0
    subst hsr
    clear hr0
    go_upto_region 3 with (fail)
    clear f1 f2 f3 f4 h1 h2 h3 h4 i1 i2 i3 i4
    obtain ⟨f1, f2, f3, f4⟩ := hb7.two
    obtain ⟨h1, h2, h3, h4⟩ := hb8.two
    obtain ⟨i1, i2, i3, i4⟩ := hb3.two
    obtain ⟨k1, k2, k3, k4⟩ := hb4.two
    go_region_held3 (fun w' => w'.cell? ⟨g7, 0, none⟩ = some (.bool sq) ∧ w'.cell? ⟨g7, 1, none⟩ = some (.slice Aq nq cq) ∧ w'.cell? ⟨g8, 0, none⟩ = some (.bool false) ∧ w'.cell? ⟨g8, 1, none⟩ = some (.slice Ar nr cr)) (go_keep) (fail)
    all_goals
      go_wp2_with fail
      first
      | (refine bodyPost_ret (res_iie rfl rfl rfl rfl (((hb3.drew).two_set _ _).two_far n34 _ _) (((hb4.drew).two_far n43 _ _).two_set _ _)) rfl ?_
         exact ⟨x.tdiv y, x.tmod y, HF, _, _, _, _, _, _, _, _, rfl, (((zq.ext (Ext.refl _).drew).upd (by omega) (Upd.two _ _)).upd (by omega) (Upd.two _ _)).mono (by omega), (((zr.ext (Ext.refl _).drew).upd (by omega) (Upd.two _ _)).upd (by omega) (Upd.two _ _)).mono (by omega), (Upd.two _ _).ext ((Upd.two _ _).ext e1.drew (by omega)) (by omega)⟩)
      | (refine bodyPost_ret (res_iie rfl rfl rfl rfl (((hb3.drew).two_far n34 _ _).two_set _ _) (((hb4.drew).two_set _ _).two_far n43 _ _)) rfl ?_
         exact ⟨x.tdiv y, x.tmod y, HF, _, _, _, _, _, _, _, _, rfl, (((zq.ext (Ext.refl _).drew).upd (by omega) (Upd.two _ _)).upd (by omega) (Upd.two _ _)).mono (by omega), (((zr.ext (Ext.refl _).drew).upd (by omega) (Upd.two _ _)).upd (by omega) (Upd.two _ _)).mono (by omega), (Upd.two _ _).ext ((Upd.two _ _).ext e1.drew (by omega)) (by omega)⟩)
def ModP (w : World) (x y : Int) (e : Ending) (w' : World) : Prop := ∃ q r, Hid (Euc q r x y) ∧ RetZE w r 0 e w'
theorem zint_Mod {w : World} {s t : Bool} {A B : Option Addr} {n cap m cap' : Nat} {x y : Int} (hx : Zi w s A n cap x) (hl : n ≤ 68719476736) (hy : Zi w t B m cap' y) (hl' : m ≤ 68719476736) (h0 : 0 < y) :
    Calls Try.prog 69 #[.agg #[.bool s, .slice A n cap], .agg #[.bool t, .slice B m cap']] w (ModP w x y) := by
  have H0 := Lib.hid h0
  clear h0
  go_enter Try.func69, Try.ntmps69
  go_upto_region 1 with (fail)
  obtain ⟨g, g2, g3, wa, hg3, hg2, hg, hwa, hb1, hb2, hb3, hea, l12, l23, l3, n12, n21, n13, n31, n23, n32⟩ := boxes3 w 27 27 27 (.bool s) (.slice A n cap) (.bool t) (.slice B m cap') (.bool false) (.slice none 0 0)
  rw [hg3, hg2, hg, hwa]
  have hgw : w.heap.size ≤ g := Nat.le_of_eq hg
  clear hwa hg hg2 hg3
  obtain ⟨f1, f2, f3, f4⟩ := hb1.two
  obtain ⟨h1, h2, h3, h4⟩ := hb2.two
  go_wp2_with fail
  refine (zint_Euclid (hx.ext hea) hl (hy.ext hea) hl' H0.out).mono ?_
  rintro e w1 ⟨q, r, HF, sq, Aq, nq, cq, sr, Ar, nr, cr, rfl, zq, zr, hx1⟩
  clear f1 f2 f3 f4 h1 h2 h3 h4
  go_upto_region 2 with (fail)
  obtain ⟨g7, g8, v1, hg8, hg7, hv1, hb7, hb8, he, l78, l8, n78, n87⟩ := boxN2 w1 27 27 [.bool sq, .slice Aq nq cq] [.bool sr, .slice Ar nr cr]
  rw [hg8, hg7, hv1]
  have zr := zr.ext he
  have x1 := hx1.trans he
  have hb3 := hb3.ext x1
  have e1 := hea.trans x1
  clear hg8 hg7 hv1 he hb1 hx1
  obtain ⟨f1, f2, f3, f4⟩ := hb8.two
  obtain ⟨h1, h2, h3, h4⟩ := hb3.two
  go_wp2_with fail
  refine bodyPost_ret (res_ie rfl rfl rfl (hb3.two_set _ _)) rfl ?_
  exact ⟨q, r, HF, _, _, _, _, rfl, (zr.upd (by omega) (Upd.two _ _)).mono (by omega), (Upd.two _ _).ext e1 (by omega)⟩
end Go.Proofs.Ytmaconeeonkdgaa

/- bits.OnesCount64, its steps in plain arithmetic. No program in sight. -/
namespace Go.Proofs.Ytmaconeeonkdgaa.Pop
/-- the mask that repeats a byte k times -/
def mk (m : Nat) : Nat → Nat
  | 0 => 0
  | k + 1 => m + 256 * mk m k
theorem and_byte (a A m M : Nat) (ha : a < 256) (hm : m < 256) : (a + 256 * A) &&& (m + 256 * M) = (a &&& m) + 256 * (A &&& M) := by
  have h1 : ((a + 256 * A) &&& (m + 256 * M)) % 2 ^ 8 = a &&& m := by
    rw [Nat.and_mod_two_pow]
    congr 1 <;> omega
  have h2 : ((a + 256 * A) &&& (m + 256 * M)) / 2 ^ 8 = A &&& M := by
    rw [Nat.and_div_two_pow]
    congr 1 <;> omega
  have h3 := Nat.mod_add_div ((a + 256 * A) &&& (m + 256 * M)) (2 ^ 8)
  rw [h1, h2] at h3
  exact h3.symm
def f1 (k x : Nat) : Nat := (x / 2 &&& mk 85 k) + (x &&& mk 85 k)
def f2 (k x : Nat) : Nat := (x / 4 &&& mk 51 k) + (x &&& mk 51 k)
def f3 (k x : Nat) : Nat := (x / 16 + x) &&& mk 15 k
def d1 (b : Nat) : Nat := (b / 2 &&& 85) + (b &&& 85)
def d2 (b : Nat) : Nat := (b / 4 &&& 51) + (b &&& 51)
def d3 (b : Nat) : Nat := (b / 16 + b) &&& 15
def pc (b : Nat) : Nat := d3 (d2 (d1 b))
theorem t1 : ∀ b : Fin 256, ∀ p : Fin 2, ((b.val / 2 + 128 * p.val) &&& 85) = (b.val / 2 &&& 85) := by decide +kernel
theorem t2 : ∀ b : Fin 256, ∀ p : Fin 4, ((b.val / 4 + 64 * p.val) &&& 51) = (b.val / 4 &&& 51) := by decide +kernel
theorem t3 : ∀ b : Fin 256, ∀ p : Fin 5, ((d2 (d1 b.val) / 16 + d2 (d1 b.val) + 16 * p.val) &&& 15) = pc b.val := by decide +kernel
theorem t4 : ∀ b : Fin 256, d1 b.val < 256 ∧ d2 (d1 b.val) < 69 ∧ d2 (d1 b.val) % 16 ≤ 4 ∧ pc b.val ≤ 8 ∧ (pc b.val = 0 → b.val = 0) ∧ (128 ≤ b.val → pc b.val ≤ 1 → b.val = 128) := by decide +kernel
theorem f1_step {k b B : Nat} (hb : b < 256) : f1 (k + 1) (b + 256 * B) = d1 b + 256 * f1 k B := by
  unfold f1 d1
  rw [show mk 85 (k + 1) = 85 + 256 * mk 85 k from rfl]
  have e : (b + 256 * B) / 2 = (b / 2 + 128 * (B % 2)) + 256 * (B / 2) := by omega
  rw [e, and_byte _ _ _ _ (by omega) (by omega), and_byte _ _ _ _ hb (by omega), t1 ⟨b, hb⟩ ⟨B % 2, by omega⟩]
  show (b / 2 &&& 85) + _ + _ = _
  omega
theorem f2_step {k b B : Nat} (hb : b < 256) : f2 (k + 1) (b + 256 * B) = d2 b + 256 * f2 k B := by
  unfold f2 d2
  rw [show mk 51 (k + 1) = 51 + 256 * mk 51 k from rfl]
  have e : (b + 256 * B) / 4 = (b / 4 + 64 * (B % 4)) + 256 * (B / 4) := by omega
  rw [e, and_byte _ _ _ _ (by omega) (by omega), and_byte _ _ _ _ hb (by omega), t2 ⟨b, hb⟩ ⟨B % 4, by omega⟩]
  show (b / 4 &&& 51) + _ + _ = _
  omega
/-- all three steps, byte by byte: the higher part's lowest half byte is at most 4 -/
theorem steps {k b B : Nat} (hb : b < 256) (hB : f2 k (f1 k B) % 16 ≤ 4) :
    f3 (k + 1) (f2 (k + 1) (f1 (k + 1) (b + 256 * B))) = pc b + 256 * f3 k (f2 k (f1 k B)) ∧ f2 (k + 1) (f1 (k + 1) (b + 256 * B)) % 16 ≤ 4 := by
  obtain ⟨h1, h2, h3, _⟩ := t4 ⟨b, hb⟩
  rw [f1_step hb, f2_step h1]
  refine ⟨?_, by omega⟩
  generalize f2 k (f1 k B) = C at *
  unfold f3
  rw [show mk 15 (k + 1) = 15 + 256 * mk 15 k from rfl]
  have e : (d2 (d1 b) + 256 * C) / 16 + (d2 (d1 b) + 256 * C) = (d2 (d1 b) / 16 + d2 (d1 b) + 16 * (C % 16)) + 256 * (C / 16 + C) := by omega
  have h2' : d2 (d1 b) < 69 := h2
  rw [e, and_byte _ _ _ _ (by omega) (by omega), t3 ⟨b, hb⟩ ⟨C % 16, by omega⟩]
theorem eight {b0 b1 b2 b3 b4 b5 b6 b7 : Nat} (h0 : b0 < 256) (h1 : b1 < 256) (h2 : b2 < 256) (h3 : b3 < 256) (h4 : b4 < 256) (h5 : b5 < 256) (h6 : b6 < 256) (h7 : b7 < 256) :
    f3 8 (f2 8 (f1 8 (b0 + 256 * (b1 + 256 * (b2 + 256 * (b3 + 256 * (b4 + 256 * (b5 + 256 * (b6 + 256 * (b7 + 256 * 0))))))))))
      = pc b0 + 256 * (pc b1 + 256 * (pc b2 + 256 * (pc b3 + 256 * (pc b4 + 256 * (pc b5 + 256 * (pc b6 + 256 * pc b7)))))) := by
  have s7 := steps (k := 0) (B := 0) h7 (by decide)
  have s6 := steps h6 s7.2
  have s5 := steps h5 s6.2
  have s4 := steps h4 s5.2
  have s3 := steps h3 s4.2
  have s2 := steps h2 s3.2
  have s1 := steps h1 s2.2
  have s0 := steps h0 s1.2
  rw [s0.1, s1.1, s2.1, s3.1, s4.1, s5.1, s6.1, s7.1]
  simp [f3, mk]
theorem folds {p0 p1 p2 p3 p4 p5 p6 p7 : Nat} (h0 : p0 ≤ 8) (h1 : p1 ≤ 8) (h2 : p2 ≤ 8) (h3 : p3 ≤ 8) (h4 : p4 ≤ 8) (h5 : p5 ≤ 8) (h6 : p6 ≤ 8) (h7 : p7 ≤ 8) {x3 x4 x5 x6 : Nat}
    (e3 : x3 = p0 + 256 * (p1 + 256 * (p2 + 256 * (p3 + 256 * (p4 + 256 * (p5 + 256 * (p6 + 256 * p7))))))) (e4 : x4 = x3 + x3 / 256) (e5 : x5 = x4 + x4 / 65536) (e6 : x6 = x5 + x5 / 4294967296) :
    x6 % 128 = p0 + p1 + p2 + p3 + p4 + p5 + p6 + p7 ∧ x6 < 18446744073709551616 := by
  have g4 : x4 = (p0 + p1) + 256 * ((p1 + p2) + 256 * ((p2 + p3) + 256 * ((p3 + p4) + 256 * ((p4 + p5) + 256 * ((p5 + p6) + 256 * ((p6 + p7) + 256 * p7)))))) := by omega
  clear e3 e4
  have g5 : x5 = (p0 + p1 + p2 + p3) + 256 * ((p1 + p2 + p3 + p4) + 256 * ((p2 + p3 + p4 + p5) + 256 * ((p3 + p4 + p5 + p6) + 256 * ((p4 + p5 + p6 + p7) + 256 * ((p5 + p6 + p7) + 256 * ((p6 + p7) + 256 * p7)))))) := by omega
  clear g4 e5
  have gq : x5 / 4294967296 = (p4 + p5 + p6 + p7) + 256 * ((p5 + p6 + p7) + 256 * ((p6 + p7) + 256 * p7)) := by omega
  rw [gq] at e6
  have g6 : x6 = (p0 + p1 + p2 + p3 + p4 + p5 + p6 + p7) + 256 * (((p1 + p2 + p3 + p4) + 256 * ((p2 + p3 + p4 + p5) + 256 * ((p3 + p4 + p5 + p6) + 256 * ((p4 + p5 + p6 + p7) + 256 * ((p5 + p6 + p7) + 256 * ((p6 + p7) + 256 * p7)))))) + ((p5 + p6 + p7) + 256 * ((p6 + p7) + 256 * p7))) := by omega
  clear gq e6 g5
  omega
/-- a word whose highest bit stands has the count 1 just where it is 2^63 -/
theorem one {x x1 x2 x3 x4 x5 x6 : Nat} (hx : x < 18446744073709551616) (hh : 9223372036854775808 ≤ x) (e1 : x1 = f1 8 x) (e2 : x2 = f2 8 x1) (e3 : x3 = f3 8 x2) (e4 : x4 = x3 + x3 / 256) (e5 : x5 = x4 + x4 / 65536) (e6 : x6 = x5 + x5 / 4294967296) :
    x6 % 128 = 1 ↔ x = 9223372036854775808 := by
  obtain ⟨b0, q0, hb0, hq0⟩ : ∃ b q, b < 256 ∧ x = b + 256 * q := ⟨x % 256, x / 256, by omega, by omega⟩
  obtain ⟨b1, q1, hb1, hq1⟩ : ∃ b q, b < 256 ∧ q0 = b + 256 * q := ⟨q0 % 256, q0 / 256, by omega, by omega⟩
  obtain ⟨b2, q2, hb2, hq2⟩ : ∃ b q, b < 256 ∧ q1 = b + 256 * q := ⟨q1 % 256, q1 / 256, by omega, by omega⟩
  obtain ⟨b3, q3, hb3, hq3⟩ : ∃ b q, b < 256 ∧ q2 = b + 256 * q := ⟨q2 % 256, q2 / 256, by omega, by omega⟩
  obtain ⟨b4, q4, hb4, hq4⟩ : ∃ b q, b < 256 ∧ q3 = b + 256 * q := ⟨q3 % 256, q3 / 256, by omega, by omega⟩
  obtain ⟨b5, q5, hb5, hq5⟩ : ∃ b q, b < 256 ∧ q4 = b + 256 * q := ⟨q4 % 256, q4 / 256, by omega, by omega⟩
  obtain ⟨b6, b7, hb6, hq6⟩ : ∃ b q, b < 256 ∧ q5 = b + 256 * q := ⟨q5 % 256, q5 / 256, by omega, by omega⟩
  have hb7 : b7 < 256 := by omega
  have hb7' : 128 ≤ b7 := by omega
  have e := eight hb0 hb1 hb2 hb3 hb4 hb5 hb6 hb7
  have ex : x = b0 + 256 * (b1 + 256 * (b2 + 256 * (b3 + 256 * (b4 + 256 * (b5 + 256 * (b6 + 256 * (b7 + 256 * 0))))))) := by omega
  rw [← ex, ← e1, ← e2, ← e3] at e
  have p0 := (t4 ⟨b0, hb0⟩).2.2.2
  have p1 := (t4 ⟨b1, hb1⟩).2.2.2
  have p2 := (t4 ⟨b2, hb2⟩).2.2.2
  have p3 := (t4 ⟨b3, hb3⟩).2.2.2
  have p4 := (t4 ⟨b4, hb4⟩).2.2.2
  have p5 := (t4 ⟨b5, hb5⟩).2.2.2
  have p6 := (t4 ⟨b6, hb6⟩).2.2.2
  have p7 := (t4 ⟨b7, hb7⟩).2.2.2
  have hf := (folds p0.1 p1.1 p2.1 p3.1 p4.1 p5.1 p6.1 p7.1 e e4 e5 e6).1
  simp only at p0 p1 p2 p3 p4 p5 p6 p7
  rw [hf]
  show (pc b0 + pc b1 + pc b2 + pc b3 + pc b4 + pc b5 + pc b6 + pc b7 = 1) ↔ _
  constructor
  · intro h
    have h7 : pc b7 ≠ 0 := fun hz => by have := p7.2.1 hz; omega
    have hs : pc b0 + pc b1 + pc b2 + pc b3 + pc b4 + pc b5 + pc b6 = 0 ∧ pc b7 = 1 := by clear p0 p1 p2 p3 p4 p5 p6 p7 e e1 e2 e3 e4 e5 e6 ex hq0 hq1 hq2 hq3 hq4 hq5 hq6 hf; omega
    obtain ⟨hs, h8⟩ := hs
    have z0 := p0.2.1 (by omega)
    have z1 := p1.2.1 (by omega)
    have z2 := p2.2.1 (by omega)
    have z3 := p3.2.1 (by omega)
    have z4 := p4.2.1 (by omega)
    have z5 := p5.2.1 (by omega)
    have z6 := p6.2.1 (by omega)
    have z7 := p7.2.2 hb7' (by omega)
    omega
  · intro h
    obtain rfl : b7 = 128 := by omega
    obtain rfl : b0 = 0 := by omega
    obtain rfl : b1 = 0 := by omega
    obtain rfl : b2 = 0 := by omega
    obtain rfl : b3 = 0 := by omega
    obtain rfl : b4 = 0 := by omega
    obtain rfl : b5 = 0 := by omega
    obtain rfl : b6 = 0 := by omega
    decide
end Go.Proofs.Ytmaconeeonkdgaa.Pop

/- bits.OnesCount64 where the highest bit stands; zint.Small; zint.Of of any int64 -/
namespace Go.Proofs.Ytmaconeeonkdgaa
open Go.RowKit

theorem i64_and {x y : Nat} (hx : x ≤ 9223372036854775807) (hy : y ≤ 9223372036854775807) (P : Program) (t : TypeId) (w : World) : (binOp .and t (.int .i64 (x : Int)) (.int .i64 (y : Int))).run P w = .ok (.int .i64 ((x &&& y : Nat) : Int)) w := by
  have e : IntKind.i64.wrap ((BitVec.ofInt 64 (x : Int) &&& BitVec.ofInt 64 (y : Int)).toNat : Int) = ((x &&& y : Nat) : Int) := by
    rw [BitVec.toNat_and, ofInt_64 (by omega), ofInt_64 (by omega), wrap_i64_nat (Nat.le_trans Nat.and_le_left hx)]
  rw [← e]; rfl
theorem first_word {xs : List Nat} (hw : Wf xs) (h : nv xs < WB) : xs.getD 0 0 = nv xs := by
  cases xs with
  | nil => rfl
  | cons x r =>
    rw [nv_cons] at h ⊢
    have hr : nv r = 0 := by
      refine Nat.eq_zero_of_not_pos (fun hp => ?_)
      have := Nat.mul_le_mul_left WB hp
      omega
    rw [hr, Nat.mul_zero, Nat.add_zero]
    rfl
/-- an int64 and an error -/
def SmallP (w : World) (z : Int) (e : Ending) (w' : World) : Prop :=
  ∃ v er : Int, e = .returned (.tuple #[.int .i64 v, .int .i64 er]) ∧ Hid ((-9223372036854775808 ≤ z ∧ z ≤ 9223372036854775807 → v = z ∧ er = 0) ∧ (¬ (-9223372036854775808 ≤ z ∧ z ≤ 9223372036854775807) → v = 0 ∧ er = 5)) ∧ Ext w w'
theorem zint_Of_neg {w : World} {v : Nat} (hv1 : 1 ≤ v) (hv : v ≤ 9223372036854775808) :
    Calls Try.prog 15 #[.int .i64 (-(v : Int))] w (RetZ w (-(v : Int))) := by
  have hn : -(v : Int) < 0 := by omega
  have w1e : IntKind.u64.wrap (-(v : Int)) = 18446744073709551616 - (v : Int) := by
    simp only [IntKind.wrap, IntKind.bits, IntKind.signed]
    simp
    omega
  have w2e : IntKind.u64.wrap (-(18446744073709551616 - (v : Int))) = (v : Int) := by
    simp only [IntKind.wrap, IntKind.bits, IntKind.signed]
    simp
    omega
  have W1 := Lib.hid w1e
  have W2 := Lib.hid w2e
  clear w1e w2e
  go_enter Try.func15, Try.ntmps15
  go_upto_region 2 with (fail)
  obtain ⟨g, hg⟩ : ∃ g, w.heap.size = g := ⟨_, rfl⟩
  obtain ⟨wa, hwa⟩ : ∃ wa, w.alloc (.cells #[.bool false, .slice none 0 0] 27) = wa := ⟨_, rfl⟩
  rw [hg, hwa]
  have hb : Bk wa g 27 [.bool false, .slice none 0 0] := by rw [← hwa, ← hg]; exact Bk.new w 27 [.bool false, .slice none 0 0]
  have hea : Ext w wa := by rw [← hwa]; exact (Ext.refl w).alloc _
  have hga : w.heap.size ≤ g := Nat.le_of_eq hg
  have hgl : g < wa.heap.size := hb.lt
  clear hwa hg
  obtain ⟨k1, k2, k3, k4⟩ := hb.two
  have h1 : Rd (wa.alloc (.cells #[.int .u64 (v : Int)] 47)) (some ⟨wa.heap.size, 0, none⟩) 1 1 [v] := Rd.one wa (by omega)
  have w1e := W1.out
  have w2e := W2.out
  go_wp2_with fail
  clear w1e w2e
  refine (nat_Least (h1.ext (by repeat (first | exact Ext.refl _ | assumption | apply Ext.drewN | apply Ext.drew | apply Ext.alloc))) (by omega)).mono ?_
  rintro e w1 ⟨A1, n1, c1, rfl, hn1, hr1, ho1, hx1⟩
  rw [nv_one] at hn1 ho1
  have hx1' : Ext wa w1 := Ext.trans (by repeat (first | exact Ext.refl _ | assumption | apply Ext.drewN | apply Ext.drew | apply Ext.alloc)) hx1
  have hd := hb.ext hx1'
  have hsz := hx1'.size
  go_wp2_with fail
  refine (zint_of hn1.out).mono ?_
  rintro e w2 ⟨s', rfl, hs', hx2⟩
  have hd := hd.ext hx2
  clear k1 k2 k3 k4
  obtain ⟨k1, k2, k3, k4⟩ := hd.two
  go_wp2_with fail
  refine bodyPost_ret (res_int rfl rfl (hd.two_set _ _)) rfl ?_
  exact fin_int hd ((Zr_of hs'.out hn1.out ho1 (sg_true _)).ext hx2) (by simp; omega) (by omega) (hea.trans (hx1'.trans hx2))
theorem zint_OfI {w : World} {v : Int} (h1 : -9223372036854775808 ≤ v) (h2 : v ≤ 9223372036854775807) : Calls Try.prog 15 #[.int .i64 v] w (RetZ w v) := by
  by_cases h : 0 ≤ v
  · obtain ⟨m, rfl⟩ := Int.eq_ofNat_of_zero_le h
    exact zint_Of (by omega)
  · obtain ⟨m, hm⟩ : ∃ m : Nat, v = -(m : Int) := ⟨v.natAbs, by omega⟩
    subst hm
    exact zint_Of_neg (by omega) (by omega)
end Go.Proofs.Ytmaconeeonkdgaa

/- divnat.power, and the plain laws of Newton's steps -/
namespace Go.Proofs.Ytmaconeeonkdgaa
open Go.RowKit

/-- the mean of k numbers, k - 1 of them alike: without division -/
theorem mean_ge (t s : Nat) : ∀ m : Nat, (m + 1) * t * s ^ m ≤ t ^ (m + 1) + m * s ^ (m + 1) := by
  intro m
  induction m with
  | zero => simp
  | succ m ih =>
    have h1 := Nat.mul_le_mul_left t ih
    have hsq : 2 * (t * s) ≤ t * t + s * s := by
      rcases Nat.le_total t s with h | h
      · obtain ⟨d, rfl⟩ := Nat.exists_eq_add_of_le h
        have e1 : (t + d) * (t + d) = t * t + t * d + (t * d + d * d) := by rw [Nat.add_mul, Nat.mul_add, Nat.mul_add, Nat.mul_comm d t]
        have e2 : t * (t + d) = t * t + t * d := Nat.mul_add _ _ _
        rw [e1, e2]
        omega
      · obtain ⟨d, rfl⟩ := Nat.exists_eq_add_of_le h
        have e1 : (s + d) * (s + d) = s * s + s * d + (s * d + d * d) := by rw [Nat.add_mul, Nat.mul_add, Nat.mul_add, Nat.mul_comm d s]
        have e2 : (s + d) * s = s * s + s * d := by rw [Nat.add_mul, Nat.mul_comm d s]
        rw [e1, e2]
        omega
    have h2 := Nat.mul_le_mul_left ((m + 1) * s ^ m) hsq
    have e1 : t * ((m + 1) * t * s ^ m) = (m + 1) * s ^ m * (t * t) := by
      simp only [Nat.mul_comm, Nat.mul_left_comm, Nat.mul_assoc]
    have e2 : t * (t ^ (m + 1) + m * s ^ (m + 1)) = t ^ (m + 1 + 1) + m * (t * s ^ (m + 1)) := by
      rw [Nat.mul_add, Nat.pow_succ t (m + 1), Nat.mul_comm t (t ^ (m + 1)), Nat.mul_left_comm]
    have e3 : (m + 1) * s ^ m * (2 * (t * s)) = 2 * ((m + 1) * (t * s ^ (m + 1))) := by
      rw [Nat.pow_succ]; simp only [Nat.mul_comm, Nat.mul_left_comm, Nat.mul_assoc]
    have e4 : (m + 1) * s ^ m * (t * t + s * s) = (m + 1) * s ^ m * (t * t) + (m + 1) * s ^ (m + 1 + 1) := by
      rw [Nat.mul_add, Nat.pow_succ, Nat.pow_succ]; simp only [Nat.mul_comm, Nat.mul_assoc]
    rw [e1, e2] at h1
    rw [e3, e4] at h2
    have e5 : (m + 1 + 1) * t * s ^ (m + 1) = m * (t * s ^ (m + 1)) + 2 * (t * s ^ (m + 1)) := by
      rw [Nat.mul_assoc, ← Nat.add_mul]
    have e6 : (m + 1) * (t * s ^ (m + 1)) = m * (t * s ^ (m + 1)) + t * s ^ (m + 1) := Nat.succ_mul _ _
    rw [e5]
    rw [e6] at h2
    omega
/-- one step of Newton's: from above it stays above -/
theorem newton_above {X s q m : Nat} (hq : X < (q + 1) * s ^ m) : X < (((s * m + q) / (m + 1)) + 1) ^ (m + 1) := by
  have h1 := mean_ge (((s * m + q) / (m + 1)) + 1) s m
  have h2 : s * m + q + 1 ≤ (m + 1) * ((s * m + q) / (m + 1) + 1) := by
    have := Nat.lt_mul_div_succ (s * m + q) (show 0 < m + 1 by omega)
    exact this
  have h3 := Nat.mul_le_mul_right (s ^ m) h2
  have e : (s * m + q + 1) * s ^ m = m * s ^ (m + 1) + (q + 1) * s ^ m := by
    rw [Nat.add_assoc, Nat.add_mul, Nat.pow_succ]
    congr 1
    rw [Nat.mul_comm s m, Nat.mul_assoc, Nat.mul_comm s (s ^ m)]
  rw [e] at h3
  omega
/-- where the step does not fall, the root is there -/
theorem newton_stop {X s q m : Nat} (hs : 0 < s) (hq : q = X / s ^ m) (h : s ≤ (s * m + q) / (m + 1)) : s ^ (m + 1) ≤ X := by
  have h1 : s * (m + 1) ≤ s * m + q := (Nat.le_div_iff_mul_le (by omega)).1 h
  have h2 : s ≤ q := by rw [Nat.mul_succ] at h1; omega
  rw [hq] at h2
  have := (Nat.le_div_iff_mul_le (Nat.pow_pos hs)).1 h2
  rw [Nat.pow_succ, Nat.mul_comm]
  exact this
theorem i64_shr {x s : Nat} (hs : s ≤ 63) (P : Program) (t : TypeId) (w : World) : (binOp .shr t (.int .i64 (x : Int)) (.int .i64 (s : Int))).run P w = .ok (.int .i64 ((x / 2 ^ s : Nat) : Int)) w := by
  have e : ((x : Int) / 2 ^ min (s : Int).toNat IntKind.i64.bits) = ((x / 2 ^ s : Nat) : Int) := by
    rw [Int.toNat_natCast, show min s IntKind.i64.bits = s from Nat.min_eq_left (by show s ≤ 64; omega)]; simp
  simp only [binOp]
  rw [shift_shr_any _ _ _ _ (by omega), e]; rfl
theorem i64_and1 {x : Nat} (hx : x ≤ 9223372036854775807) (P : Program) (t : TypeId) (w : World) : (binOp .and t (.int .i64 (x : Int)) (.int .i64 ((1 : Nat) : Int))).run P w = .ok (.int .i64 ((x % 2 : Nat) : Int)) w := by
  have e : IntKind.i64.wrap ((BitVec.ofInt 64 (x : Int) &&& BitVec.ofInt 64 ((1 : Nat) : Int)).toNat : Int) = ((x % 2 : Nat) : Int) := by
    rw [BitVec.toNat_and, ofInt_64 (by omega), ofInt_64 (by omega), Nat.and_one_is_mod, wrap_i64_nat (by omega)]
  rw [← e]; rfl

theorem pow_half {S n k : Nat} : S ^ (n / 2 ^ k) = S ^ (n / 2 ^ (k + 1)) * S ^ (n / 2 ^ (k + 1)) * (if n / 2 ^ k % 2 = 1 then S else 1) := by
  have e : n / 2 ^ (k + 1) = n / 2 ^ k / 2 := by rw [Nat.pow_succ, Nat.div_div_eq_div_mul]
  rw [e, ← Nat.pow_add]
  generalize n / 2 ^ k = a
  split
  · rename_i h
    rw [← Nat.pow_succ]
    congr 1; omega
  · rename_i h
    rw [Nat.mul_one]
    congr 1; omega
theorem pow_le_whole {S n k : Nat} : S ^ (n / 2 ^ k) ≤ S ^ n + 1 := by
  rcases Nat.eq_zero_or_pos S with h | h
  · subst h
    have : (0 : Nat) ^ (n / 2 ^ k) ≤ 1 := by
      rcases Nat.eq_zero_or_pos (n / 2 ^ k) with e | e
      · rw [e]; simp
      · rw [Nat.zero_pow e]; omega
    generalize (0 : Nat) ^ n = z
    omega
  · have := Nat.pow_le_pow_right h (Nat.div_le_self n (2 ^ k))
    omega
set_option maxHeartbeats 1000000 in
theorem divnat_power {w : World} {A : Option Addr} {n cap : Nat} {xs : List Nat} (hx : Rd w A n cap xs) (hl : n ≤ 17179869184) {k : Nat} (hk : k ≤ 4611686018427387904) (hL : (wd (nv xs ^ k)).length ≤ 17179869184) :
    Calls Try.prog 106 #[.slice A n cap, .int .i64 (k : Int)] w (RetW w (nv xs ^ k)) := by
  have HL := Lib.hid hL
  clear hL
  have small : ∀ j, (wd (nv xs ^ (k / 2 ^ j))).length ≤ 17179869185 := by
    intro j
    refine Nat.le_trans (len_wd_mono pow_le_whole) ?_
    have h1 := len_wd_add (nv xs ^ k) 1
    have h2 : (wd 1).length = 1 := by decide +kernel
    have := HL.out
    omega
  have SM := Lib.hid small
  clear small
  go_enter Try.func106, Try.ntmps106
  go_wp2_with fail
  refine (bits_Len k (by omega) _).mono ?_
  rintro e w' ⟨b, hb, hb64, rfl, rfl⟩
  obtain ⟨wa, hwa⟩ : ∃ wa, w.alloc (.cells #[.int .u64 1] 47) = wa := ⟨_, rfl⟩
  rw [hwa]
  have h1 : Own wa w.heap.size 47 1 (some ⟨w.heap.size, 0, none⟩) 1 1 ((wd 1).map W64) := by
    have e1 : wd 1 = [1] := by decide +kernel
    rw [e1, ← hwa]
    exact Own.mk_ (Nat.le_refl _) (Bk.new w 47 [.int .u64 1]) (Nat.le_refl _) (by rw [len_maxLen]; omega) rfl rfl
  have he : Ext w wa := by rw [← hwa]; exact (Ext.refl w).alloc _
  have hstart : Hid (nv xs ^ (k / 2 ^ b) = 1) := by
    show _ = _
    rw [Nat.div_eq_of_lt (by rw [hb.out]; exact lt_blen k)]; rfl
  clear hwa
  go_wp2_with fail
  go_loopw [5, 6] (fun u v wr => ∃ (P : Option Addr) (m c j : Nat), u = .slice P m c ∧ v = .int .i64 ((j : Int) - 1) ∧ j ≤ b ∧ Hid (m = (wd (nv xs ^ (k / 2 ^ j))).length) ∧ Own wr w.heap.size 47 1 P m c ((wd (nv xs ^ (k / 2 ^ j))).map W64) ∧ Ext w wr) (fun u v wr => (intOf v + 1).toNat)
  case atStart => exact ⟨_, 1, 1, b, rfl, rfl, Nat.le_refl _, (show _ = _ by rw [hstart.out]; decide +kernel), by rw [hstart.out]; exact h1, he⟩
  case round =>
    obtain ⟨P, m, c, j, rfl, rfl, hj, hm, ho, hr⟩ := hrel
    clear h1 he hstart
    by_cases hj0 : 0 < j
    · obtain ⟨j, rfl⟩ : ∃ i, j = i + 1 := ⟨j - 1, by omega⟩
      have ek : ((j + 1 : Nat) : Int) - 1 = (j : Int) := by omega
      rw [ek]
      have hmb : m ≤ 17179869185 := by rw [hm.out]; exact SM.out _
      have hph := Lib.hid (@pow_half (nv xs) k j)
      have hrd := ho.rd (Wf_wd _)
      go_wp2_with fail
      refine (mulnat_Square hrd (by omega)).mono ?_
      rintro e w2 ⟨A2, n2, c2, rfl, hn2, hr2, ho2, hx2⟩
      rw [nv_wd] at hn2 hr2 ho2
      have hn2b : n2 ≤ 34359738370 := by
        have := len_wd_mul (nv xs ^ (k / 2 ^ (j + 1))) (nv xs ^ (k / 2 ^ (j + 1)))
        have h3 := SM.out (j + 1)
        rw [hn2.out]; omega
      by_cases hodd : k / 2 ^ j % 2 = 1
      · have HO := Lib.hid hodd
        clear hodd
        go_wp2_with (first
          | ((with_reducible refine at_slot (some 20) ?_); refine wpl_i64 rfl rfl rfl rfl rfl (i64_shr (x := k) (s := j) (by omega)) ?_; intro d hd)
          | ((with_reducible refine at_slot (some 21) ?_); refine wpl_i64 rfl rfl rfl rfl rfl (i64_and1 (x := d) (by rw [hd.out]; exact Nat.le_trans (Nat.div_le_self _ _) (by omega))) ?_; intro b2 hb2; have bt : ((b2 : Int) == 1) = true := (by rw [hb2.out, hd.out, HO.out]; rfl)))
        refine (mulnat_Mul hr2 (hx.ext (hr.trans hx2)) (by omega)).mono ?_
        rintro e w3 ⟨A3, n3, c3, rfl, hn3, hr3, ho3, hx3⟩
        have ep : nv xs ^ (k / 2 ^ (j + 1)) * nv xs ^ (k / 2 ^ (j + 1)) * nv xs = nv xs ^ (k / 2 ^ j) := by
          have := hph.out
          rw [if_pos HO.out] at this
          exact this.symm
        rw [nv_wd, ep] at hn3 hr3 ho3
        have HE := (hr.trans hx2).size
        clear ep
        go_wp2_with fail
        go_roundw
        case rel => exact ⟨A3, n3, c3, j, rfl, rfl, by omega, hn3, ho3.mono HE, (hr.trans hx2).trans hx3⟩
        case measure => simp [intOf]
      · have HO := Lib.hid hodd
        clear hodd
        go_wp2_with (first
          | ((with_reducible refine at_slot (some 20) ?_); refine wpl_i64 rfl rfl rfl rfl rfl (i64_shr (x := k) (s := j) (by omega)) ?_; intro d hd)
          | ((with_reducible refine at_slot (some 21) ?_); refine wpl_i64 rfl rfl rfl rfl rfl (i64_and1 (x := d) (by rw [hd.out]; exact Nat.le_trans (Nat.div_le_self _ _) (by omega))) ?_; intro b2 hb2; have bt : ((b2 : Int) == 1) = false := (by have h1 := hb2.out; have h2 := HO.out; rw [← hd.out] at h2; simp; omega)))
        have ep : nv xs ^ (k / 2 ^ (j + 1)) * nv xs ^ (k / 2 ^ (j + 1)) = nv xs ^ (k / 2 ^ j) := by
          have := hph.out
          rw [if_neg HO.out, Nat.mul_one] at this
          exact this.symm
        rw [ep] at hn2 ho2
        go_roundw
        case rel => exact ⟨A2, n2, c2, j, rfl, rfl, by omega, hn2, ho2.mono hr.size, hr.trans hx2⟩
        case measure => simp [intOf]
    · obtain rfl : j = 0 := by omega
      have ek : ((0 : Nat) : Int) - 1 = -1 := rfl
      rw [ek]
      have e0 : k / 2 ^ 0 = k := by rw [Nat.pow_zero, Nat.div_one]
      rw [e0] at hm ho
      clear e0
      go_wp2_with fail
      go_ret
      exact ⟨P, m, c, rfl, hm, ho.rd (Wf_wd _), ho, hr⟩
end Go.Proofs.Ytmaconeeonkdgaa

/- divnat.root, Sqrt, Root -/
namespace Go.Proofs.Ytmaconeeonkdgaa
open Go.RowKit

theorem i64_quo' {a b : Int} {x y : Nat} (ha : a = (x : Int)) (hb : b = (y : Int)) (hy : y ≠ 0) (hx : x ≤ 9223372036854775807) (P : Program) (t : TypeId) (w : World) : (binOp .quo t (.int .i64 a) (.int .i64 b)).run P w = .ok (.int .i64 ((x / y : Nat) : Int)) w := by
  subst ha; subst hb
  exact i64_quo hy hx P t w
theorem u64_shl_i {x s : Nat} (hs : s ≤ 64) (P : Program) (t : TypeId) (w : World) : (binOp .shl t (.int .u64 (x : Int)) (.int .i64 (s : Int))).run P w = .ok (.int .u64 ((x * 2 ^ s % 18446744073709551616 : Nat) : Int)) w := by
  have e : ((x : Int) * 2 ^ min (s : Int).toNat IntKind.u64.bits) = ((x * 2 ^ s : Nat) : Int) := by
    rw [Int.toNat_natCast, show min s IntKind.u64.bits = s from Nat.min_eq_left hs]; simp
  simp only [binOp]
  rw [shift_shl_any _ _ _ _ (by omega), e, wrap_u64_nat]; rfl
theorem len_two_pow {m L : Nat} (h : m < 64 * L) {x : Nat} (hx : x ≤ 2 ^ m) : (wd x).length ≤ L := by
  refine len_wd_le ?_
  rw [WB_pow, ← Nat.pow_mul]
  exact Nat.lt_of_le_of_lt hx (Nat.pow_lt_pow_right (by omega) h)

/-- r is X's root to the power k, rounded down -/
def IsRoot (X k r : Nat) : Prop := r ^ k ≤ X ∧ X < (r + 1) ^ k
theorem IsRoot.le {X k r s : Nat} (h : IsRoot X k r) (hs : X < (s + 1) ^ k) : r ≤ s := by
  refine Nat.le_of_not_lt (fun hlt => ?_)
  have h1 := Nat.pow_le_pow_left (Nat.succ_le_of_lt hlt) k
  have := h.1
  rw [Nat.succ_eq_add_one] at h1
  omega
theorem IsRoot.uniq {X k r s : Nat} (h : IsRoot X k r) (g : IsRoot X k s) : r = s := Nat.le_antisymm (h.le g.2) (g.le h.2)
def RootP (w : World) (X k : Nat) (e : Ending) (w' : World) : Prop := ∃ r, Hid (IsRoot X k r) ∧ RetW w r e w'

theorem root_start {X T k : Nat} (hk : 1 ≤ k) (hT : T = (blen X + k - 1) / k) : X < (2 ^ T + 1) ^ k := by
  have h1 := lt_blen X
  have h3 : blen X ≤ T * k := by
    have h2 := Nat.lt_mul_div_succ (blen X + k - 1) (show 0 < k by omega)
    rw [← hT, Nat.mul_add, Nat.mul_one, Nat.mul_comm k] at h2
    omega
  refine Nat.lt_of_lt_of_le h1 (Nat.le_trans (Nat.pow_le_pow_right (by omega) h3) ?_)
  rw [Nat.pow_mul]
  exact Nat.pow_le_pow_left (by omega) k
theorem divnat_root_zero {w : World} {A : Option Addr} {n cap : Nat} {xs : List Nat} (hx : Rd w A n cap xs) (hl : n ≤ 1099511627775) (h0 : nv xs = 0) {k : Int} :
    Calls Try.prog 87 #[.slice A n cap, .int .i64 k] w (RetW w 0) := by
  go_enter Try.func87, Try.ntmps87
  go_wp2_with fail
  refine (nat_BitLen hx hl).mono ?_
  rintro e w1 ⟨b, hb, rfl, hx1⟩
  obtain rfl : b = 0 := by rw [hb.out, h0]; rfl
  go_wp2_with fail
  go_ret
  exact RetW_nil rfl hx1
theorem set_pow {q s : Nat} : nv ((List.replicate (q + 1) 0).set q (2 ^ s)) = 2 ^ (64 * q + s) := by
  have h := nv_set (l := List.replicate (q + 1) 0) (k := q) (by rw [List.length_replicate]; omega) (2 ^ s)
  have e : (List.replicate (q + 1) 0).getD q 0 = 0 := by
    simp [List.getD_eq_getElem?_getD]
  rw [nv_zeros, e, Nat.mul_zero, Nat.add_zero, Nat.zero_add] at h
  rw [h, WB_pow, ← Nat.pow_mul, ← Nat.pow_add]
set_option maxHeartbeats 8000000 in
theorem divnat_root {w : World} {A : Option Addr} {n cap : Nat} {xs : List Nat} (hx : Rd w A n cap xs) (hl : n ≤ 67108864) (h0 : nv xs ≠ 0) {m K : Nat} (hm : 1 ≤ m) (hm2 : m ≤ blen (nv xs)) (hK1 : m + 1 ≤ K) (hK2 : K ≤ m + 1) :
    Calls Try.prog 87 #[.slice A n cap, .int .i64 (K : Int)] w (RootP w (nv xs) K) := by
  have hbl : blen (nv xs) ≤ 64 * n := blen_le (by rw [Nat.pow_mul, ← WB_pow, ← hx.len]; exact nv_lt hx.wf)
  have H0 := Lib.hid h0
  have HK : Hid (K = m + 1) := Nat.le_antisymm hK2 hK1
  clear h0
  go_enter Try.func87, Try.ntmps87
  go_wp2_with fail
  refine (nat_BitLen hx (by omega)).mono ?_
  rintro e w1 ⟨b, hb, rfl, hx1⟩
  have hb1 : b ≤ 64 * n := by rw [hb.out]; exact hbl
  have hb2 : m ≤ b := by rw [hb.out]; exact hm2
  have bz : ((b : Int) == 0) = false := by simp; omega
  clear hbl hm2
  obtain ⟨t, ht⟩ : ∃ t, (b + m) / K = t := ⟨_, rfl⟩
  have htb : t ≤ b := by
    rw [← ht, HK.out]
    refine Nat.le_of_lt_succ ((Nat.div_lt_iff_lt_mul (by omega)).2 ?_)
    have h3 : (b + 1) * (m + 1) = b * m + b + m + 1 := by rw [Nat.add_mul, Nat.mul_add]; omega
    rw [Nat.succ_eq_add_one, h3]
    generalize b * m = z
    omega
  obtain ⟨q, hq⟩ : ∃ q, t / 64 = q := ⟨_, rfl⟩
  obtain ⟨s, hs⟩ : ∃ s, t % 64 = s := ⟨_, rfl⟩
  have hqb : q ≤ n := by omega
  have hqt : t = 64 * q + s := by omega
  have hs64 : s < 64 := by omega
  have Q24 : ∀ (P : Program) (t' : TypeId) (w : World), (binOp .quo t' (.int .i64 ((b : Int) + (K : Int) - 1)) (.int .i64 (K : Int))).run P w = .ok (.int .i64 ((t : Nat) : Int)) w := by
    rw [← ht]
    exact i64_quo' (a := (b : Int) + (K : Int) - 1) (b := (K : Int)) (x := b + m) (y := K) (by omega) rfl (by omega) (by omega)
  have Q25 : ∀ (P : Program) (t' : TypeId) (w : World), (binOp .quo t' (.int .i64 (t : Int)) (.int .i64 64)).run P w = .ok (.int .i64 ((q : Nat) : Int)) w := by
    rw [← hq]
    exact i64_quo (x := t) (y := 64) (by omega) (by omega)
  have Q38 : ∀ (P : Program) (t' : TypeId) (w : World), (binOp .rem t' (.int .i64 (t : Int)) (.int .i64 64)).run P w = .ok (.int .i64 ((s : Nat) : Int)) w := by
    rw [← hs]
    exact i64_rem (x := t) (y := 64) (by omega) (by omega)
  have hp : 2 ^ s ≤ 2 ^ 63 := Nat.pow_le_pow_right (by omega) (by omega)
  obtain ⟨z, hz⟩ : ∃ z, 2 ^ s = z := ⟨_, rfl⟩
  have hzb : z ≤ 18446744073709551615 := by omega
  have Q39 : ∀ (P : Program) (t' : TypeId) (w : World), (binOp .shl t' (.int .u64 1) (.int .i64 (s : Int))).run P w = .ok (.int .u64 ((z : Nat) : Int)) w := by
    have := u64_shl_i (x := 1) (s := s) (by omega)
    rw [Nat.one_mul, Nat.mod_eq_of_lt (by omega), hz] at this
    exact this
  have HT : Hid (t = (blen (nv xs) + K - 1) / K) := by
    show _ = _
    rw [← ht, ← hb.out]; congr 1
    omega
  have HTK : Hid (t * m ≤ 2 * b) := by
    have h1 := Nat.div_mul_le_self (b + m) K
    rw [ht, HK.out, Nat.mul_succ] at h1
    show _ ≤ _
    omega
  have HZ := Lib.hid hz
  have HQT := Lib.hid hqt
  have hmk := run_make1 (P := Try.prog) Try.underlying25 info64 rfl (by decide) ((q : Int) + 1) (by omega) (by omega)
  have et : ((q : Int) + 1).toNat = q + 1 := by omega
  rw [et] at hmk
  clear et ht hq hs hp hz hqt
  go_upto_region 6 with (first
    | ((with_reducible refine at_slot (some 24) ?_); refine wpl_i64 rfl rfl rfl rfl rfl Q24 ?_; intro r hr; obtain rfl : t = r := hr.out.symm; clear hr)
    | ((with_reducible refine at_slot (some 25) ?_); refine wpl_i64 rfl rfl rfl rfl rfl Q25 ?_; intro r hr; obtain rfl : q = r := hr.out.symm; clear hr)
    | ((with_reducible refine at_slot (some 33) ?_); refine wpl_i64 rfl rfl rfl rfl rfl Q24 ?_; intro r hr; obtain rfl : t = r := hr.out.symm; clear hr))
  clear hmk
  obtain ⟨g, hg⟩ : ∃ g, w1.heap.size = g := ⟨_, rfl⟩
  rw [hg]
  obtain ⟨wa, hwa⟩ : ∃ wa, w1.alloc (.cells (zc (.int .u64 0) (q + 1)) 47) = wa := ⟨_, rfl⟩
  rw [hwa]
  have hbk : Bk wa g 47 ((List.replicate (q + 1) 0).map W64) := by
    rw [← hwa, ← hg, ← replicate_W64]; exact Bk.new' _ _ _
  have hea : Ext w wa := by rw [← hwa]; exact hx1.alloc _
  have hgs : w.heap.size ≤ g := by rw [← hg]; exact hx1.size
  clear hg hwa
  obtain ⟨o, ho, _, hco⟩ := hbk.word (Wf_zeros _) (i := q) (by rw [List.length_replicate]; omega)
  have hfr := hbk.frozen q
  go_upto_region 7 with (first
    | ((with_reducible refine at_slot (some 36) ?_); refine wpl_i64 rfl rfl rfl rfl rfl Q25 ?_; intro r hr; obtain rfl : q = r := hr.out.symm; clear hr)
    | ((with_reducible refine at_slot (some 38) ?_); refine wpl_i64 rfl rfl rfl rfl rfl Q38 ?_; intro r hr; obtain rfl : s = r := hr.out.symm; clear hr)
    | ((with_reducible refine at_slot (some 39) ?_); refine wpl_u64 rfl rfl rfl rfl rfl Q39 (by omega) ?_; intro r hr hrb; obtain rfl : z = r := hr.out.symm; clear hr hrb))
  have hRd : Rd (wa.setCell ⟨g, q, none⟩ (.int .u64 (z : Int))) (some ⟨g, 0, none⟩) (q + 1) (q + 1) ((List.replicate (q + 1) 0).set q z) := by
    have hB : Bk (wa.setCell ⟨g, q, none⟩ (.int .u64 (z : Int))) g 47 (((List.replicate (q + 1) 0).set q z).map W64) := by
      rw [← map_W64_set]; exact hbk.set _ _
    have := hB.rd (Wf_set (Wf_zeros _) q (by rw [WB_def]; omega)) (o := 0) (n := q + 1) (cap := q + 1) (Nat.le_refl _) (by rw [List.length_set, List.length_replicate]; omega) (by rw [len_maxLen]; omega)
    rw [List.drop_zero, List.take_of_length_le (by rw [List.length_set, List.length_replicate]; omega)] at this
    exact this
  have hN0 : Hid (nv ((List.replicate (q + 1) 0).set q z) = 2 ^ t) := by
    show _ = _
    rw [← HZ.out, set_pow, ← HQT.out]
  have ek := Lib.hid (show (K : Int) - 1 = (m : Int) by omega)
  have hXn : Hid ((wd (nv xs)).length ≤ n) := by
    have := len_wd_nv hx.wf
    rw [hx.len] at this
    exact this
  have hPL : ∀ S, S ≤ 2 ^ t → (wd (S ^ m)).length ≤ 2 * n + 1 := by
    intro S hS
    refine len_two_pow (m := 2 * b) (by omega) ?_
    refine Nat.le_trans (Nat.pow_le_pow_left hS m) ?_
    rw [← Nat.pow_mul]
    exact Nat.pow_le_pow_right (by omega) HTK.out
  have HPL := Lib.hid hPL
  have hWm : Hid ((wd m).length ≤ 1) := len_wd_le (by rw [WB_def, Nat.pow_one]; omega)
  have hSL : ∀ S, S ≤ 2 ^ t → (wd S).length ≤ q + 1 := by
    intro S hS
    exact len_two_pow (m := t) (by rw [HQT.out]; omega) hS
  have HSL := Lib.hid hSL
  clear hPL hSL hbk hco hfr ho
  go_loopw [6] (fun u wr => ∃ (A' : Option Addr) (n' c' S : Nat) (l : List Nat), u = .slice A' n' c' ∧ n' ≤ q + 1 ∧ Rd wr A' n' c' l ∧ Hid (nv l = S) ∧ Hid (0 < S) ∧ Hid (nv xs < (S + 1) ^ K) ∧ Hid (S ≤ 2 ^ t) ∧ Ext w wr) (fun u wr => numAt wr u)
  case atStart => exact ⟨_, q + 1, q + 1, 2 ^ t, _, rfl, Nat.le_refl _, hRd, hN0, Nat.two_pow_pos t, root_start (by omega) HT.out, Nat.le_refl _, hea.setCell hgs _⟩
  case round =>
    obtain ⟨A2, n2, c2, S, l, rfl, hn2, hrd, hS, hS0, hup, hST, hr⟩ := hrel
    clear hRd hN0 hea hgs hx1
    have hP0 : Hid (S ^ m ≠ 0) := Nat.ne_of_gt (Nat.pow_pos hS0.out)
    go_wp2_with fail
    rw [ek.out]
    refine (divnat_power hrd (by omega) (k := m) (by omega) (by rw [hS.out]; exact Nat.le_trans (HPL.out S hST.out) (by omega))).mono ?_
    rintro e w3 ⟨A3, n3, c3, rfl, hn3, hr3, ho3, hx3⟩
    rw [hS.out] at hn3 hr3
    have hn3b : n3 ≤ 2 * n + 1 := by rw [hn3.out]; exact HPL.out S hST.out
    go_wp2_with fail
    refine (divnat_DivMod (hx.ext (hr.trans hx3)) (by omega) hr3 (by omega) (by rw [nv_wd]; exact hP0.out)).mono ?_
    rintro e w4 ⟨Aq, nq, cq, Ar, nr, cr, rfl, hnq, hrq, hoq, hnr, hrr, hor, hx4⟩
    rw [nv_wd] at hnq hrq
    have hnqb : nq ≤ n := by rw [hnq.out]; exact Nat.le_trans (len_wd_mono (Nat.div_le_self _ _)) hXn.out
    clear ho3 hoq hnr hrr hor
    go_wp2_with fail
    rw [ek.out]
    refine (mulnat_Word (hrd.ext (hx3.trans hx4)) (by omega) (x := m) (by omega)).mono ?_
    rintro e w5 ⟨A5, n5, c5, rfl, hn5, hr5, ho5, hx5⟩
    rw [hS.out] at hn5 hr5
    have hn5b : n5 ≤ q + 2 := by
      have h1 := len_wd_mul S m
      have h2 := HSL.out S hST.out
      have h3 := hWm.out
      rw [hn5.out]; omega
    go_wp2_with fail
    refine (nat_Add hr5 (by omega) (hrq.ext hx5) (by omega)).mono ?_
    rintro e w6 ⟨A6, n6, c6, rfl, hn6, hr6, ho6, hx6⟩
    rw [nv_wd, nv_wd] at hn6 hr6
    have hn6b : n6 ≤ q + n + 3 := by
      have h1 := len_wd_add (S * m) (nv xs / S ^ m)
      rw [← hn5.out, ← hnq.out, ← hn6.out] at h1
      omega
    clear ho5 ho6
    go_wp2_with fail
    refine (divnat_Word hr6 (by omega) (v := K) (by omega) (by omega)).mono ?_
    rintro e w7 ⟨A7, n7, c7, r7, rfl, hr7k, hr7b, hn7, hr7, ho7, hx7⟩
    rw [nv_wd] at hn7 hr7
    have hx37 : Ext wr w7 := hx3.trans (hx4.trans (hx5.trans (hx6.trans hx7)))
    have hn7b : n7 ≤ q + n + 3 := by
      rw [hn7.out]; exact Nat.le_trans (len_wd_mono (Nat.div_le_self _ _)) (by rw [← hn6.out]; exact hn6b)
    obtain ⟨N, hN⟩ : ∃ N, (S * m + nv xs / S ^ m) / K = N := ⟨_, rfl⟩
    rw [hN] at hn7 hr7
    have HN := Lib.hid hN
    clear hr7k ho7 hN
    go_wp2_with fail
    refine (nat_Cmp hr7 (by omega) (hrd.ext hx37) (by omega)).mono ?_
    rintro e w8 ⟨c, hc, hcl, hch, rfl, hx8⟩
    rw [nv_wd, hS.out] at hc
    by_cases hlt : c < 0
    · have hNS : N < S := by rw [hc.out] at hlt; exact cmp3_neg.1 hlt
      have HNS := Lib.hid hNS
      clear hNS
      have hab : Hid (nv xs < (N + 1) ^ K) := by
        have h1 := newton_above (X := nv xs) (s := S) (q := nv xs / S ^ m) (m := m) (by
          have := Nat.lt_mul_div_succ (nv xs) (Nat.pos_of_ne_zero hP0.out)
          rw [Nat.mul_comm] at this
          exact this)
        rw [← HK.out, HN.out] at h1
        exact h1
      go_wp2_with fail
      go_roundw
      case rel =>
        refine ⟨A7, n7, c7, N, wd N, rfl, ?_, hr7.ext hx8, nv_wd N, ?_, hab, Nat.le_trans (Nat.le_of_lt HNS.out) hST.out, hr.trans (hx37.trans hx8)⟩
        · rw [hn7.out]; exact HSL.out N (Nat.le_trans (Nat.le_of_lt HNS.out) hST.out)
        · refine Nat.pos_of_ne_zero (fun e => ?_)
          have := hab.out
          rw [e, Nat.zero_add, Nat.one_pow] at this
          exact H0.out (by omega)
      case measure =>
        rw [(hr7.ext hx8).numAt, hrd.numAt, nv_wd, hS.out]
        exact HNS.out
    · have hge : 0 ≤ c := by omega
      have hNS : Hid (S ≤ N) := by
        rw [hc.out] at hlt
        exact Nat.le_of_not_lt (fun h => hlt (cmp3_neg.2 h))
      go_wp2_with fail
      refine (nat_Least (hrd.ext (hx37.trans hx8)) (by omega)).mono ?_
      rintro e w9 ⟨A9, n9, c9, rfl, hn9, hr9, ho9, hx9⟩
      rw [hS.out] at hn9 hr9 ho9
      go_wp2_with fail
      go_ret
      have hx08 := hr.trans (hx37.trans hx8)
      refine ⟨S, ⟨?_, hup.out⟩, A9, n9, c9, rfl, hn9, hr9, ho9.mono hx08.size, hx08.trans hx9⟩
      rw [HK.out]
      refine newton_stop hS0.out rfl ?_
      rw [← HK.out, HN.out]
      exact hNS.out

theorem blen_pos {X : Nat} (h : X ≠ 0) : 1 ≤ blen X := Nat.pos_of_ne_zero (fun e => h (blen_eq_zero.1 e))
theorem IsRoot.zero {k : Nat} (hk : 1 ≤ k) : IsRoot 0 k 0 := ⟨by rw [Nat.zero_pow (by omega)]; exact Nat.le_refl _, by rw [Nat.zero_add, Nat.one_pow]; omega⟩
theorem IsRoot.one {X : Nat} : IsRoot X 1 X := ⟨by rw [Nat.pow_one]; exact Nat.le_refl _, by rw [Nat.pow_one]; omega⟩
theorem IsRoot.le_self {X k r : Nat} (hk : 1 ≤ k) (h : IsRoot X k r) : r ≤ X := by
  refine Nat.le_trans ?_ h.1
  rcases Nat.eq_zero_or_pos r with e | e
  · omega
  · have := Nat.pow_le_pow_right e hk
    rw [Nat.pow_one] at this
    exact this
/-- the square root, and what is left -/
def SqrtP (w : World) (X : Nat) (e : Ending) (w' : World) : Prop := ∃ r, Hid (IsRoot X 2 r) ∧ RetQR w r (X - r * r) e w'
theorem divnat_Sqrt {w : World} {A : Option Addr} {n cap : Nat} {xs : List Nat} (hx : Rd w A n cap xs) (hl : n ≤ 67108864) :
    Calls Try.prog 67 #[.slice A n cap] w (SqrtP w (nv xs)) := by
  have hXn : Hid ((wd (nv xs)).length ≤ n) := by
    have := len_wd_nv hx.wf
    rw [hx.len] at this
    exact this
  go_enter Try.func67, Try.ntmps67
  go_wp2_with fail
  refine (nat_Least hx (by omega)).mono ?_
  rintro e w1 ⟨A1, n1, c1, rfl, hn1, hr1, ho1, hx1⟩
  have hn1b : n1 ≤ n := by rw [hn1.out]; exact hXn.out
  go_wp2_with fail
  have hroot : Calls Try.prog 87 #[.slice A1 n1 c1, .int .i64 2] w1 (RootP w1 (nv xs) 2) := by
    by_cases h0 : nv xs = 0
    · refine (divnat_root_zero hr1 (by omega) (by rw [nv_wd]; exact h0)).mono ?_
      intro e w2 h
      exact ⟨0, (show IsRoot _ _ _ by rw [h0]; exact IsRoot.zero (by omega)), h⟩
    · have := divnat_root hr1 (by omega) (by rw [nv_wd]; exact h0) (m := 1) (K := 2) (Nat.le_refl _) (by rw [nv_wd]; exact blen_pos h0) (by omega) (by omega)
      rw [nv_wd] at this
      exact this
  refine hroot.mono ?_
  rintro e w2 ⟨r, hir, A2, n2, c2, rfl, hn2, hr2, ho2, hx2⟩
  have hrr : Hid (r * r ≤ nv xs) := by
    have := hir.out.1
    rw [Nat.pow_two] at this
    exact this
  have hn2b : n2 ≤ n := by rw [hn2.out]; exact Nat.le_trans (len_wd_mono (hir.out.le_self (by omega))) hXn.out
  clear hroot
  go_wp2_with fail
  refine (mulnat_Square hr2 (by omega)).mono ?_
  rintro e w3 ⟨A3, n3, c3, rfl, hn3, hr3, ho3, hx3⟩
  rw [nv_wd] at hn3 hr3
  have hn3b : n3 ≤ n := by rw [hn3.out]; exact Nat.le_trans (len_wd_mono hrr.out) hXn.out
  go_wp2_with fail
  refine (nat_Sub (hx.ext (hx1.trans (hx2.trans hx3))) (by omega) hr3 (by omega) (by rw [nv_wd]; exact hrr.out)).mono ?_
  rintro e w4 ⟨A4, n4, c4, rfl, hn4, hr4, ho4, hx4⟩
  rw [nv_wd] at hn4 hr4 ho4
  go_wp2_with fail
  go_ret2
  have hx34 := hx3.trans hx4
  exact ⟨r, hir, A2, n2, c2, A4, n4, c4, rfl, hn2, hr2.ext hx34, (ho2.ext hx34).mono hx1.size, hn4, hr4, ho4.mono (hx1.trans (hx2.trans hx3)).size, hx1.trans (hx2.trans hx34)⟩

end Go.Proofs.Ytmaconeeonkdgaa

/- Contracts in one form: what a call answers, as a predicate on the value. -/
namespace Go.Proofs.Ytmaconeeonkdgaa
open Go.RowKit

theorem aggInt : AggT Try.prog 27 2 := ⟨fun _ => by kernel_rfl, fun _ => by kernel_rfl⟩
theorem aggFrac : AggT Try.prog 29 4 := ⟨fun _ => by kernel_rfl, fun _ => by kernel_rfl⟩
theorem aggTwo : AggT Try.prog 77 4 := ⟨fun _ => by kernel_rfl, fun _ => by kernel_rfl⟩
theorem cellBool : ∀ w, (isAgg 4).run Try.prog w = .ok false w := fun _ => by kernel_rfl
theorem cellWords : ∀ w, (isAgg 25).run Try.prog w = .ok false w := fun _ => by kernel_rfl
theorem mix : Try.prog.follows .mixedOrders = true := by kernel_rfl

/-- the value is u -/
def Is (u v : Value) (_ : World) : Prop := v = u
/-- the value is an integer of the call's own -/
def ZR (b : Nat) (z : Int) (v : Value) (w : World) : Prop := ∃ s A n c, v = .agg #[.bool s, .slice A n c] ∧ Zr w b s A n c z
/-- the value is a slice of words of the call's own: the least form of m -/
def WR (b : Nat) (m : Nat) (v : Value) (w : World) : Prop := ∃ A n c, v = .slice A n c ∧ n = (wd m).length ∧ Own w b 47 1 A n c ((wd m).map W64)
/-- the slice reads as the number m -/
def Wi (w : World) (A : Option Addr) (n c : Nat) (m : Nat) : Prop := ∃ xs, Rd w A n c xs ∧ nv xs = m
theorem Wi.ext {w w' : World} {A : Option Addr} {n c m : Nat} (h : Wi w A n c m) (e : Ext w w') : Wi w' A n c m := by
  obtain ⟨xs, h1, h2⟩ := h
  exact ⟨xs, h1.ext e, h2⟩
theorem Zi.wi {w : World} {s : Bool} {A : Option Addr} {n c : Nat} {z : Int} (h : Zi w s A n c z) : Wi w A n c z.natAbs := by
  obtain ⟨xs, h1, h2⟩ := h
  exact ⟨xs, h1, by rw [← h2, sg_abs]⟩
theorem Own.wi {w : World} {b : Nat} {t : TypeId} {A : Option Addr} {n c m : Nat} (h : Own w b t 1 A n c ((wd m).map W64)) : Wi w A n c m := ⟨_, h.rd (Wf_wd _), nv_wd m⟩
theorem Wi.zi {w : World} {A : Option Addr} {n c m : Nat} (h : Wi w A n c m) (s : Bool) : Zi w s A n c (sg s m) := by
  obtain ⟨xs, h1, h2⟩ := h
  exact ⟨xs, h1, by rw [h2]⟩
theorem Wi.len {w : World} {A : Option Addr} {n c m : Nat} (h : Wi w A n c m) : (wd m).length ≤ n := by
  obtain ⟨xs, h1, rfl⟩ := h
  have := len_wd_nv h1.wf
  rw [h1.len] at this; exact this
/-- a new variable -/
def PR (b : Nat) (T : TypeId) (vs : List Value) (v : Value) (w : World) : Prop := ∃ g, v = .pointer (some ⟨g, 0, none⟩) ∧ b ≤ g ∧ Bk w g T vs
theorem PR.old {b : Nat} {T : TypeId} {vs : List Value} {v : Value} {w : World} (h : PR b T vs v w) : OldIn w v := by
  obtain ⟨g, h1, _, h2⟩ := h
  exact ⟨g, h1, h2.lt⟩
theorem Zr_nat {w : World} {b m n c : Nat} {A : Option Addr} (hn : n = (wd m).length) (ho : Own w b 47 1 A n c ((wd m).map W64)) : Zr w b false A n c (m : Int) :=
  Zr_of (m := m) (s := false) (by rw [sg_false]; symm; exact decide_eq_false (by omega)) hn ho (sg_false m)
/-- two values, three -/
def T2 (R S : Value → World → Prop) (v : Value) (w : World) : Prop := ∃ a b, v = .tuple #[a, b] ∧ R a w ∧ S b w
def T3 (R S T : Value → World → Prop) (v : Value) (w : World) : Prop := ∃ a b c, v = .tuple #[a, b, c] ∧ R a w ∧ S b w ∧ T c w
/-- a call answers -/
def Gv (w : World) (R : Value → World → Prop) (e : Ending) (w' : World) : Prop := ∃ v, e = .returned v ∧ R v w' ∧ Ext w w'
section
variable {w w' : World} {b : Nat} {z x y : Int} {v u : Value} {R S T : Value → World → Prop}
theorem ZR.ext (h : ZR b z v w) (e : Ext w w') : ZR b z v w' := by
  obtain ⟨s, A, n, c, rfl, h⟩ := h
  exact ⟨s, A, n, c, rfl, h.ext e⟩
theorem ZR.cast (h : ZR b z v w) (e : z = x) : ZR b x v w := e ▸ h
theorem Is.ext (h : Is u v w) (_ : Ext w w') : Is u v w' := h
theorem gz (hb : b ≤ w.heap.size) (e : Ending) (w' : World) (h : RetZ w z e w') : Gv w (ZR b z) e w' := by
  obtain ⟨s, A, n, c, rfl, h1, h2⟩ := h
  exact ⟨_, rfl, ⟨s, A, n, c, rfl, h1.mono hb⟩, h2⟩
theorem gze {er : Int} (hb : b ≤ w.heap.size) (e : Ending) (w' : World) (h : RetZE w z er e w') : Gv w (T2 (ZR b z) (Is (.int .i64 er))) e w' := by
  obtain ⟨s, A, n, c, rfl, h1, h2⟩ := h
  exact ⟨_, rfl, ⟨_, _, rfl, ⟨s, A, n, c, rfl, h1.mono hb⟩, rfl⟩, h2⟩
theorem gzze {er : Int} (hb : b ≤ w.heap.size) (e : Ending) (w' : World) (h : RetZZE w x y er e w') : Gv w (T3 (ZR b x) (ZR b y) (Is (.int .i64 er))) e w' := by
  obtain ⟨s, A, n, c, s', B, m, c', rfl, h1, h1', h2⟩ := h
  exact ⟨_, rfl, ⟨_, _, _, rfl, ⟨s, A, n, c, rfl, h1.mono hb⟩, ⟨s', B, m, c', rfl, h1'.mono hb⟩, rfl⟩, h2⟩
theorem WR.ext {m : Nat} (h : WR b m v w) (e : Ext w w') : WR b m v w' := by
  obtain ⟨A, n, c, rfl, h1, h2⟩ := h
  exact ⟨A, n, c, rfl, h1, h2.ext e⟩
theorem gw {m : Nat} (hb : b ≤ w.heap.size) (e : Ending) (w' : World) (h : RetW w m e w') : Gv w (WR b m) e w' := by
  obtain ⟨A, n, c, rfl, h1, h2, h3, h4⟩ := h
  exact ⟨_, rfl, ⟨A, n, c, rfl, h1.out, h3.mono hb⟩, h4⟩
theorem gwe {m : Nat} {er : Int} (hb : b ≤ w.heap.size) (e : Ending) (w' : World) (h : RetWE w m er e w') : Gv w (T2 (WR b m) (Is (.int .i64 er))) e w' := by
  obtain ⟨A, n, c, rfl, h1, h2, h3, h4⟩ := h
  exact ⟨_, rfl, ⟨_, _, rfl, ⟨A, n, c, rfl, h1.out, h3.mono hb⟩, rfl⟩, h4⟩
theorem gqre {q r : Nat} {er : Int} (hb : b ≤ w.heap.size) (e : Ending) (w' : World) (h : RetQRE w q r er e w') : Gv w (T3 (WR b q) (WR b r) (Is (.int .i64 er))) e w' := by
  obtain ⟨A4, n4, c4, A5, n5, c5, rfl, hn4, hr4, ho4, hn5, hr5, ho5, hx4⟩ := h
  exact ⟨_, rfl, ⟨_, _, _, rfl, ⟨_, _, _, rfl, hn4.out, ho4.mono hb⟩, ⟨_, _, _, rfl, hn5.out, ho5.mono hb⟩, rfl⟩, hx4⟩
theorem Gv.imp (hi : ∀ v w, R v w → S v w) (e : Ending) (w' : World) (h : Gv w R e w') : Gv w S e w' := by
  obtain ⟨v, rfl, h1, h2⟩ := h
  exact ⟨v, rfl, hi _ _ h1, h2⟩
theorem ZR.imp {b' : Nat} (hb : b ≤ b') (v : Value) (w : World) (h : ZR b' z v w) : ZR b z v w := by
  obtain ⟨s, A, n, c, rfl, h⟩ := h
  exact ⟨s, A, n, c, rfl, h.mono hb⟩
theorem WR.imp {b' m : Nat} (hb : b ≤ b') (v : Value) (w : World) (h : WR b' m v w) : WR b m v w := by
  obtain ⟨A, n, c, rfl, h1, h2⟩ := h
  exact ⟨A, n, c, rfl, h1, h2.mono hb⟩
theorem T2.imp {R' S' : Value → World → Prop} (h1 : ∀ v w, R v w → R' v w) (h2 : ∀ v w, S v w → S' v w) (v : Value) (w : World) (h : T2 R S v w) : T2 R' S' v w := by
  obtain ⟨a, c, rfl, h3, h4⟩ := h
  exact ⟨a, c, rfl, h1 _ _ h3, h2 _ _ h4⟩
theorem T3.imp {R' S' T' : Value → World → Prop} (h1 : ∀ v w, R v w → R' v w) (h2 : ∀ v w, S v w → S' v w) (h0 : ∀ v w, T v w → T' v w) (v : Value) (w : World) (h : T3 R S T v w) : T3 R' S' T' v w := by
  obtain ⟨a, c, d, rfl, h3, h4, h5⟩ := h
  exact ⟨a, c, d, rfl, h1 _ _ h3, h2 _ _ h4, h0 _ _ h5⟩
theorem Is.imp {u : Value} (v : Value) (w : World) (h : Is u v w) : Is u v w := h
theorem gis {u : Value} (e : Ending) (w' : World) (h : e = .returned u ∧ Ext w w') : Gv w (Is u) e w' := ⟨_, h.1, rfl, h.2⟩
theorem gsgn (e : Ending) (w' : World) (h : SgnP z w e w') : Gv w (Is (.int .i64 z)) e w' := by
  obtain ⟨c, h1, _, _, rfl, h2⟩ := h
  exact ⟨_, rfl, (show Value.int .i64 c = _ by rw [h1.out]), h2⟩
theorem gbool {c : Bool} (e : Ending) (w' : World) (h : BoolP c w e w') : Gv w (Is (.bool c)) e w' := ⟨_, h.1, rfl, h.2⟩
end

section
variable {w : World} {b : Nat} (hb : b ≤ w.heap.size) {s t u : Bool} {A B C : Option Addr} {n cap m cap' k cap'' : Nat} {x y z : Int}
include hb
theorem g_zint_Add (hx : Zi w s A n cap x) (hl : n ≤ 274877906944) (hy : Zi w t B m cap' y) (hl' : m ≤ 274877906944) :
    Calls Try.prog 24 #[.agg #[.bool s, .slice A n cap], .agg #[.bool t, .slice B m cap']] w (Gv w (ZR b (x + y))) := (zint_Add hx hl hy hl').mono (gz hb)
theorem g_zint_Sub (hx : Zi w s A n cap x) (hl : n ≤ 274877906944) (hy : Zi w t B m cap' y) (hl' : m ≤ 274877906944) :
    Calls Try.prog 16 #[.agg #[.bool s, .slice A n cap], .agg #[.bool t, .slice B m cap']] w (Gv w (ZR b (x - y))) := (zint_Sub hx hl hy hl').mono (gz hb)
theorem g_zint_Mul (hx : Zi w s A n cap x) (hl : n ≤ 68719476736) (hy : Zi w t B m cap' y) (hl' : m ≤ 68719476736) :
    Calls Try.prog 17 #[.agg #[.bool s, .slice A n cap], .agg #[.bool t, .slice B m cap']] w (Gv w (ZR b (x * y))) := (zint_Mul hx hl hy hl').mono (gz hb)
theorem g_zint_MulAdd (hx : Zi w s A n cap x) (hl : n ≤ 68719476736) (hy : Zi w t B m cap' y) (hl' : m ≤ 68719476736) (hz : Zi w u C k cap'' z) (hl'' : k ≤ 68719476736) :
    Calls Try.prog 54 #[.agg #[.bool s, .slice A n cap], .agg #[.bool t, .slice B m cap'], .agg #[.bool u, .slice C k cap'']] w (Gv w (ZR b (x * y + z))) := (zint_MulAdd hx hl hy hl' hz hl'').mono (gz hb)
theorem g_zint_Neg (hx : Zi w s A n cap x) (hl : n ≤ 68719476736) : Calls Try.prog 61 #[.agg #[.bool s, .slice A n cap]] w (Gv w (ZR b (-x))) := (zint_Neg hx hl).mono (gz hb)
theorem g_zint_Abs (hx : Zi w s A n cap x) (hl : n ≤ 68719476736) : Calls Try.prog 68 #[.agg #[.bool s, .slice A n cap]] w (Gv w (ZR b (x.natAbs : Int))) := (zint_Abs hx hl).mono (gz hb)
theorem g_zint_Least (hx : Zi w s A n cap x) (hl : n ≤ 68719476736) : Calls Try.prog 59 #[.agg #[.bool s, .slice A n cap]] w (Gv w (ZR b x)) := (zint_Least hx hl).mono (gz hb)
theorem g_zint_Of {v : Int} (h1 : -9223372036854775808 ≤ v) (h2 : v ≤ 9223372036854775807) : Calls Try.prog 15 #[.int .i64 v] w (Gv w (ZR b v)) := (zint_OfI h1 h2).mono (gz hb)
theorem g_zint_Trunc (hx : Zi w s A n cap x) (hl : n ≤ 68719476736) (hy : Zi w t B m cap' y) (hl' : m ≤ 68719476736) (h0 : y ≠ 0) :
    Calls Try.prog 66 #[.agg #[.bool s, .slice A n cap], .agg #[.bool t, .slice B m cap']] w (Gv w (T3 (ZR b (x.tdiv y)) (ZR b (x.tmod y)) (Is (.int .i64 0)))) := (zint_Trunc hx hl hy hl' h0).mono (gzze hb)
theorem g_zint_Trunc_bad (hx : Zi w s A n cap x) (hl : n ≤ 68719476736) (hy : Zi w t B m cap' y) (hl' : m ≤ 68719476736) (h0 : y = 0) :
    Calls Try.prog 66 #[.agg #[.bool s, .slice A n cap], .agg #[.bool t, .slice B m cap']] w (Gv w (T3 (ZR b 0) (ZR b 0) (Is (.int .i64 4)))) := (zint_Trunc_bad hx hl hy hl' h0).mono (gzze hb)
omit hb in
theorem g_zint_of {m : Nat} (hn : n = (wd m).length) (ho : Own w b 47 1 A n cap ((wd m).map W64)) : Calls Try.prog 55 #[.bool s, .slice A n cap] w (Gv w (ZR b (sg s m))) :=
  (zint_of hn).mono fun e w' h => by
    obtain ⟨s', rfl, h1, h2⟩ := h
    exact ⟨_, rfl, ⟨s', A, n, cap, rfl, Zr_of h1.out hn (ho.ext h2) rfl⟩, h2⟩
omit hb in
theorem g_divnat_Exact_bad {i j : Nat} (hy : Wi w B m cap' j) (hl' : m ≤ 274877906944) (h0 : j = 0) :
    Calls Try.prog 82 #[.slice A n cap, .slice B m cap'] w (Gv w (Is (.tuple #[.slice none 0 0, .int .i64 4]))) := by
  obtain ⟨ys, h1, rfl⟩ := hy
  exact (divnat_Exact_bad h1 (by omega) h0).mono gis
omit hb in
theorem g_divnat_Exact_not {i j : Nat} (hx : Wi w A n cap i) (hl : n ≤ 274877906944) (hy : Wi w B m cap' j) (hl' : m ≤ 274877906944) (h0 : j ≠ 0) (h1 : i % j ≠ 0) :
    Calls Try.prog 82 #[.slice A n cap, .slice B m cap'] w (Gv w (Is (.tuple #[.slice none 0 0, .int .i64 8]))) := by
  obtain ⟨ys, hy, rfl⟩ := hy
  obtain ⟨xs, hx, rfl⟩ := hx
  exact (divnat_Exact_not hx hl hy hl' h0 h1).mono gis
theorem g_divnat_Exact {i j : Nat} (hx : Wi w A n cap i) (hl : n ≤ 274877906944) (hy : Wi w B m cap' j) (hl' : m ≤ 274877906944) (h0 : j ≠ 0) (h1 : i % j = 0) :
    Calls Try.prog 82 #[.slice A n cap, .slice B m cap'] w (Gv w (T2 (WR b (i / j)) (Is (.int .i64 0)))) := by
  obtain ⟨ys, hy, rfl⟩ := hy
  obtain ⟨xs, hx, rfl⟩ := hx
  exact (divnat_Exact hx hl hy hl' h0 h1).mono (gwe hb)
theorem g_divnat_Sqrt {i : Nat} (hx : Wi w A n cap i) (hl : n ≤ 67108864) :
    Calls Try.prog 67 #[.slice A n cap] w (fun e w' => ∃ r, IsRoot i 2 r ∧ Gv w (T2 (WR b r) (WR b (i - r * r))) e w') := by
  obtain ⟨xs, h1, rfl⟩ := hx
  refine (divnat_Sqrt h1 hl).mono ?_
  rintro e w' ⟨r, h2, A4, n4, c4, A5, n5, c5, rfl, hn4, hr4, ho4, hn5, hr5, ho5, hx4⟩
  exact ⟨r, h2.out, _, rfl, ⟨_, _, rfl, ⟨_, _, _, rfl, hn4.out, ho4.mono hb⟩, ⟨_, _, _, rfl, hn5.out, ho5.mono hb⟩⟩, hx4⟩
theorem g_zint_Exact (hx : Zi w s A n cap x) (hl : n ≤ 68719476736) (hy : Zi w t B m cap' y) (hl' : m ≤ 68719476736) (h0 : y ≠ 0) (h1 : y ∣ x) :
    Calls Try.prog 60 #[.agg #[.bool s, .slice A n cap], .agg #[.bool t, .slice B m cap']] w (Gv w (T2 (ZR b (x.tdiv y)) (Is (.int .i64 0)))) := (zint_Exact hx hl hy hl' h0 h1).mono (gze hb)
theorem g_bezout_Gcd (hx : Zi w s A n cap x) (hl : n ≤ 68719476736) (hy : Zi w t B m cap' y) (hl' : m ≤ 68719476736) :
    Calls Try.prog 38 #[.agg #[.bool s, .slice A n cap], .agg #[.bool t, .slice B m cap']] w (Gv w (ZR b (Int.gcd x y : Int))) := (bezout_Gcd hx hl hy hl').mono (gz hb)
end
section
variable {w : World} {s t : Bool} {A B : Option Addr} {n cap m cap' : Nat} {x y : Int}
theorem g_zint_Sign (hx : Zi w s A n cap x) (hl : n ≤ 68719476736) : Calls Try.prog 53 #[.agg #[.bool s, .slice A n cap]] w (Gv w (Is (.int .i64 (scmp x 0)))) := (zint_Sign hx hl).mono gsgn
theorem g_zint_Cmp (hx : Zi w s A n cap x) (hl : n ≤ 68719476736) (hy : Zi w t B m cap' y) (hl' : m ≤ 68719476736) :
    Calls Try.prog 23 #[.agg #[.bool s, .slice A n cap], .agg #[.bool t, .slice B m cap']] w (Gv w (Is (.int .i64 (scmp x y)))) := (zint_Cmp hx hl hy hl').mono gsgn
end
end Go.Proofs.Ytmaconeeonkdgaa

/- trellisref01: Sub, printed by p_ref1.py -/
namespace Go.Proofs.Ytmaconeeonkdgaa
open Go.RowKit

theorem sz_int (w : World) : (sizeOf 3).run Try.prog w = .ok 1 w := by kernel_rfl
theorem ag_int (w : World) : (isAgg 3).run Try.prog w = .ok false w := by kernel_rfl
theorem un_int : Try.prog.underlying 85 = some (.slice 3) := Try.underlying85
theorem Ri.at {b : Nat} (hb : 0 < b) {w : World} {A : Option Addr} {n c : Nat} {xs : List Nat} (h : Ri b w A n c xs) {i : Nat} (hi : i < n) :
    ∃ p, A.map (·.add (i * 1)) = some p ∧ w.cell? p = some (.int .i64 ((xs.getD i 0 : Nat) : Int)) ∧ xs.getD i 0 < b := by
  obtain ⟨a, x, rfl, hk, hlt, hc⟩ := h.get hb hi
  refine ⟨a.add i, by rw [Nat.mul_one]; rfl, ?_, by rw [hk.out]; exact hlt⟩
  rw [hk.out]; exact hc
theorem Ri.updL {b : Nat} {w w' : World} {A : Option Addr} {n c : Nat} {xs : List Nat} {g : Nat} (h : Ri b w A n c xs) (e : Upd g w w') (hne : 0 < c → ∀ a, A = some a → a.block ≠ g) : Ri b w' A n c xs :=
  ⟨⟨h.rv.len, h.rv.le, h.rv.max, fun i hi => by
    obtain ⟨a, ha, hc⟩ := h.rv.get i hi
    exact ⟨a, ha, e.cell hc (by rw [block_of_add]; exact hne (by have := h.rv.le; omega) a ha)⟩, fun a ha hc => Nat.lt_of_lt_of_le (h.rv.blk a ha hc) e.size⟩, h.wf⟩
/-- digits to the base 65536, as they are handed on -/
def SD (m : Nat) (v : Value) (w : World) : Prop := ∃ A k c, v = .slice A k c ∧ Ri 65536 w A k c (db 65536 m)
theorem gcmp {x y : Nat} {w : World} (e : Ending) (w' : World) (h : CmpP x y w e w') : Gv w (Is (.int .i64 (cmp3 x y))) e w' := by
  obtain ⟨c, h1, _, _, rfl, h2⟩ := h
  exact ⟨_, rfl, (show Value.int .i64 c = _ by rw [h1.out]), h2⟩
theorem len_db16w {w : World} {A : Option Addr} {n c : Nat} {xs : List Nat} (h : Rd w A n c xs) : (db 65536 (nv xs)).length ≤ 4 * n := by
  have := len_db16_nv h.wf
  rwa [h.len] at this

theorem g_ref1_Split {w : World} {A : Option Addr} {n c : Nat} {xs : List Nat} (hx : Rd w A n c xs) (hl : n ≤ 274877906943) : Calls Try.prog 95 #[.slice A n c] w (Gv w (SD (nv xs))) :=
  (ref1_Split hx hl).mono fun e w' h => by
    obtain ⟨A, n, c, rfl, _, h2, _, h4⟩ := h
    exact ⟨_, rfl, ⟨A, n, c, rfl, h2⟩, h4⟩
theorem g_ref1_Join {w : World} {b : Nat} (hb : b ≤ w.heap.size) {A : Option Addr} {n c : Nat} {ds : List Nat} (hx : Ri 65536 w A n c ds) (hl : n ≤ 1099511627775) : Calls Try.prog 97 #[.slice A n c] w (Gv w (WR b (nb 65536 ds))) := (ref1_Join hx hl).mono (gw hb)
theorem g_ref1_order {w : World} {A B : Option Addr} {n c m d x y : Nat} (hx : Ri 65536 w A n c (db 65536 x)) (hl : n ≤ 1099511627776) (hy : Ri 65536 w B m d (db 65536 y)) (hl' : m ≤ 1099511627776) :
    Calls Try.prog 98 #[.slice A n c, .slice B m d] w (Gv w (Is (.int .i64 (cmp3 x y)))) := (ref1_order hx hl hy hl').mono gcmp
theorem g_ref1_at {w : World} {A : Option Addr} {n c i : Nat} {ds : List Nat} (hx : Ri 65536 w A n c ds) (hl : n ≤ 1099511627776) (hi : i ≤ 4398046511104) : Calls Try.prog 96 #[.slice A n c, .int .i64 (i : Int)] w (Gv w (Is (.int .i64 ((ds.getD i 0 : Nat) : Int)))) :=
  (ref1_at hx hl (i := (i : Int)) (by omega) (by omega)).mono fun e w' h => by
    obtain ⟨x, h1, _, rfl, rfl⟩ := h
    have h2 := h1.out
    rw [Int.toNat_natCast] at h2
    exact ⟨_, rfl, (show Value.int .i64 (x : Int) = _ by rw [h2]), Ext.refl _⟩

theorem subd_step {ds es l : List Nat} {i d t t' : Nat} (hl : i < l.length) (hd : i < ds.length) (h : nb 65536 (l.take i) + nb 65536 (es.take i) = nb 65536 (ds.take i) + 65536 ^ i * t) (hs : d + es.getD i 0 + t = ds.getD i 0 + 65536 * t') :
    nb 65536 ((l.set i d).take (i + 1)) + nb 65536 (es.take (i + 1)) = nb 65536 (ds.take (i + 1)) + 65536 ^ (i + 1) * t' := by
  have he : nb 65536 (es.take (i + 1)) = nb 65536 (es.take i) + 65536 ^ i * es.getD i 0 := by
    by_cases h : i < es.length
    · exact nb_take_snoc _ _ _ h
    · rw [List.take_of_length_le (by omega), List.take_of_length_le (by omega), List.getD_eq_getElem?_getD, List.getElem?_eq_none (by omega)]
      rfl
  rw [nb_set_snoc 65536 hl, he, nb_take_snoc 65536 ds i hd, Nat.pow_succ, Nat.mul_assoc]
  have e : 65536 ^ i * (d + es.getD i 0 + t) = 65536 ^ i * (ds.getD i 0 + 65536 * t') := by rw [hs]
  simp only [Nat.mul_add] at e
  omega
theorem sub_done {x y n t : Nat} {l ds es : List Nat} (hds : ds = db 65536 x) (hes : es = db 65536 y) (hxy : y ≤ x) (hn : ds.length = n) (hl : l.length = n) (hw : Wfb 65536 l) (h : nb 65536 (l.take n) + nb 65536 (es.take n) = nb 65536 (ds.take n) + 65536 ^ n * t) : nb 65536 l = x - y := by
  have h1 : es.length ≤ n := by rw [← hn, hds, hes]; exact len_db_mono b16 hxy
  rw [List.take_of_length_le (by omega), List.take_of_length_le h1, List.take_of_length_le (by omega), hds, hes, nb_db b16, nb_db b16] at h
  have h2 := nb_lt hw
  rw [hl] at h2
  have h3 : t = 0 := by
    refine Nat.eq_zero_of_not_pos fun hp => ?_
    have h3 : 65536 ^ n * 1 ≤ 65536 ^ n * t := Nat.mul_le_mul_left _ hp
    omega
  rw [h3] at h
  omega

theorem cmp3_lt_f {x y : Nat} (h : y ≤ x) : cmpB .lss (cmp3 x y) 0 = some false := by
  have e : ¬ cmp3 x y < 0 := fun e => by have := cmp3_neg.1 e; omega
  exact lt_f (by omega)
theorem cmp3_le {x y : Nat} (h : y ≤ x) : y ≤ x := h
theorem Bk.ri0 {w : World} {g N : Nat} {t : TypeId} {l : List Nat} (h : Bk w g t (l.map I6)) (hw : Wfb 65536 l) (hl : l.length = N) (hN : N ≤ 9223372036854775807) : Ri 65536 w (some ⟨g, 0, none⟩) N N l := by
  have := h.ri hw (o := 0) (n := N) (cap := N) (Nat.le_refl _) (by omega) (by rw [len_maxLen]; exact hN)
  rwa [List.drop_zero, List.take_of_length_le (Nat.le_of_eq hl)] at this

set_option maxHeartbeats 4000000 in
theorem ref1_Sub {w : World} {A D : Option Addr} {n cap m cd : Nat} {xs ys : List Nat} (hx : Rd w A n cap xs) (hln : n ≤ 137438953472) (hy : Rd w D m cd ys) (hlm : m ≤ 137438953472) (hle : nv ys ≤ nv xs) :
    Calls Try.prog 78 #[.slice A n cap, .slice D m cd] w (Gv w (T2 (WR w.heap.size (nv xs - nv ys)) (Is (.int .i64 0)))) := by
  refine sx_enter Try.func78 rfl (n := 49) rfl (Nat.le_of_ble_eq_true rfl) (args := [.slice A n cap, .slice D m cd]) ?_
  refine cw_keep [(0, .slice A n cap), (1, .slice D m cd)] ⟨rfl, rfl, trivial⟩ ?_
  refine cw_seq ?_
  -- region 0
  refine cw_region ?_
  refine wl_assign rfl rfl (by decide) ?_
  refine wl_assign rfl rfl (by decide) ?_
  refine wl_nil ?_
  refine eo_then ?_
  refine cw_seq ?_
  -- region 1
  refine cw_region ?_
  refine wl_move rfl rfl (by decide) ?_
  refine wl_call rfl rfl (vs := [.slice A n cap]) (by kernel_rfl) (by decide) (g_ref1_Split hx (by omega)) ?_
  rintro _ v1 ⟨xr3, rfl, r3, e2⟩
  refine ret_intro ?_
  have hw1 : Ext w v1 := (Ext.refl w).trans e2
  obtain ⟨A4, n4, c4, rfl, rd4⟩ := r3
  refine wl_assign rfl rfl (by decide) ?_
  refine wl_nil ?_
  refine eo_then ?_
  refine cw_seq ?_
  -- region 2
  refine cw_region ?_
  refine wl_move rfl rfl (by decide) ?_
  refine wl_call rfl rfl (vs := [.slice D m cd]) (by kernel_rfl) (by decide) (g_ref1_Split (hy.ext e2) (by omega)) ?_
  rintro _ v5 ⟨xr7, rfl, r7, e6⟩
  refine ret_intro ?_
  have hw2 : Ext w v5 := hw1.trans e6
  obtain ⟨A8, n8, c8, rfl, rd8⟩ := r7
  refine wl_assign rfl rfl (by decide) ?_
  refine wl_nil ?_
  refine eo_then ?_
  refine cw_seq ?_
  refine cw_seq ?_
  have hll6 := rd4.len
  have hlb6 := len_db16w hx
  have hll7 := rd8.len
  have hlb7 := len_db16w hy
  -- region 3
  refine cw_region ?_
  refine wl_move rfl rfl (by decide) ?_
  refine wl_move rfl rfl (by decide) ?_
  refine wl_call rfl rfl (vs := [.slice A4 n4 c4, .slice A8 n8 c8]) (by kernel_rfl) (by decide) (g_ref1_order (rd4.ext e6) (by omega) rd8 (by omega)) ?_
  rintro _ v9 ⟨xr11, rfl, r11, e10⟩
  refine ret_intro ?_
  have hw3 : Ext w v9 := hw2.trans e10
  obtain rfl := r11
  refine wl_cmp rfl rfl rfl false (cmp3_lt_f hle) (by decide) ?_
  refine wl_nil ?_
  refine eo_then ?_
  refine cw_false rfl ?_
  refine cw_skip ?_
  refine eo_then ?_
  refine cw_seq ?_
  obtain ⟨ds, hds⟩ : ∃ ds, ds = (db 65536 (nv xs)) := ⟨_, rfl⟩
  rw [← hds] at rd4 hll6 hlb6
  have hwds := rd4.wf
  obtain ⟨es, hes⟩ : ∃ es, es = (db 65536 (nv ys)) := ⟨_, rfl⟩
  rw [← hes] at rd8 hll7 hlb7
  have hwes := rd8.wf
  -- region 5
  refine cw_region ?_
  refine wl_move rfl rfl (by decide) ?_
  refine wl_pure rfl rfl (v := .int .i64 ((n4 : Nat) : Int)) (by decide) (by kernel_rfl) ?_
  refine wl_make rfl (k := n4) rfl rfl rfl un_int infoInt rfl (by decide) (by omega) (by decide) fun g12 v13 hg14 hb15 e16 => ?_
  rw [replicate_I6] at hb15
  have ge17 : w.heap.size ≤ g12 := by rw [← hg14]; exact hw3.size
  have ne19 : 0 < cap → ∀ a, A = some a → a.block ≠ g12 := fun hc a ha => by have := ((hx.ext (e2.trans (e6.trans e10)))).rv.blk a ha hc; omega
  have ne20 : 0 < cd → ∀ a, D = some a → a.block ≠ g12 := fun hc a ha => by have := ((hy.ext (e2.trans (e6.trans e10)))).rv.blk a ha hc; omega
  have ne21 : 0 < c4 → ∀ a, A4 = some a → a.block ≠ g12 := fun hc a ha => by have := ((rd4.ext (e6.trans e10))).rv.blk a ha hc; omega
  have ne22 : 0 < c8 → ∀ a, A8 = some a → a.block ≠ g12 := fun hc a ha => by have := ((rd8.ext e10)).rv.blk a ha hc; omega
  clear hg14
  have hw4 : Ext w v13 := hw3.trans e16
  refine wl_assign rfl rfl (by decide) ?_
  refine wl_nil ?_
  refine eo_then ?_
  refine cw_seq ?_
  -- region 6
  refine cw_region ?_
  refine wl_assign rfl rfl (by decide) ?_
  refine wl_nil ?_
  refine eo_then ?_
  refine cw_seq ?_
  refine cw_seq ?_
  -- region 7
  refine cw_region ?_
  refine wl_assign rfl rfl (by decide) ?_
  refine wl_nil ?_
  refine eo_then ?_
  refine cw_block ?_
  refine cw_loop (T := World × Nat × Nat × List Nat)
    (fun ⟨wr, i, t, l⟩ => [(6, .slice A4 n4 c4), (7, .slice A8 n8 c8), (8, .slice (some ⟨g12, 0, none⟩) n4 n4), (9, .int .i64 ((t : Nat) : Int)), (10, .int .i64 ((i : Nat) : Int))])
    (fun ⟨wr, i, t, l⟩ => wr)
    (fun ⟨wr, i, t, l⟩ => (Ext w wr) ∧ (i ≤ n4) ∧ (t ≤ 1) ∧ (Bk wr g12 3 (l.map I6)) ∧ (l.length = n4) ∧ (Wfb 65536 l) ∧ (nb 65536 (l.take i) + nb 65536 (es.take i) = nb 65536 (ds.take i) + 65536 ^ i * t) ∧ (Ri 65536 wr A4 n4 c4 ds) ∧ (Ri 65536 wr A8 n8 c8 es))
    (fun ⟨wr, i, t, l⟩ => n4 - i)
    (⟨v13, 0, 0, _⟩ : World × Nat × Nat × List Nat) ⟨hw4, Nat.zero_le _, Nat.zero_le _, hb15, (List.length_replicate (n := n4) (a := 0)), Wfb_zeros (by decide) _, by simp [nb], (rd4.ext (e6.trans (e10.trans e16))), (rd8.ext (e10.trans e16))⟩ rfl ⟨rfl, rfl, rfl, rfl, rfl, trivial⟩ ?_
  rintro ⟨wr, i, t, l⟩ ⟨hw1, hi, ht, hb, hl, hwf, hv, rl6, rl7⟩
  refine cw_re [(6, .slice A4 n4 c4), (7, .slice A8 n8 c8), (8, .slice (some ⟨g12, 0, none⟩) n4 n4), (9, .int .i64 ((t : Nat) : Int)), (10, .int .i64 ((i : Nat) : Int))] wr rfl ⟨rfl, rfl, rfl, rfl, rfl, trivial⟩ ?_
  refine cw_seq ?_
  refine cw_seq ?_
  by_cases him : i < n4
  ·
    -- region 8
    refine cw_region ?_
    refine wl_move rfl rfl (by decide) ?_
    refine wl_move rfl rfl (by decide) ?_
    refine wl_pure rfl rfl (v := .int .i64 ((n4 : Nat) : Int)) (by decide) (by kernel_rfl) ?_
    refine wl_cmp rfl rfl rfl true (cb_lt_t (a := i) (b := n4) rfl rfl (by omega)) (by decide) ?_
    refine wl_nil ?_
    refine eo_then ?_
    refine cw_true rfl ?_
    refine cw_skip ?_
    refine eo_then ?_
    refine cw_seq ?_
    refine cw_block ?_
    refine cw_seq ?_
    have hdb := Wfb_getD (b := 65536) (by decide) hwds i
    have heb := Wfb_getD (b := 65536) (by decide) hwes i
    by_cases hbig : es.getD i 0 + t ≤ ds.getD i 0
    ·
      -- region 10, in whatever order
      obtain ⟨p23, hp23, hc23, hv23⟩ := (rl6).at (by decide) (i := i) (by omega)
      refine cw_draw mix 10 [] [Is (.slice A4 n4 c4), Is (.int .i64 ((i : Nat) : Int)), Is (.pointer (some p23)), Is (.int .i64 ((ds.getD i 0 : Nat) : Int)), Is (.slice A8 n8 c8), Is (.int .i64 ((i : Nat) : Int)), Is (.int .i64 ((es.getD i 0 : Nat) : Int)), Is (.int .i64 (((ds.getD i 0) - (es.getD i 0) : Nat) : Int)), Is (.int .i64 ((t : Nat) : Int)), Is (.int .i64 ((((ds.getD i 0) - (es.getD i 0)) - t : Nat) : Int))] [[], [], [0, 1], [2], [], [], [4, 5], [3, 6], [], [7, 8]] [[], [], [0, 1], [0, 1, 2], [], [], [4, 5], [0, 1, 2, 3, 4, 5, 6], [], [0, 1, 2, 3, 4, 5, 6, 7, 8], [0, 1, 2, 3, 4, 5, 6, 7, 8, 9]] rfl
        (obs_cons rfl rfl (hob rfl rfl ?_) (obs_cons rfl rfl (hob rfl rfl ?_) (obs_cons rfl rfl (hob rfl rfl ?_) (obs_cons rfl rfl (hob rfl rfl ?_) (obs_cons rfl rfl (hob rfl rfl ?_) (obs_cons rfl rfl (hob rfl rfl ?_) (obs_cons rfl rfl (hob rfl rfl ?_) (obs_cons rfl rfl (hob rfl rfl ?_) (obs_cons rfl rfl (hob rfl rfl ?_) (obs_cons rfl rfl (hob rfl rfl ?_) obs_nil)))))))))) ?_
      · -- 0
        intro v24 e25
        have hw2 : Ext w v24 := hw1.trans e25
        refine deps_nil ?_
        refine wl_move rfl rfl (by decide) ?_
        exact pi_done rfl (Ext.refl _) rfl
      · -- 1
        intro v26 e27
        have hw2 : Ext w v26 := hw1.trans e27
        refine deps_nil ?_
        refine wl_move rfl rfl (by decide) ?_
        exact pi_done rfl (Ext.refl _) rfl
      · -- 2
        intro v28 e29
        have hw2 : Ext w v28 := hw1.trans e29
        refine deps_cons rfl rfl fun x30 y31 h32 e33 f34 => ?_
        obtain rfl := h32
        refine deps_cons rfl rfl fun x35 y36 h37 e38 f39 => ?_
        obtain rfl := h37
        refine deps_nil ?_
        refine wl_idx rfl rfl rfl un_int sz_int i rfl (by omega) p23 hp23 (by decide) ?_
        exact pi_done rfl (Ext.refl _) rfl
      · -- 3
        intro v40 e41
        have hw2 : Ext w v40 := hw1.trans e41
        refine deps_cons rfl rfl fun x42 y43 h44 e45 f46 => ?_
        obtain rfl := h44
        refine deps_nil ?_
        refine wl_load rfl rfl (load_cell1 ag_int (e41.cell hc23)) (by decide) ?_
        exact pi_done rfl (Ext.refl _) rfl
      · -- 4
        intro v47 e48
        have hw2 : Ext w v47 := hw1.trans e48
        refine deps_nil ?_
        refine wl_move rfl rfl (by decide) ?_
        exact pi_done rfl (Ext.refl _) rfl
      · -- 5
        intro v49 e50
        have hw2 : Ext w v49 := hw1.trans e50
        refine deps_nil ?_
        refine wl_move rfl rfl (by decide) ?_
        exact pi_done rfl (Ext.refl _) rfl
      · -- 6
        intro v51 e52
        have hw2 : Ext w v51 := hw1.trans e52
        refine deps_cons rfl rfl fun x53 y54 h55 e56 f57 => ?_
        obtain rfl := h55
        refine deps_cons rfl rfl fun x58 y59 h60 e61 f62 => ?_
        obtain rfl := h60
        refine deps_nil ?_
        refine wl_call rfl rfl (vs := [.slice A8 n8 c8, .int .i64 ((i : Nat) : Int)]) (by kernel_rfl) (by decide) (g_ref1_at (rl7.ext e52) (by omega) (by omega)) ?_
        rintro _ v63 ⟨xr65, rfl, r65, e64⟩
        refine ret_intro ?_
        have hw3 : Ext w v63 := hw2.trans e64
        obtain rfl := r65
        exact pi_done rfl e64 rfl
      · -- 7
        intro v66 e67
        have hw2 : Ext w v66 := hw1.trans e67
        refine deps_cons rfl rfl fun x68 y69 h70 e71 f72 => ?_
        obtain rfl := h70
        refine deps_cons rfl rfl fun x73 y74 h75 e76 f77 => ?_
        obtain rfl := h75
        refine deps_nil ?_
        refine wl_ar rfl rfl rfl (((ds.getD i 0) - (es.getD i 0) : Nat) : Int) (ai_sub (a := ds.getD i 0) (b := es.getD i 0) rfl rfl (by omega) (by omega)) (by decide) ?_
        exact pi_done rfl (Ext.refl _) rfl
      · -- 8
        intro v78 e79
        have hw2 : Ext w v78 := hw1.trans e79
        refine deps_nil ?_
        refine wl_move rfl rfl (by decide) ?_
        exact pi_done rfl (Ext.refl _) rfl
      · -- 9
        intro v80 e81
        have hw2 : Ext w v80 := hw1.trans e81
        refine deps_cons rfl rfl fun x82 y83 h84 e85 f86 => ?_
        obtain rfl := h84
        refine deps_cons rfl rfl fun x87 y88 h89 e90 f91 => ?_
        obtain rfl := h89
        refine deps_nil ?_
        refine wl_ar rfl rfl rfl ((((ds.getD i 0) - (es.getD i 0)) - t : Nat) : Int) (ai_sub (a := (ds.getD i 0) - (es.getD i 0)) (b := t) rfl rfl (by omega) (by omega)) (by decide) ?_
        exact pi_done rfl (Ext.refl _) rfl
      · -- all
        intro v92 e93
        have hw2 : Ext w v92 := hw1.trans e93
        refine deps_cons rfl rfl fun x94 y95 h96 e97 f98 => ?_
        obtain rfl := h96
        refine deps_cons rfl rfl fun x99 y100 h101 e102 f103 => ?_
        obtain rfl := h101
        refine deps_cons rfl rfl fun x104 y105 h106 e107 f108 => ?_
        obtain rfl := h106
        refine deps_cons rfl rfl fun x109 y110 h111 e112 f113 => ?_
        obtain rfl := h111
        refine deps_cons rfl rfl fun x114 y115 h116 e117 f118 => ?_
        obtain rfl := h116
        refine deps_cons rfl rfl fun x119 y120 h121 e122 f123 => ?_
        obtain rfl := h121
        refine deps_cons rfl rfl fun x124 y125 h126 e127 f128 => ?_
        obtain rfl := h126
        refine deps_cons rfl rfl fun x129 y130 h131 e132 f133 => ?_
        obtain rfl := h131
        refine deps_cons rfl rfl fun x134 y135 h136 e137 f138 => ?_
        obtain rfl := h136
        refine deps_cons rfl rfl fun x139 y140 h141 e142 f143 => ?_
        obtain rfl := h141
        refine deps_nil ?_
        refine wl_assign rfl rfl (by decide) ?_
        refine wl_nil ?_
        refine eo_np ?_
        refine eo_then ?_
        refine cw_seq ?_
        -- region 11
        refine cw_region ?_
        refine wl_assign rfl rfl (by decide) ?_
        refine wl_nil ?_
        refine eo_then ?_
        refine cw_seq ?_
        refine cw_seq ?_
        -- region 12
        refine cw_region ?_
        refine wl_move rfl rfl (by decide) ?_
        refine wl_cmp rfl rfl rfl false (cb_lt_f (a := ((ds.getD i 0) - (es.getD i 0)) - t) (b := 0) rfl rfl (by omega)) (by decide) ?_
        refine wl_nil ?_
        refine eo_then ?_
        refine cw_false rfl ?_
        refine cw_skip ?_
        refine eo_then ?_
        -- region 15
        refine cw_region ?_
        refine wl_move rfl rfl (by decide) ?_
        refine wl_move rfl rfl (by decide) ?_
        refine wl_move rfl rfl (by decide) ?_
        refine wl_idx rfl rfl rfl un_int sz_int i rfl (by omega) ⟨g12, i, none⟩ (arr_at _ _) (by decide) ?_
        have hb145 := (hb.ext e93)
        refine wl_stored1 rfl rfl rfl sz_int rfl hb145 (len_map (by rw [hl]; omega)) rfl ((l.set i (((ds.getD i 0) - (es.getD i 0)) - t)).map I6) (map_I6_set _ _ _) fun v144 hb146 u147 hs148 => ?_
        have hw3 : Ext w v144 := u147.ext hw2 ge17
        refine wl_nil ?_
        refine eo_block_normal ?_
        refine eo_then ?_
        -- region 9
        refine cw_region ?_
        refine wl_move rfl rfl (by decide) ?_
        refine wl_ar rfl rfl rfl ((i + 1 : Nat) : Int) (ai_add (a := i) (b := 1) rfl rfl (by omega)) (by decide) ?_
        refine wl_assign rfl rfl (by decide) ?_
        refine wl_nil ?_
        refine eo_round (⟨v144, i + 1, 0, _⟩ : World × Nat × Nat × List Nat) ⟨hw3, (by omega), (by decide), hb146, (len_set (l := l) (hl)), Wfb_set hwf _ (by omega), subd_step (by omega) (by omega) hv (by omega), (Ri.updL (rl6.ext e93) u147 ne21), (Ri.updL (rl7.ext e93) u147 ne22)⟩ (show n4 - (i + 1) < n4 - i by omega) rfl ⟨rfl, rfl, rfl, rfl, rfl, trivial⟩
    ·
      -- region 10, in whatever order
      obtain ⟨p149, hp149, hc149, hv149⟩ := (rl6).at (by decide) (i := i) (by omega)
      refine cw_draw mix 10 [] [Is (.slice A4 n4 c4), Is (.int .i64 ((i : Nat) : Int)), Is (.pointer (some p149)), Is (.int .i64 ((ds.getD i 0 : Nat) : Int)), Is (.slice A8 n8 c8), Is (.int .i64 ((i : Nat) : Int)), Is (.int .i64 ((es.getD i 0 : Nat) : Int)), Is (.int .i64 (((ds.getD i 0 : Nat) : Int) - ((es.getD i 0 : Nat) : Int))), Is (.int .i64 ((t : Nat) : Int)), Is (.int .i64 ((((ds.getD i 0 : Nat) : Int) - ((es.getD i 0 : Nat) : Int)) - ((t : Nat) : Int)))] [[], [], [0, 1], [2], [], [], [4, 5], [3, 6], [], [7, 8]] [[], [], [0, 1], [0, 1, 2], [], [], [4, 5], [0, 1, 2, 3, 4, 5, 6], [], [0, 1, 2, 3, 4, 5, 6, 7, 8], [0, 1, 2, 3, 4, 5, 6, 7, 8, 9]] rfl
        (obs_cons rfl rfl (hob rfl rfl ?_) (obs_cons rfl rfl (hob rfl rfl ?_) (obs_cons rfl rfl (hob rfl rfl ?_) (obs_cons rfl rfl (hob rfl rfl ?_) (obs_cons rfl rfl (hob rfl rfl ?_) (obs_cons rfl rfl (hob rfl rfl ?_) (obs_cons rfl rfl (hob rfl rfl ?_) (obs_cons rfl rfl (hob rfl rfl ?_) (obs_cons rfl rfl (hob rfl rfl ?_) (obs_cons rfl rfl (hob rfl rfl ?_) obs_nil)))))))))) ?_
      · -- 0
        intro v150 e151
        have hw2 : Ext w v150 := hw1.trans e151
        refine deps_nil ?_
        refine wl_move rfl rfl (by decide) ?_
        exact pi_done rfl (Ext.refl _) rfl
      · -- 1
        intro v152 e153
        have hw2 : Ext w v152 := hw1.trans e153
        refine deps_nil ?_
        refine wl_move rfl rfl (by decide) ?_
        exact pi_done rfl (Ext.refl _) rfl
      · -- 2
        intro v154 e155
        have hw2 : Ext w v154 := hw1.trans e155
        refine deps_cons rfl rfl fun x156 y157 h158 e159 f160 => ?_
        obtain rfl := h158
        refine deps_cons rfl rfl fun x161 y162 h163 e164 f165 => ?_
        obtain rfl := h163
        refine deps_nil ?_
        refine wl_idx rfl rfl rfl un_int sz_int i rfl (by omega) p149 hp149 (by decide) ?_
        exact pi_done rfl (Ext.refl _) rfl
      · -- 3
        intro v166 e167
        have hw2 : Ext w v166 := hw1.trans e167
        refine deps_cons rfl rfl fun x168 y169 h170 e171 f172 => ?_
        obtain rfl := h170
        refine deps_nil ?_
        refine wl_load rfl rfl (load_cell1 ag_int (e167.cell hc149)) (by decide) ?_
        exact pi_done rfl (Ext.refl _) rfl
      · -- 4
        intro v173 e174
        have hw2 : Ext w v173 := hw1.trans e174
        refine deps_nil ?_
        refine wl_move rfl rfl (by decide) ?_
        exact pi_done rfl (Ext.refl _) rfl
      · -- 5
        intro v175 e176
        have hw2 : Ext w v175 := hw1.trans e176
        refine deps_nil ?_
        refine wl_move rfl rfl (by decide) ?_
        exact pi_done rfl (Ext.refl _) rfl
      · -- 6
        intro v177 e178
        have hw2 : Ext w v177 := hw1.trans e178
        refine deps_cons rfl rfl fun x179 y180 h181 e182 f183 => ?_
        obtain rfl := h181
        refine deps_cons rfl rfl fun x184 y185 h186 e187 f188 => ?_
        obtain rfl := h186
        refine deps_nil ?_
        refine wl_call rfl rfl (vs := [.slice A8 n8 c8, .int .i64 ((i : Nat) : Int)]) (by kernel_rfl) (by decide) (g_ref1_at (rl7.ext e178) (by omega) (by omega)) ?_
        rintro _ v189 ⟨xr191, rfl, r191, e190⟩
        refine ret_intro ?_
        have hw3 : Ext w v189 := hw2.trans e190
        obtain rfl := r191
        exact pi_done rfl e190 rfl
      · -- 7
        intro v192 e193
        have hw2 : Ext w v192 := hw1.trans e193
        refine deps_cons rfl rfl fun x194 y195 h196 e197 f198 => ?_
        obtain rfl := h196
        refine deps_cons rfl rfl fun x199 y200 h201 e202 f203 => ?_
        obtain rfl := h201
        refine deps_nil ?_
        refine wl_ar rfl rfl rfl (((ds.getD i 0 : Nat) : Int) - ((es.getD i 0 : Nat) : Int)) (ar_i64s rfl (by omega) (by omega)) (by decide) ?_
        exact pi_done rfl (Ext.refl _) rfl
      · -- 8
        intro v204 e205
        have hw2 : Ext w v204 := hw1.trans e205
        refine deps_nil ?_
        refine wl_move rfl rfl (by decide) ?_
        exact pi_done rfl (Ext.refl _) rfl
      · -- 9
        intro v206 e207
        have hw2 : Ext w v206 := hw1.trans e207
        refine deps_cons rfl rfl fun x208 y209 h210 e211 f212 => ?_
        obtain rfl := h210
        refine deps_cons rfl rfl fun x213 y214 h215 e216 f217 => ?_
        obtain rfl := h215
        refine deps_nil ?_
        refine wl_ar rfl rfl rfl ((((ds.getD i 0 : Nat) : Int) - ((es.getD i 0 : Nat) : Int)) - ((t : Nat) : Int)) (ar_i64s rfl (by omega) (by omega)) (by decide) ?_
        exact pi_done rfl (Ext.refl _) rfl
      · -- all
        intro v218 e219
        have hw2 : Ext w v218 := hw1.trans e219
        refine deps_cons rfl rfl fun x220 y221 h222 e223 f224 => ?_
        obtain rfl := h222
        refine deps_cons rfl rfl fun x225 y226 h227 e228 f229 => ?_
        obtain rfl := h227
        refine deps_cons rfl rfl fun x230 y231 h232 e233 f234 => ?_
        obtain rfl := h232
        refine deps_cons rfl rfl fun x235 y236 h237 e238 f239 => ?_
        obtain rfl := h237
        refine deps_cons rfl rfl fun x240 y241 h242 e243 f244 => ?_
        obtain rfl := h242
        refine deps_cons rfl rfl fun x245 y246 h247 e248 f249 => ?_
        obtain rfl := h247
        refine deps_cons rfl rfl fun x250 y251 h252 e253 f254 => ?_
        obtain rfl := h252
        refine deps_cons rfl rfl fun x255 y256 h257 e258 f259 => ?_
        obtain rfl := h257
        refine deps_cons rfl rfl fun x260 y261 h262 e263 f264 => ?_
        obtain rfl := h262
        refine deps_cons rfl rfl fun x265 y266 h267 e268 f269 => ?_
        obtain rfl := h267
        refine deps_nil ?_
        refine wl_assign rfl rfl (by decide) ?_
        refine wl_nil ?_
        refine eo_np ?_
        refine eo_then ?_
        refine cw_seq ?_
        -- region 11
        refine cw_region ?_
        refine wl_assign rfl rfl (by decide) ?_
        refine wl_nil ?_
        refine eo_then ?_
        refine cw_seq ?_
        refine cw_seq ?_
        -- region 12
        refine cw_region ?_
        refine wl_move rfl rfl (by decide) ?_
        refine wl_cmp rfl rfl rfl true (lt_t (by omega)) (by decide) ?_
        refine wl_nil ?_
        refine eo_then ?_
        refine cw_true rfl ?_
        refine cw_seq ?_
        -- region 13
        refine cw_region ?_
        refine wl_move rfl rfl (by decide) ?_
        refine wl_ar rfl rfl rfl ((ds.getD i 0 + 65536 - es.getD i 0 - t : Nat) : Int) (ar_i64 (by omega) (by omega) (by omega)) (by decide) ?_
        refine wl_assign rfl rfl (by decide) ?_
        refine wl_nil ?_
        refine eo_then ?_
        -- region 14
        refine cw_region ?_
        refine wl_assign rfl rfl (by decide) ?_
        refine wl_nil ?_
        refine eo_then ?_
        -- region 15
        refine cw_region ?_
        refine wl_move rfl rfl (by decide) ?_
        refine wl_move rfl rfl (by decide) ?_
        refine wl_move rfl rfl (by decide) ?_
        refine wl_idx rfl rfl rfl un_int sz_int i rfl (by omega) ⟨g12, i, none⟩ (arr_at _ _) (by decide) ?_
        have hb271 := (hb.ext e219)
        refine wl_stored1 rfl rfl rfl sz_int rfl hb271 (len_map (by rw [hl]; omega)) rfl ((l.set i (ds.getD i 0 + 65536 - es.getD i 0 - t)).map I6) (map_I6_set _ _ _) fun v270 hb272 u273 hs274 => ?_
        have hw3 : Ext w v270 := u273.ext hw2 ge17
        refine wl_nil ?_
        refine eo_block_normal ?_
        refine eo_then ?_
        -- region 9
        refine cw_region ?_
        refine wl_move rfl rfl (by decide) ?_
        refine wl_ar rfl rfl rfl ((i + 1 : Nat) : Int) (ai_add (a := i) (b := 1) rfl rfl (by omega)) (by decide) ?_
        refine wl_assign rfl rfl (by decide) ?_
        refine wl_nil ?_
        refine eo_round (⟨v270, i + 1, 1, _⟩ : World × Nat × Nat × List Nat) ⟨hw3, (by omega), (by decide), hb272, (len_set (l := l) (hl)), Wfb_set hwf _ (by omega), subd_step (by omega) (by omega) hv (by omega), (Ri.updL (rl6.ext e219) u273 ne21), (Ri.updL (rl7.ext e219) u273 ne22)⟩ (show n4 - (i + 1) < n4 - i by omega) rfl ⟨rfl, rfl, rfl, rfl, rfl, trivial⟩
  ·
    -- region 8
    refine cw_region ?_
    refine wl_move rfl rfl (by decide) ?_
    refine wl_move rfl rfl (by decide) ?_
    refine wl_pure rfl rfl (v := .int .i64 ((n4 : Nat) : Int)) (by decide) (by kernel_rfl) ?_
    refine wl_cmp rfl rfl rfl false (cb_lt_f (a := i) (b := n4) rfl rfl (by omega)) (by decide) ?_
    refine wl_nil ?_
    refine eo_then ?_
    refine cw_false rfl ?_
    refine cw_exit ?_
    refine eo_thenX ?_
    refine eo_loopX ?_
    refine eo_block_here ?_
    refine eo_then ?_
    refine cw_seq ?_
    obtain rfl : n4 = i := by omega
    have hval := sub_done hds hes (cmp3_le hle) hll6 hl hwf hv
    -- region 16
    refine cw_region ?_
    refine wl_move rfl rfl (by decide) ?_
    refine wl_call rfl rfl (vs := [.slice (some ⟨g12, 0, none⟩) n4 n4]) (by kernel_rfl) (by decide) (g_ref1_Join hw1.size (hb.ri0 hwf hl (by omega)) (by omega)) ?_
    rintro _ v275 ⟨xr277, rfl, r277, e276⟩
    refine ret_intro ?_
    have hw2 : Ext w v275 := hw1.trans e276
    obtain ⟨A278, n278, c278, rfl, j278, o278⟩ := r277
    refine wl_assign rfl rfl (by decide) ?_
    refine wl_assign rfl rfl (by decide) ?_
    refine wl_nil ?_
    refine eo_then ?_
    refine cw_ret ?_
    refine eo_ret [.slice A278 n278 c278, .int .i64 0] rfl ⟨rfl, rfl, trivial⟩ ?_
    rw [hval] at j278 o278
    exact ⟨_, rfl, ⟨_, _, rfl, ⟨_, _, _, rfl, j278, o278⟩, rfl⟩, hw2⟩

end Go.Proofs.Ytmaconeeonkdgaa

/- trellisref03, printed by p_ref3.py -/
namespace Go.Proofs.Ytmaconeeonkdgaa
open Go.RowKit

/-- a list without the zeros at the high end -/
def TR (A : Option Addr) (n c : Nat) (xs : List Nat) (v : Value) (_ : World) : Prop := ∃ k, v = .slice A k c ∧ k ≤ n ∧ (k = 0 ∨ xs.getD (k - 1) 0 ≠ 0) ∧ ∀ b, nb b (xs.take k) = nb b xs
theorem trim_step {xs : List Nat} {k : Nat} (hk : k > 0) (hl : k ≤ xs.length) (h0 : xs.getD (k - 1) 0 = 0) (hv : ∀ b, nb b (xs.take k) = nb b xs) (b : Nat) : nb b (xs.take (k - 1)) = nb b xs := by
  rw [← hv b, ← nb_take_zero b xs (k - 1) (by omega) h0, Nat.sub_add_cancel hk]
theorem slice_to (A : Option Addr) (c k : Nat) : Value.slice (if c = 0 then A else A.map (·.add (0 * 1))) (k - 0) (c - 0) = .slice A k c := by
  have h0 : A.map (·.add (0 * 1)) = A := by
    cases A with
    | none => rfl
    | some a => simp [add_zero_addr]
  rw [h0, ite_self]; rfl

/-- digits to the base 2^32, as they are handed on -/
def WD (m : Nat) (v : Value) (w : World) : Prop := ∃ A k c, v = .slice A k c ∧ Rd w A k c (db 4294967296 m)
theorem b32 : 2 ≤ 4294967296 := by decide
theorem WB_32 : WB = 4294967296 ^ 2 := by decide
theorem Wfb.wf {xs : List Nat} (h : Wfb 4294967296 xs) : Wf xs := fun x hx => Nat.lt_trans (h x hx) (by decide)
theorem Bk.rd0 {w : World} {g N : Nat} {t : TypeId} {l : List Nat} (h : Bk w g t (l.map W64)) (hw : Wf l) (hl : l.length = N) (hN : N ≤ 9223372036854775807) : Rd w (some ⟨g, 0, none⟩) N N l := by
  have := h.rd hw (o := 0) (n := N) (cap := N) (Nat.le_refl _) (by omega) (by rw [len_maxLen]; exact hN)
  rwa [List.drop_zero, List.take_of_length_le (Nat.le_of_eq hl)] at this
theorem Rd.trim {w : World} {A : Option Addr} {n c k : Nat} {xs : List Nat} (h : Rd w A n c xs) (hw : Wfb 4294967296 xs) (hk : k ≤ n) (ht : k = 0 ∨ xs.getD (k - 1) 0 ≠ 0) (hv : ∀ b, nb b (xs.take k) = nb b xs) :
    Rd w A k c (db 4294967296 (nb 4294967296 xs)) := by
  rw [db_take b32 hw (by rw [h.len]; exact hk) (hv _) ht]
  exact h.take hk (by have := h.rv.le; omega) (Nat.le_refl _)
theorem halves_step {l xs : List Nat} {i x : Nat} (hl : 2 * i + 1 < l.length) (hi : i < xs.length) (hx : xs.getD i 0 = x) (h : nb 4294967296 (l.take (2 * i)) = nv (xs.take i)) :
    nb 4294967296 (((l.set (2 * i) (x % 4294967296)).set (2 * i + 1) (x / 4294967296)).take (2 * (i + 1))) = nv (xs.take (i + 1)) := by
  rw [show 2 * (i + 1) = 2 * i + 1 + 1 by omega, nb_set_snoc 4294967296 (by rw [List.length_set]; exact hl), nb_set_snoc 4294967296 (by omega), h, nv_take_snoc xs i hi, hx, WB_32, ← Nat.pow_mul, Nat.pow_succ, Nat.mul_assoc, Nat.add_assoc, ← Nat.mul_add, Nat.mod_add_div]

/-- what the steps of words keep -/
structure WI (ys l : List Nat) (i : Nat) : Prop where
  wf : Wf l
  v : nv l = nb 4294967296 (ys.take i)
  z : ∀ j, i ≤ 2 * j → l.getD j 0 = 0
  o : i % 2 = 1 → l.getD (i / 2) 0 < 4294967296
theorem WI.start (ys : List Nat) (N : Nat) : WI ys (List.replicate N 0) 0 := by
  refine ⟨fun x hx => by rw [(List.mem_replicate.1 hx).2]; decide, ?_, fun j _ => ?_, fun h => by omega⟩
  · rw [nv_nb, nb_zeros]; rfl
  · rw [List.getD_eq_getElem?_getD]
    by_cases h : j < N
    · rw [List.getElem?_replicate_of_lt h]; rfl
    · rw [List.getElem?_eq_none (by rw [List.length_replicate]; omega)]; rfl
theorem WI.even {ys l : List Nat} {i : Nat} (h : WI ys l i) (he : i % 2 = 0) (hi : i < ys.length) (hl : i / 2 < l.length) (hd : ys.getD i 0 < 4294967296) : WI ys (l.set (i / 2) (ys.getD i 0)) (i + 1) := by
  have h0 := h.z (i / 2) (by omega)
  have h1 := nv_set hl (ys.getD i 0)
  refine ⟨Wf_set h.wf _ (Nat.lt_trans hd (by decide)), ?_, fun j hj => ?_, fun _ => ?_⟩
  · rw [nb_take_snoc 4294967296 ys i hi, ← h.v]
    rw [h0, Nat.mul_zero, Nat.add_zero, WB_32, ← Nat.pow_mul, show 2 * (i / 2) = i by omega] at h1
    exact h1
  · rw [getD_set_ne (by omega), h.z j (by omega)]
  · rw [show (i + 1) / 2 = i / 2 by omega, getD_set_eq hl]; exact hd
theorem WI.odd {ys l : List Nat} {i : Nat} (h : WI ys l i) (he : i % 2 = 1) (hi : i < ys.length) (hl : i / 2 < l.length) (hd : ys.getD i 0 < 4294967296) : WI ys (l.set (i / 2) (l.getD (i / 2) 0 + ys.getD i 0 * 4294967296)) (i + 1) := by
  have h0 := h.o he
  have h1 := nv_set hl (l.getD (i / 2) 0 + ys.getD i 0 * 4294967296)
  refine ⟨Wf_set h.wf _ (by rw [WB_def]; omega), ?_, fun j hj => ?_, fun h => by omega⟩
  · have e : WB ^ (i / 2) * 4294967296 = 4294967296 ^ i := by
      rw [WB_32, ← Nat.pow_mul, ← Nat.pow_succ, show (2 * (i / 2)).succ = i by omega]
    rw [nb_take_snoc 4294967296 ys i hi, ← h.v, ← e]
    rw [Nat.mul_add] at h1
    have e2 : WB ^ (i / 2) * (ys.getD i 0 * 4294967296) = WB ^ (i / 2) * 4294967296 * ys.getD i 0 := by rw [Nat.mul_comm (ys.getD i 0), Nat.mul_assoc]
    omega
  · rw [getD_set_ne (by omega), h.z j (by omega)]
theorem WI.done {xs ys l : List Nat} {k : Nat} (h : WI ys l k) (hk : ys.length = k) (hl : l.length = (k + 1) / 2) (hv : nb 4294967296 ys = nb 4294967296 xs) (ht : k = 0 ∨ ys.getD (k - 1) 0 ≠ 0) : l.take ((k + 1) / 2) = wd (nb 4294967296 xs) := by
  have hv2 : nv l = nb 4294967296 xs := by rw [h.v, List.take_of_length_le (Nat.le_of_eq hk), hv]
  rw [List.take_of_length_le (by omega), ← hv2]
  refine (wd_of_ge h.wf ?_).symm
  by_cases h0 : k = 0
  · left; omega
  · right
    have h1 : ys.getD (k - 1) 0 ≠ 0 := by omega
    rw [hv2, ← hv, nb_split 4294967296 ys (k - 1) (by omega), hl]
    have h2 : WB ^ ((k + 1) / 2 - 1) ≤ 4294967296 ^ (k - 1) := by
      rw [WB_32, ← Nat.pow_mul]
      exact Nat.pow_le_pow_right (by decide) (by omega)
    have h3 : 1 ≤ nb 4294967296 (ys.drop (k - 1)) := by
      rw [List.drop_eq_getElem_cons (by omega), nb_cons]
      rw [List.getD_eq_getElem?_getD, List.getElem?_eq_getElem (by omega), Option.getD_some] at h1
      omega
    have h4 : 4294967296 ^ (k - 1) * 1 ≤ 4294967296 ^ (k - 1) * nb 4294967296 (ys.drop (k - 1)) := Nat.mul_le_mul_left _ h3
    omega
theorem top_take {xs : List Nat} {k : Nat} (h : k = 0 ∨ xs.getD (k - 1) 0 ≠ 0) : k = 0 ∨ (xs.take k).getD (k - 1) 0 ≠ 0 := by
  by_cases h0 : k = 0
  · exact Or.inl h0
  · rw [getD_take (by omega)]; exact h

set_option maxHeartbeats 4000000 in
theorem ref3_Trim {w : World} {A : Option Addr} {n cap : Nat} {xs : List Nat} (hx : Rd w A n cap xs) (hln : n ≤ 1099511627776) :
    Calls Try.prog 123 #[.slice A n cap] w (Gv w (TR A n cap xs)) := by
  have hlen := hx.len
  have hle := hx.rv.le
  refine sx_enter Try.func123 rfl (n := 21) rfl (Nat.le_of_ble_eq_true rfl) (args := [.slice A n cap]) ?_
  refine cw_keep [(0, .slice A n cap)] ⟨rfl, trivial⟩ ?_
  refine cw_seq ?_
  -- region 0
  refine cw_region ?_
  refine wl_assign rfl rfl (by decide) ?_
  refine wl_nil ?_
  refine eo_then ?_
  refine cw_seq ?_
  -- region 1
  refine cw_region ?_
  refine wl_move rfl rfl (by decide) ?_
  refine wl_pure rfl rfl (v := .int .i64 ((n : Nat) : Int)) (by decide) (by kernel_rfl) ?_
  refine wl_assign rfl rfl (by decide) ?_
  refine wl_nil ?_
  refine eo_then ?_
  refine cw_seq ?_
  refine cw_block ?_
  refine cw_loop (T := World × Nat)
    (fun ⟨wr, k⟩ => [(0, .slice A n cap), (3, .int .i64 ((k : Nat) : Int))])
    (fun ⟨wr, k⟩ => wr)
    (fun ⟨wr, k⟩ => (Ext w wr) ∧ (k ≤ n) ∧ (∀ b, nb b (xs.take k) = nb b xs) ∧ (Rd wr A n cap xs))
    (fun ⟨wr, k⟩ => k)
    (⟨w, n⟩ : World × Nat) ⟨(Ext.refl w), Nat.le_refl _, fun b => by rw [List.take_of_length_le (by omega)], hx⟩ rfl ⟨rfl, rfl, trivial⟩ ?_
  rintro ⟨wr, k⟩ ⟨hw1, hk, hv, rl0⟩
  refine cw_re [(0, .slice A n cap), (3, .int .i64 ((k : Nat) : Int))] wr rfl ⟨rfl, rfl, trivial⟩ ?_
  refine cw_seq ?_
  refine cw_seq ?_
  by_cases hkp : k > 0
  ·
    by_cases hz : xs.getD (k - 1) 0 = 0
    ·
      -- region 2
      refine cw_region ?_
      refine wl_move rfl rfl (by decide) ?_
      refine wl_cmp rfl rfl rfl true (cb_gt_t (a := k) (b := 0) rfl rfl (by omega)) (by decide) ?_
      refine wl_move rfl rfl (by decide) ?_
      refine wl_move rfl rfl (by decide) ?_
      refine wl_move rfl rfl (by decide) ?_
      refine wl_ar rfl rfl rfl ((k - 1 : Nat) : Int) (ai_sub (a := k) (b := 1) rfl rfl (by omega) (by omega)) (by decide) ?_
      obtain ⟨p1, hp1, hc1, hv1⟩ := (rl0).at (i := k - 1) (by omega)
      refine wl_idx rfl rfl rfl un_u64 sz_u64 (k - 1) rfl (by omega) p1 hp1 (by decide) ?_
      refine wl_load rfl rfl (load_cell1 ag_u64 hc1) (by decide) ?_
      refine wl_cmp rfl rfl rfl true (cb_eq_t (a := xs.getD (k - 1) 0) (b := 0) rfl rfl (by omega)) (by decide) ?_
      refine wl_pure rfl rfl (v := .bool true) (by decide) (by kernel_rfl) ?_
      refine wl_nil ?_
      refine eo_then ?_
      refine cw_true rfl ?_
      refine cw_skip ?_
      refine eo_then ?_
      refine cw_block ?_
      -- region 3
      refine cw_region ?_
      refine wl_move rfl rfl (by decide) ?_
      refine wl_ar rfl rfl rfl ((k - 1 : Nat) : Int) (ai_sub (a := k) (b := 1) rfl rfl (by omega) (by omega)) (by decide) ?_
      refine wl_assign rfl rfl (by decide) ?_
      refine wl_nil ?_
      refine eo_block_normal ?_
      refine eo_round (⟨wr, k - 1⟩ : World × Nat) ⟨hw1, (by omega), trim_step hkp (by omega) hz hv, rl0⟩ (show k - 1 < k by omega) rfl ⟨rfl, rfl, trivial⟩
    ·
      -- region 2
      refine cw_region ?_
      refine wl_move rfl rfl (by decide) ?_
      refine wl_cmp rfl rfl rfl true (cb_gt_t (a := k) (b := 0) rfl rfl (by omega)) (by decide) ?_
      refine wl_move rfl rfl (by decide) ?_
      refine wl_move rfl rfl (by decide) ?_
      refine wl_move rfl rfl (by decide) ?_
      refine wl_ar rfl rfl rfl ((k - 1 : Nat) : Int) (ai_sub (a := k) (b := 1) rfl rfl (by omega) (by omega)) (by decide) ?_
      obtain ⟨p2, hp2, hc2, hv2⟩ := (rl0).at (i := k - 1) (by omega)
      refine wl_idx rfl rfl rfl un_u64 sz_u64 (k - 1) rfl (by omega) p2 hp2 (by decide) ?_
      refine wl_load rfl rfl (load_cell1 ag_u64 hc2) (by decide) ?_
      refine wl_cmp rfl rfl rfl false (cb_eq_f (a := xs.getD (k - 1) 0) (b := 0) rfl rfl (by omega)) (by decide) ?_
      refine wl_pure rfl rfl (v := .bool false) (by decide) (by kernel_rfl) ?_
      refine wl_nil ?_
      refine eo_then ?_
      refine cw_false rfl ?_
      refine cw_exit ?_
      refine eo_thenX ?_
      refine eo_loopX ?_
      refine eo_block_here ?_
      refine eo_then ?_
      refine cw_seq ?_
      -- region 4
      refine cw_region ?_
      refine wl_move rfl rfl (by decide) ?_
      refine wl_move rfl rfl (by decide) ?_
      refine wl_slice rfl rfl un_u64 sz_u64 (lo := 0) (hi := k) rfl rfl (by omega) (by omega) (v := .slice A k cap) (slice_to _ _ _) (by decide) ?_
      refine wl_assign rfl rfl (by decide) ?_
      refine wl_nil ?_
      refine eo_then ?_
      refine cw_ret ?_
      refine eo_ret [.slice A k cap] rfl ⟨rfl, trivial⟩ ?_
      exact ⟨_, rfl, ⟨k, rfl, hk, Or.inr hz, hv⟩, hw1⟩
  ·
    -- region 2
    refine cw_region ?_
    refine wl_move rfl rfl (by decide) ?_
    refine wl_cmp rfl rfl rfl false (cb_gt_f (a := k) (b := 0) rfl rfl (by omega)) (by decide) ?_
    refine wl_move rfl rfl (by decide) ?_
    refine wl_off rfl (by decide) ?_
    refine wl_off rfl (by decide) ?_
    refine wl_off rfl (by decide) ?_
    refine wl_off rfl (by decide) ?_
    refine wl_off rfl (by decide) ?_
    refine wl_off rfl (by decide) ?_
    refine wl_pure rfl rfl (v := .bool false) (by decide) (by kernel_rfl) ?_
    refine wl_nil ?_
    refine eo_then ?_
    refine cw_false rfl ?_
    refine cw_exit ?_
    refine eo_thenX ?_
    refine eo_loopX ?_
    refine eo_block_here ?_
    refine eo_then ?_
    refine cw_seq ?_
    -- region 4
    refine cw_region ?_
    refine wl_move rfl rfl (by decide) ?_
    refine wl_move rfl rfl (by decide) ?_
    refine wl_slice rfl rfl un_u64 sz_u64 (lo := 0) (hi := k) rfl rfl (by omega) (by omega) (v := .slice A k cap) (slice_to _ _ _) (by decide) ?_
    refine wl_assign rfl rfl (by decide) ?_
    refine wl_nil ?_
    refine eo_then ?_
    refine cw_ret ?_
    refine eo_ret [.slice A k cap] rfl ⟨rfl, trivial⟩ ?_
    exact ⟨_, rfl, ⟨k, rfl, hk, Or.inl (by omega), hv⟩, hw1⟩

set_option maxHeartbeats 4000000 in
theorem ref3_halves {w : World} {A : Option Addr} {n cap : Nat} {xs : List Nat} (hx : Rd w A n cap xs) (hln : n ≤ 274877906944) :
    Calls Try.prog 109 #[.slice A n cap] w (Gv w (WD (nv xs))) := by
  have hlen := hx.len
  have hle := hx.rv.le
  refine sx_enter Try.func109 rfl (n := 38) rfl (Nat.le_of_ble_eq_true rfl) (args := [.slice A n cap]) ?_
  refine cw_keep [(0, .slice A n cap)] ⟨rfl, trivial⟩ ?_
  refine cw_seq ?_
  -- region 0
  refine cw_region ?_
  refine wl_assign rfl rfl (by decide) ?_
  refine wl_nil ?_
  refine eo_then ?_
  refine cw_seq ?_
  -- region 1
  refine cw_region ?_
  refine wl_move rfl rfl (by decide) ?_
  refine wl_call rfl rfl (vs := [.slice A n cap]) (by kernel_rfl) (by decide) (ref3_Trim hx (by omega)) ?_
  rintro _ v1 ⟨xr3, rfl, r3, e2⟩
  refine ret_intro ?_
  have hw1 : Ext w v1 := (Ext.refl w).trans e2
  obtain ⟨k4, rfl, hk4, ht4, hv4⟩ := r3
  have rd4 := ((hx.ext e2)).take hk4 (by omega) (Nat.le_refl _)
  refine wl_assign rfl rfl (by decide) ?_
  refine wl_nil ?_
  refine eo_then ?_
  refine cw_seq ?_
  obtain ⟨ys, hys⟩ : ∃ ys, xs.take k4 = ys := ⟨_, rfl⟩
  have hvy : nv ys = nv xs := by rw [← hys, nv_nb, nv_nb]; exact hv4 _
  rw [hys] at rd4
  have hly := rd4.len
  -- region 2
  refine cw_region ?_
  refine wl_move rfl rfl (by decide) ?_
  refine wl_pure rfl rfl (v := .int .i64 ((k4 : Nat) : Int)) (by decide) (by kernel_rfl) ?_
  refine wl_ar rfl rfl rfl ((2 * k4 : Nat) : Int) (ai_mul (a := 2) (b := k4) rfl rfl (by omega)) (by decide) ?_
  refine wl_make rfl (k := 2 * k4) rfl rfl rfl un_u64 info64 rfl (by decide) (by omega) (by decide) fun g5 v6 hg7 hb8 e9 => ?_
  rw [replicate_W64] at hb8
  have ge10 : w.heap.size ≤ g5 := by rw [← hg7]; exact hw1.size
  have ne12 : 0 < cap → ∀ a, A = some a → a.block ≠ g5 := fun hc a ha => by have := (rd4).rv.blk a ha hc; omega
  clear hg7
  have hw2 : Ext w v6 := hw1.trans e9
  refine wl_assign rfl rfl (by decide) ?_
  refine wl_nil ?_
  refine eo_then ?_
  refine cw_seq ?_
  refine cw_seq ?_
  -- region 3
  refine cw_region ?_
  refine wl_assign rfl rfl (by decide) ?_
  refine wl_nil ?_
  refine eo_then ?_
  refine cw_block ?_
  refine cw_loop (T := World × Nat × List Nat)
    (fun ⟨wr, i, l⟩ => [(0, .slice A k4 cap), (3, .slice (some ⟨g5, 0, none⟩) (2 * k4) (2 * k4)), (4, .int .i64 ((i : Nat) : Int))])
    (fun ⟨wr, i, l⟩ => wr)
    (fun ⟨wr, i, l⟩ => (Ext w wr) ∧ (i ≤ k4) ∧ (Bk wr g5 47 (l.map W64)) ∧ (l.length = 2 * k4) ∧ (Wfb 4294967296 l) ∧ (nb 4294967296 (l.take (2 * i)) = nv (ys.take i)) ∧ (Rd wr A k4 cap ys))
    (fun ⟨wr, i, l⟩ => k4 - i)
    (⟨v6, 0, _⟩ : World × Nat × List Nat) ⟨hw2, Nat.zero_le _, hb8, (List.length_replicate (n := 2 * k4) (a := 0)), Wfb_zeros (by decide) _, by simp [nb, nv], (rd4.ext e9)⟩ rfl ⟨rfl, rfl, rfl, trivial⟩ ?_
  rintro ⟨wr, i, l⟩ ⟨hw1, hi, hb, hl, hwf, hv, rl0⟩
  refine cw_re [(0, .slice A k4 cap), (3, .slice (some ⟨g5, 0, none⟩) (2 * k4) (2 * k4)), (4, .int .i64 ((i : Nat) : Int))] wr rfl ⟨rfl, rfl, rfl, trivial⟩ ?_
  refine cw_seq ?_
  refine cw_seq ?_
  by_cases him : i < k4
  ·
    -- region 4
    refine cw_region ?_
    refine wl_move rfl rfl (by decide) ?_
    refine wl_move rfl rfl (by decide) ?_
    refine wl_pure rfl rfl (v := .int .i64 ((k4 : Nat) : Int)) (by decide) (by kernel_rfl) ?_
    refine wl_cmp rfl rfl rfl true (cb_lt_t (a := i) (b := k4) rfl rfl (by omega)) (by decide) ?_
    refine wl_nil ?_
    refine eo_then ?_
    refine cw_true rfl ?_
    refine cw_skip ?_
    refine eo_then ?_
    refine cw_seq ?_
    refine cw_block ?_
    refine cw_seq ?_
    have hxb : ys.getD i 0 ≤ 18446744073709551615 := by have := Wf_getD rd4.wf i; rw [WB_def] at this; omega
    -- region 6
    refine cw_region ?_
    refine wl_move rfl rfl (by decide) ?_
    refine wl_move rfl rfl (by decide) ?_
    refine wl_ar rfl rfl rfl ((2 * i : Nat) : Int) (ai_mul (a := 2) (b := i) rfl rfl (by omega)) (by decide) ?_
    refine wl_move rfl rfl (by decide) ?_
    refine wl_move rfl rfl (by decide) ?_
    obtain ⟨p13, hp13, hc13, hv13⟩ := (rl0).at (i := i) (by omega)
    refine wl_idx rfl rfl rfl un_u64 sz_u64 i rfl (by omega) p13 hp13 (by decide) ?_
    refine wl_load rfl rfl (load_cell1 ag_u64 hc13) (by decide) ?_
    refine wl_ar rfl rfl rfl (((ys.getD i 0) % 4294967296 : Nat) : Int) (au_rem (a := ys.getD i 0) (b := 4294967296) rfl rfl (by omega)) (by decide) ?_
    refine wl_idx rfl rfl rfl un_u64 sz_u64 (2 * i) rfl (by omega) ⟨g5, 2 * i, none⟩ (arr_at _ _) (by decide) ?_
    have hb15 := hb
    refine wl_stored1 rfl rfl rfl sz_u64 rfl hb15 (len_map (by rw [hl]; omega)) rfl ((l.set (2 * i) ((ys.getD i 0) % 4294967296)).map W64) (map_W64_set _ _ _) fun v14 hb16 u17 hs18 => ?_
    have hw2 : Ext w v14 := u17.ext hw1 ge10
    refine wl_nil ?_
    refine eo_then ?_
    -- region 7
    refine cw_region ?_
    refine wl_move rfl rfl (by decide) ?_
    refine wl_move rfl rfl (by decide) ?_
    refine wl_ar rfl rfl rfl ((2 * i : Nat) : Int) (ai_mul (a := 2) (b := i) rfl rfl (by omega)) (by decide) ?_
    refine wl_ar rfl rfl rfl (((2 * i) + 1 : Nat) : Int) (ai_add (a := 2 * i) (b := 1) rfl rfl (by omega)) (by decide) ?_
    refine wl_move rfl rfl (by decide) ?_
    refine wl_move rfl rfl (by decide) ?_
    obtain ⟨p19, hp19, hc19, hv19⟩ := ((Rd.updL rl0 u17 ne12)).at (i := i) (by omega)
    refine wl_idx rfl rfl rfl un_u64 sz_u64 i rfl (by omega) p19 hp19 (by decide) ?_
    refine wl_load rfl rfl (load_cell1 ag_u64 hc19) (by decide) ?_
    refine wl_ar rfl rfl rfl (((ys.getD i 0) / 4294967296 : Nat) : Int) (au_quo (a := ys.getD i 0) (b := 4294967296) rfl rfl (by omega) (by omega)) (by decide) ?_
    refine wl_idx rfl rfl rfl un_u64 sz_u64 ((2 * i) + 1) rfl (by omega) ⟨g5, (2 * i) + 1, none⟩ (arr_at _ _) (by decide) ?_
    have hb21 := hb16
    refine wl_stored1 rfl rfl rfl sz_u64 rfl hb21 (len_map (by rw [(len_set (l := l) (hl))]; omega)) rfl (((l.set (2 * i) ((ys.getD i 0) % 4294967296)).set ((2 * i) + 1) ((ys.getD i 0) / 4294967296)).map W64) (map_W64_set _ _ _) fun v20 hb22 u23 hs24 => ?_
    have hw3 : Ext w v20 := u23.ext hw2 ge10
    refine wl_nil ?_
    refine eo_block_normal ?_
    refine eo_then ?_
    -- region 5
    refine cw_region ?_
    refine wl_move rfl rfl (by decide) ?_
    refine wl_ar rfl rfl rfl ((i + 1 : Nat) : Int) (ai_add (a := i) (b := 1) rfl rfl (by omega)) (by decide) ?_
    refine wl_assign rfl rfl (by decide) ?_
    refine wl_nil ?_
    refine eo_round (⟨v20, i + 1, _⟩ : World × Nat × List Nat) ⟨hw3, (by omega), hb22, (len_set (l := l.set (2 * i) ((ys.getD i 0) % 4294967296)) ((len_set (l := l) (hl)))), Wfb_set (Wfb_set hwf _ (Nat.mod_lt _ (by decide))) _ (by omega), halves_step (by omega) (by omega) rfl hv, (Rd.updL (Rd.updL rl0 u17 ne12) u23 ne12)⟩ (show k4 - (i + 1) < k4 - i by omega) rfl ⟨rfl, rfl, rfl, trivial⟩
  ·
    -- region 4
    refine cw_region ?_
    refine wl_move rfl rfl (by decide) ?_
    refine wl_move rfl rfl (by decide) ?_
    refine wl_pure rfl rfl (v := .int .i64 ((k4 : Nat) : Int)) (by decide) (by kernel_rfl) ?_
    refine wl_cmp rfl rfl rfl false (cb_lt_f (a := i) (b := k4) rfl rfl (by omega)) (by decide) ?_
    refine wl_nil ?_
    refine eo_then ?_
    refine cw_false rfl ?_
    refine cw_exit ?_
    refine eo_thenX ?_
    refine eo_loopX ?_
    refine eo_block_here ?_
    refine eo_then ?_
    refine cw_seq ?_
    obtain rfl : k4 = i := by omega
    have hval : nb 4294967296 l = nv xs := by rw [← hvy]; rwa [List.take_of_length_le (by omega), List.take_of_length_le (by omega)] at hv
    -- region 8
    refine cw_region ?_
    refine wl_move rfl rfl (by decide) ?_
    refine wl_call rfl rfl (vs := [.slice (some ⟨g5, 0, none⟩) (2 * k4) (2 * k4)]) (by kernel_rfl) (by decide) (ref3_Trim (hb.rd0 hwf.wf hl (by omega)) (by omega)) ?_
    rintro _ v25 ⟨xr27, rfl, r27, e26⟩
    refine ret_intro ?_
    have hw2 : Ext w v25 := hw1.trans e26
    obtain ⟨k28, rfl, hk28, ht28, hv28⟩ := r27
    refine wl_assign rfl rfl (by decide) ?_
    refine wl_nil ?_
    refine eo_then ?_
    refine cw_ret ?_
    refine eo_ret [.slice (some ⟨g5, 0, none⟩) k28 (2 * k4)] rfl ⟨rfl, trivial⟩ ?_
    have hr := ((hb.ext e26).rd0 hwf.wf hl (by omega)).trim hwf hk28 ht28 hv28
    rw [hval] at hr
    exact ⟨_, rfl, ⟨_, _, _, rfl, hr⟩, hw2⟩

set_option maxHeartbeats 4000000 in
theorem ref3_words {w : World} {A : Option Addr} {n cap : Nat} {xs : List Nat} (hx : Rd w A n cap xs) (hln : n ≤ 1099511627776) (hwx : Wfb 4294967296 xs) :
    Calls Try.prog 111 #[.slice A n cap] w (Gv w (WR w.heap.size (nb 4294967296 xs))) := by
  have hlen := hx.len
  have hle := hx.rv.le
  refine sx_enter Try.func111 rfl (n := 45) rfl (Nat.le_of_ble_eq_true rfl) (args := [.slice A n cap]) ?_
  refine cw_keep [(0, .slice A n cap)] ⟨rfl, trivial⟩ ?_
  refine cw_seq ?_
  -- region 0
  refine cw_region ?_
  refine wl_assign rfl rfl (by decide) ?_
  refine wl_nil ?_
  refine eo_then ?_
  refine cw_seq ?_
  -- region 1
  refine cw_region ?_
  refine wl_move rfl rfl (by decide) ?_
  refine wl_call rfl rfl (vs := [.slice A n cap]) (by kernel_rfl) (by decide) (ref3_Trim hx (by omega)) ?_
  rintro _ v1 ⟨xr3, rfl, r3, e2⟩
  refine ret_intro ?_
  have hw1 : Ext w v1 := (Ext.refl w).trans e2
  obtain ⟨k4, rfl, hk4, ht4, hv4⟩ := r3
  have rd4 := ((hx.ext e2)).take hk4 (by omega) (Nat.le_refl _)
  refine wl_assign rfl rfl (by decide) ?_
  refine wl_nil ?_
  refine eo_then ?_
  refine cw_seq ?_
  have hwy : Wfb 4294967296 (xs.take k4) := Wfb_take hwx _
  have hty := top_take ht4
  have hvy := hv4 4294967296
  obtain ⟨ys, hys⟩ : ∃ ys, xs.take k4 = ys := ⟨_, rfl⟩
  rw [hys] at rd4 hwy hty hvy
  have hly := rd4.len
  -- region 2
  refine cw_region ?_
  refine wl_move rfl rfl (by decide) ?_
  refine wl_pure rfl rfl (v := .int .i64 ((k4 : Nat) : Int)) (by decide) (by kernel_rfl) ?_
  refine wl_ar rfl rfl rfl ((k4 + 1 : Nat) : Int) (ai_add (a := k4) (b := 1) rfl rfl (by omega)) (by decide) ?_
  refine wl_ar rfl rfl rfl (((k4 + 1) / 2 : Nat) : Int) (ai_quo (a := k4 + 1) (b := 2) rfl rfl (by omega) (by omega)) (by decide) ?_
  refine wl_make rfl (k := (k4 + 1) / 2) rfl rfl rfl un_u64 info64 rfl (by decide) (by omega) (by decide) fun g5 v6 hg7 hb8 e9 => ?_
  rw [replicate_W64] at hb8
  have ge10 : w.heap.size ≤ g5 := by rw [← hg7]; exact hw1.size
  have ne12 : 0 < cap → ∀ a, A = some a → a.block ≠ g5 := fun hc a ha => by have := (rd4).rv.blk a ha hc; omega
  clear hg7
  have hw2 : Ext w v6 := hw1.trans e9
  refine wl_assign rfl rfl (by decide) ?_
  refine wl_nil ?_
  refine eo_then ?_
  refine cw_seq ?_
  refine cw_seq ?_
  -- region 3
  refine cw_region ?_
  refine wl_assign rfl rfl (by decide) ?_
  refine wl_nil ?_
  refine eo_then ?_
  refine cw_block ?_
  refine cw_loop (T := World × Nat × List Nat)
    (fun ⟨wr, i, l⟩ => [(0, .slice A k4 cap), (3, .slice (some ⟨g5, 0, none⟩) ((k4 + 1) / 2) ((k4 + 1) / 2)), (4, .int .i64 ((i : Nat) : Int))])
    (fun ⟨wr, i, l⟩ => wr)
    (fun ⟨wr, i, l⟩ => (Ext w wr) ∧ (i ≤ k4) ∧ (Bk wr g5 47 (l.map W64)) ∧ (l.length = (k4 + 1) / 2) ∧ (WI ys l i) ∧ (Rd wr A k4 cap ys))
    (fun ⟨wr, i, l⟩ => k4 - i)
    (⟨v6, 0, _⟩ : World × Nat × List Nat) ⟨hw2, Nat.zero_le _, hb8, (List.length_replicate (n := (k4 + 1) / 2) (a := 0)), WI.start _ _, (rd4.ext e9)⟩ rfl ⟨rfl, rfl, rfl, trivial⟩ ?_
  rintro ⟨wr, i, l⟩ ⟨hw1, hi, hb, hl, hI, rl0⟩
  refine cw_re [(0, .slice A k4 cap), (3, .slice (some ⟨g5, 0, none⟩) ((k4 + 1) / 2) ((k4 + 1) / 2)), (4, .int .i64 ((i : Nat) : Int))] wr rfl ⟨rfl, rfl, rfl, trivial⟩ ?_
  refine cw_seq ?_
  refine cw_seq ?_
  by_cases him : i < k4
  ·
    -- region 4
    refine cw_region ?_
    refine wl_move rfl rfl (by decide) ?_
    refine wl_move rfl rfl (by decide) ?_
    refine wl_pure rfl rfl (v := .int .i64 ((k4 : Nat) : Int)) (by decide) (by kernel_rfl) ?_
    refine wl_cmp rfl rfl rfl true (cb_lt_t (a := i) (b := k4) rfl rfl (by omega)) (by decide) ?_
    refine wl_nil ?_
    refine eo_then ?_
    refine cw_true rfl ?_
    refine cw_skip ?_
    refine eo_then ?_
    refine cw_seq ?_
    refine cw_block ?_
    refine cw_seq ?_
    have hxb := Wfb_getD (b := 4294967296) (by decide) hwy i
    by_cases hp : i % 2 = 0
    ·
      -- region 6
      refine cw_region ?_
      refine wl_move rfl rfl (by decide) ?_
      refine wl_ar rfl rfl rfl ((i % 2 : Nat) : Int) (au_rem (a := i) (b := 2) rfl rfl (by omega)) (by decide) ?_
      refine wl_cmp rfl rfl rfl true (cb_eq_t (a := i % 2) (b := 0) rfl rfl (by omega)) (by decide) ?_
      refine wl_nil ?_
      refine eo_then ?_
      refine cw_true rfl ?_
      -- region 7
      refine cw_region ?_
      refine wl_move rfl rfl (by decide) ?_
      refine wl_move rfl rfl (by decide) ?_
      refine wl_ar rfl rfl rfl ((i / 2 : Nat) : Int) (ai_quo (a := i) (b := 2) rfl rfl (by omega) (by omega)) (by decide) ?_
      refine wl_move rfl rfl (by decide) ?_
      refine wl_move rfl rfl (by decide) ?_
      obtain ⟨p13, hp13, hc13, hv13⟩ := (rl0).at (i := i) (by omega)
      refine wl_idx rfl rfl rfl un_u64 sz_u64 i rfl (by omega) p13 hp13 (by decide) ?_
      refine wl_load rfl rfl (load_cell1 ag_u64 hc13) (by decide) ?_
      refine wl_idx rfl rfl rfl un_u64 sz_u64 (i / 2) rfl (by omega) ⟨g5, i / 2, none⟩ (arr_at _ _) (by decide) ?_
      have hb15 := hb
      refine wl_stored1 rfl rfl rfl sz_u64 rfl hb15 (len_map (by rw [hl]; omega)) rfl ((l.set (i / 2) (ys.getD i 0)).map W64) (map_W64_set _ _ _) fun v14 hb16 u17 hs18 => ?_
      have hw2 : Ext w v14 := u17.ext hw1 ge10
      refine wl_nil ?_
      refine eo_block_normal ?_
      refine eo_then ?_
      -- region 5
      refine cw_region ?_
      refine wl_move rfl rfl (by decide) ?_
      refine wl_ar rfl rfl rfl ((i + 1 : Nat) : Int) (ai_add (a := i) (b := 1) rfl rfl (by omega)) (by decide) ?_
      refine wl_assign rfl rfl (by decide) ?_
      refine wl_nil ?_
      refine eo_round (⟨v14, i + 1, _⟩ : World × Nat × List Nat) ⟨hw2, (by omega), hb16, (len_set (l := l) (hl)), hI.even hp (by omega) (by omega) hxb, (Rd.updL rl0 u17 ne12)⟩ (show k4 - (i + 1) < k4 - i by omega) rfl ⟨rfl, rfl, rfl, trivial⟩
    ·
      have hob := hI.o (by omega)
      -- region 6
      refine cw_region ?_
      refine wl_move rfl rfl (by decide) ?_
      refine wl_ar rfl rfl rfl ((i % 2 : Nat) : Int) (au_rem (a := i) (b := 2) rfl rfl (by omega)) (by decide) ?_
      refine wl_cmp rfl rfl rfl false (cb_eq_f (a := i % 2) (b := 0) rfl rfl (by omega)) (by decide) ?_
      refine wl_nil ?_
      refine eo_then ?_
      refine cw_false rfl ?_
      -- region 8, certain
      refine cw_keep [(0, .slice A k4 cap), (3, .slice (some ⟨g5, 0, none⟩) ((k4 + 1) / 2) ((k4 + 1) / 2)), (4, .int .i64 ((i : Nat) : Int)), (12, .int .i64 ((i : Nat) : Int)), (13, .slice A k4 cap), (14, .int .i64 ((k4 : Nat) : Int)), (15, .bool true), (18, .int .i64 ((i : Nat) : Int)), (19, .int .i64 ((i % 2 : Nat) : Int)), (20, .bool false)] ⟨rfl, rfl, rfl, rfl, rfl, rfl, rfl, rfl, rfl, rfl, trivial⟩ ?_
      obtain ⟨v19, hv, e20⟩ : ∃ v, v = wr.drew ∧ Ext wr v := ⟨_, rfl, (Ext.refl _).drew⟩
      have hw2 : Ext w v19 := hw1.trans e20
      obtain ⟨p21, hp21, hc21, hv21⟩ := ((rl0.ext e20)).at (i := i) (by omega)
      have hb23 := (hb.ext e20)
      obtain ⟨v22, hr27, hb24, u25, hs26⟩ := run_store1v (P := Try.prog) (v := .int .u64 (((l.getD (i / 2) 0) + ((ys.getD i 0) * 4294967296) : Nat) : Int)) (off := i / 2) sz_u64 rfl hb23 (len_map (by rw [hl]; omega)) rfl ((l.set (i / 2) ((l.getD (i / 2) 0) + ((ys.getD i 0) * 4294967296))).map W64) (map_W64_set _ _ _)
      have hw3 : Ext w v22 := u25.ext hw2 ge10
      refine cw_det mix (w := v19) [.slice (some ⟨g5, 0, none⟩) ((k4 + 1) / 2) ((k4 + 1) / 2), .int .i64 ((i : Nat) : Int), .int .i64 ((i / 2 : Nat) : Int), .slice (some ⟨g5, 0, none⟩) ((k4 + 1) / 2) ((k4 + 1) / 2), .int .i64 ((i : Nat) : Int), .int .i64 ((i / 2 : Nat) : Int), .pointer (some (⟨g5, i / 2, none⟩)), .int .u64 ((l.getD (i / 2) 0 : Nat) : Int), .slice A k4 cap, .int .i64 ((i : Nat) : Int), .pointer (some p21), .int .u64 ((ys.getD i 0 : Nat) : Int), .int .u64 (((ys.getD i 0) * 4294967296 : Nat) : Int), .int .u64 (((l.getD (i / 2) 0) + ((ys.getD i 0) * 4294967296) : Nat) : Int), .pointer (some (⟨g5, i / 2, none⟩)), undef] [v19, v22] [15] [[], [], [1], [], [], [4], [3, 5], [6], [], [], [8, 9], [10], [11], [7, 12], [0, 2], [13, 14]] [[], [], [1], [], [], [4], [3, 4, 5], [3, 4, 5, 6], [], [], [8, 9], [8, 9, 10], [8, 9, 10, 11], [3, 4, 5, 6, 7, 8, 9, 10, 11, 12], [0, 1, 2, 3, 4, 5, 6, 7, 8, 9, 10, 11, 12, 13], [0, 1, 2, 3, 4, 5, 6, 7, 8, 9, 10, 11, 12, 13, 14]] [(0, 0), (1, 0), (2, 0), (3, 0), (4, 0), (5, 0), (6, 0), (7, 0), (8, 0), (9, 0), (10, 0), (11, 0), (12, 0), (13, 0), (14, 0), (15, 0)] rfl hv ?_ ?_
      ·
        refine dobs_val ([(0, .slice A k4 cap), (3, .slice (some ⟨g5, 0, none⟩) ((k4 + 1) / 2) ((k4 + 1) / 2)), (4, .int .i64 ((i : Nat) : Int)), (12, .int .i64 ((i : Nat) : Int)), (13, .slice A k4 cap), (14, .int .i64 ((k4 : Nat) : Int)), (15, .bool true), (18, .int .i64 ((i : Nat) : Int)), (19, .int .i64 ((i % 2 : Nat) : Int)), (20, .bool false)]) rfl rfl rfl rfl rfl (rd_move rfl) ?_
        refine dobs_val ([(0, .slice A k4 cap), (3, .slice (some ⟨g5, 0, none⟩) ((k4 + 1) / 2) ((k4 + 1) / 2)), (4, .int .i64 ((i : Nat) : Int)), (12, .int .i64 ((i : Nat) : Int)), (13, .slice A k4 cap), (14, .int .i64 ((k4 : Nat) : Int)), (15, .bool true), (18, .int .i64 ((i : Nat) : Int)), (19, .int .i64 ((i % 2 : Nat) : Int)), (20, .bool false)]) rfl rfl rfl rfl rfl (rd_move rfl) ?_
        refine dobs_val ((30, .int .i64 ((i : Nat) : Int)) :: [(0, .slice A k4 cap), (3, .slice (some ⟨g5, 0, none⟩) ((k4 + 1) / 2) ((k4 + 1) / 2)), (4, .int .i64 ((i : Nat) : Int)), (12, .int .i64 ((i : Nat) : Int)), (13, .slice A k4 cap), (14, .int .i64 ((k4 : Nat) : Int)), (15, .bool true), (18, .int .i64 ((i : Nat) : Int)), (19, .int .i64 ((i % 2 : Nat) : Int)), (20, .bool false)]) rfl rfl rfl rfl rfl (rd_ar rfl rfl ((i / 2 : Nat) : Int) (ai_quo (a := i) (b := 2) rfl rfl (by omega) (by omega))) ?_
        refine dobs_val ([(0, .slice A k4 cap), (3, .slice (some ⟨g5, 0, none⟩) ((k4 + 1) / 2) ((k4 + 1) / 2)), (4, .int .i64 ((i : Nat) : Int)), (12, .int .i64 ((i : Nat) : Int)), (13, .slice A k4 cap), (14, .int .i64 ((k4 : Nat) : Int)), (15, .bool true), (18, .int .i64 ((i : Nat) : Int)), (19, .int .i64 ((i % 2 : Nat) : Int)), (20, .bool false)]) rfl rfl rfl rfl rfl (rd_move rfl) ?_
        refine dobs_val ([(0, .slice A k4 cap), (3, .slice (some ⟨g5, 0, none⟩) ((k4 + 1) / 2) ((k4 + 1) / 2)), (4, .int .i64 ((i : Nat) : Int)), (12, .int .i64 ((i : Nat) : Int)), (13, .slice A k4 cap), (14, .int .i64 ((k4 : Nat) : Int)), (15, .bool true), (18, .int .i64 ((i : Nat) : Int)), (19, .int .i64 ((i % 2 : Nat) : Int)), (20, .bool false)]) rfl rfl rfl rfl rfl (rd_move rfl) ?_
        refine dobs_val ((33, .int .i64 ((i : Nat) : Int)) :: [(0, .slice A k4 cap), (3, .slice (some ⟨g5, 0, none⟩) ((k4 + 1) / 2) ((k4 + 1) / 2)), (4, .int .i64 ((i : Nat) : Int)), (12, .int .i64 ((i : Nat) : Int)), (13, .slice A k4 cap), (14, .int .i64 ((k4 : Nat) : Int)), (15, .bool true), (18, .int .i64 ((i : Nat) : Int)), (19, .int .i64 ((i % 2 : Nat) : Int)), (20, .bool false)]) rfl rfl rfl rfl rfl (rd_ar rfl rfl ((i / 2 : Nat) : Int) (ai_quo (a := i) (b := 2) rfl rfl (by omega) (by omega))) ?_
        refine dobs_val ((32, .slice (some ⟨g5, 0, none⟩) ((k4 + 1) / 2) ((k4 + 1) / 2)) :: (34, .int .i64 ((i / 2 : Nat) : Int)) :: [(0, .slice A k4 cap), (3, .slice (some ⟨g5, 0, none⟩) ((k4 + 1) / 2) ((k4 + 1) / 2)), (4, .int .i64 ((i : Nat) : Int)), (12, .int .i64 ((i : Nat) : Int)), (13, .slice A k4 cap), (14, .int .i64 ((k4 : Nat) : Int)), (15, .bool true), (18, .int .i64 ((i : Nat) : Int)), (19, .int .i64 ((i % 2 : Nat) : Int)), (20, .bool false)]) rfl rfl rfl rfl rfl (rd_idx rfl rfl un_u64 sz_u64 (i / 2) rfl (by omega) ⟨g5, i / 2, none⟩ (arr_at _ _)) ?_
        refine dobs_val ((35, .pointer (some (⟨g5, i / 2, none⟩))) :: [(0, .slice A k4 cap), (3, .slice (some ⟨g5, 0, none⟩) ((k4 + 1) / 2) ((k4 + 1) / 2)), (4, .int .i64 ((i : Nat) : Int)), (12, .int .i64 ((i : Nat) : Int)), (13, .slice A k4 cap), (14, .int .i64 ((k4 : Nat) : Int)), (15, .bool true), (18, .int .i64 ((i : Nat) : Int)), (19, .int .i64 ((i % 2 : Nat) : Int)), (20, .bool false)]) rfl rfl rfl rfl rfl (rd_load rfl (load_word ag_u64 (hb.ext e20) (by rw [hl]; omega))) ?_
        refine dobs_val ([(0, .slice A k4 cap), (3, .slice (some ⟨g5, 0, none⟩) ((k4 + 1) / 2) ((k4 + 1) / 2)), (4, .int .i64 ((i : Nat) : Int)), (12, .int .i64 ((i : Nat) : Int)), (13, .slice A k4 cap), (14, .int .i64 ((k4 : Nat) : Int)), (15, .bool true), (18, .int .i64 ((i : Nat) : Int)), (19, .int .i64 ((i % 2 : Nat) : Int)), (20, .bool false)]) rfl rfl rfl rfl rfl (rd_move rfl) ?_
        refine dobs_val ([(0, .slice A k4 cap), (3, .slice (some ⟨g5, 0, none⟩) ((k4 + 1) / 2) ((k4 + 1) / 2)), (4, .int .i64 ((i : Nat) : Int)), (12, .int .i64 ((i : Nat) : Int)), (13, .slice A k4 cap), (14, .int .i64 ((k4 : Nat) : Int)), (15, .bool true), (18, .int .i64 ((i : Nat) : Int)), (19, .int .i64 ((i % 2 : Nat) : Int)), (20, .bool false)]) rfl rfl rfl rfl rfl (rd_move rfl) ?_
        refine dobs_val ((37, .slice A k4 cap) :: (38, .int .i64 ((i : Nat) : Int)) :: [(0, .slice A k4 cap), (3, .slice (some ⟨g5, 0, none⟩) ((k4 + 1) / 2) ((k4 + 1) / 2)), (4, .int .i64 ((i : Nat) : Int)), (12, .int .i64 ((i : Nat) : Int)), (13, .slice A k4 cap), (14, .int .i64 ((k4 : Nat) : Int)), (15, .bool true), (18, .int .i64 ((i : Nat) : Int)), (19, .int .i64 ((i % 2 : Nat) : Int)), (20, .bool false)]) rfl rfl rfl rfl rfl (rd_idx rfl rfl un_u64 sz_u64 i rfl (by omega) p21 hp21) ?_
        refine dobs_val ((39, .pointer (some p21)) :: [(0, .slice A k4 cap), (3, .slice (some ⟨g5, 0, none⟩) ((k4 + 1) / 2) ((k4 + 1) / 2)), (4, .int .i64 ((i : Nat) : Int)), (12, .int .i64 ((i : Nat) : Int)), (13, .slice A k4 cap), (14, .int .i64 ((k4 : Nat) : Int)), (15, .bool true), (18, .int .i64 ((i : Nat) : Int)), (19, .int .i64 ((i % 2 : Nat) : Int)), (20, .bool false)]) rfl rfl rfl rfl rfl (rd_load rfl (load_cell1 ag_u64 hc21)) ?_
        refine dobs_val ((40, .int .u64 ((ys.getD i 0 : Nat) : Int)) :: [(0, .slice A k4 cap), (3, .slice (some ⟨g5, 0, none⟩) ((k4 + 1) / 2) ((k4 + 1) / 2)), (4, .int .i64 ((i : Nat) : Int)), (12, .int .i64 ((i : Nat) : Int)), (13, .slice A k4 cap), (14, .int .i64 ((k4 : Nat) : Int)), (15, .bool true), (18, .int .i64 ((i : Nat) : Int)), (19, .int .i64 ((i % 2 : Nat) : Int)), (20, .bool false)]) rfl rfl rfl rfl rfl (rd_ar rfl rfl (((ys.getD i 0) * 4294967296 : Nat) : Int) (au_mul (a := ys.getD i 0) (b := 4294967296) rfl rfl (by omega))) ?_
        refine dobs_val ((36, .int .u64 ((l.getD (i / 2) 0 : Nat) : Int)) :: (41, .int .u64 (((ys.getD i 0) * 4294967296 : Nat) : Int)) :: [(0, .slice A k4 cap), (3, .slice (some ⟨g5, 0, none⟩) ((k4 + 1) / 2) ((k4 + 1) / 2)), (4, .int .i64 ((i : Nat) : Int)), (12, .int .i64 ((i : Nat) : Int)), (13, .slice A k4 cap), (14, .int .i64 ((k4 : Nat) : Int)), (15, .bool true), (18, .int .i64 ((i : Nat) : Int)), (19, .int .i64 ((i % 2 : Nat) : Int)), (20, .bool false)]) rfl rfl rfl rfl rfl (rd_ar rfl rfl (((l.getD (i / 2) 0) + ((ys.getD i 0) * 4294967296) : Nat) : Int) (au_add (a := l.getD (i / 2) 0) (b := (ys.getD i 0) * 4294967296) rfl rfl (by omega))) ?_
        refine dobs_val ((29, .slice (some ⟨g5, 0, none⟩) ((k4 + 1) / 2) ((k4 + 1) / 2)) :: (31, .int .i64 ((i / 2 : Nat) : Int)) :: [(0, .slice A k4 cap), (3, .slice (some ⟨g5, 0, none⟩) ((k4 + 1) / 2) ((k4 + 1) / 2)), (4, .int .i64 ((i : Nat) : Int)), (12, .int .i64 ((i : Nat) : Int)), (13, .slice A k4 cap), (14, .int .i64 ((k4 : Nat) : Int)), (15, .bool true), (18, .int .i64 ((i : Nat) : Int)), (19, .int .i64 ((i % 2 : Nat) : Int)), (20, .bool false)]) rfl rfl rfl rfl rfl (rd_idx rfl rfl un_u64 sz_u64 (i / 2) rfl (by omega) ⟨g5, i / 2, none⟩ (arr_at _ _)) ?_
        refine dobs_sto ((42, .int .u64 (((l.getD (i / 2) 0) + ((ys.getD i 0) * 4294967296) : Nat) : Int)) :: (43, .pointer (some (⟨g5, i / 2, none⟩))) :: [(0, .slice A k4 cap), (3, .slice (some ⟨g5, 0, none⟩) ((k4 + 1) / 2) ((k4 + 1) / 2)), (4, .int .i64 ((i : Nat) : Int)), (12, .int .i64 ((i : Nat) : Int)), (13, .slice A k4 cap), (14, .int .i64 ((k4 : Nat) : Int)), (15, .bool true), (18, .int .i64 ((i : Nat) : Int)), (19, .int .i64 ((i % 2 : Nat) : Int)), (20, .bool false)]) rfl rfl rfl rfl rfl (rd_store rfl rfl hr27) ?_
        exact dobs_nil
      clear hv
      refine eo_keep [(0, .slice A k4 cap), (3, .slice (some ⟨g5, 0, none⟩) ((k4 + 1) / 2) ((k4 + 1) / 2)), (4, .int .i64 ((i : Nat) : Int)), (12, .int .i64 ((i : Nat) : Int)), (13, .slice A k4 cap), (14, .int .i64 ((k4 : Nat) : Int)), (15, .bool true), (18, .int .i64 ((i : Nat) : Int)), (19, .int .i64 ((i % 2 : Nat) : Int)), (20, .bool false), (29, .slice (some ⟨g5, 0, none⟩) ((k4 + 1) / 2) ((k4 + 1) / 2)), (30, .int .i64 ((i : Nat) : Int)), (31, .int .i64 ((i / 2 : Nat) : Int)), (32, .slice (some ⟨g5, 0, none⟩) ((k4 + 1) / 2) ((k4 + 1) / 2)), (33, .int .i64 ((i : Nat) : Int)), (34, .int .i64 ((i / 2 : Nat) : Int)), (35, .pointer (some (⟨g5, i / 2, none⟩))), (36, .int .u64 ((l.getD (i / 2) 0 : Nat) : Int)), (37, .slice A k4 cap), (38, .int .i64 ((i : Nat) : Int)), (39, .pointer (some p21)), (40, .int .u64 ((ys.getD i 0 : Nat) : Int)), (41, .int .u64 (((ys.getD i 0) * 4294967296 : Nat) : Int)), (42, .int .u64 (((l.getD (i / 2) 0) + ((ys.getD i 0) * 4294967296) : Nat) : Int)), (43, .pointer (some (⟨g5, i / 2, none⟩)))] ⟨rfl, rfl, rfl, rfl, rfl, rfl, rfl, rfl, rfl, rfl, rfl, rfl, rfl, rfl, rfl, rfl, rfl, rfl, rfl, rfl, rfl, rfl, rfl, rfl, rfl, trivial⟩ ?_
      refine eo_block_normal ?_
      refine eo_then ?_
      -- region 5
      refine cw_region ?_
      refine wl_move rfl rfl (by decide) ?_
      refine wl_ar rfl rfl rfl ((i + 1 : Nat) : Int) (ai_add (a := i) (b := 1) rfl rfl (by omega)) (by decide) ?_
      refine wl_assign rfl rfl (by decide) ?_
      refine wl_nil ?_
      refine eo_round (⟨v22, i + 1, _⟩ : World × Nat × List Nat) ⟨hw3, (by omega), hb24, (len_set (l := l) (hl)), hI.odd (by omega) (by omega) (by omega) hxb, (Rd.updL (rl0.ext e20) u25 ne12)⟩ (show k4 - (i + 1) < k4 - i by omega) rfl ⟨rfl, rfl, rfl, trivial⟩
  ·
    -- region 4
    refine cw_region ?_
    refine wl_move rfl rfl (by decide) ?_
    refine wl_move rfl rfl (by decide) ?_
    refine wl_pure rfl rfl (v := .int .i64 ((k4 : Nat) : Int)) (by decide) (by kernel_rfl) ?_
    refine wl_cmp rfl rfl rfl false (cb_lt_f (a := i) (b := k4) rfl rfl (by omega)) (by decide) ?_
    refine wl_nil ?_
    refine eo_then ?_
    refine cw_false rfl ?_
    refine cw_exit ?_
    refine eo_thenX ?_
    refine eo_loopX ?_
    refine eo_block_here ?_
    refine eo_then ?_
    refine cw_seq ?_
    -- region 9
    refine cw_region ?_
    refine wl_move rfl rfl (by decide) ?_
    refine wl_assign rfl rfl (by decide) ?_
    refine wl_nil ?_
    refine eo_then ?_
    refine cw_ret ?_
    refine eo_ret [.slice (some ⟨g5, 0, none⟩) ((k4 + 1) / 2) ((k4 + 1) / 2)] rfl ⟨rfl, trivial⟩ ?_
    obtain rfl : k4 = i := by omega
    exact gw (Nat.le_refl _) _ _ (RetW_mk (ys := l) ge10 hb hl (Nat.le_refl _) (by rw [len_maxLen]; omega) (hI.done hly hl hvy hty) hw1)

/-- an array of its own: digits of m -/
def AR (b N m : Nat) (v : Value) (w : World) : Prop := ∃ g l, v = .slice (some ⟨g, 0, none⟩) N N ∧ b ≤ g ∧ Bk w g 47 (l.map W64) ∧ l.length = N ∧ Wfb 4294967296 l ∧ nb 4294967296 l = m
theorem scaled_step {l xs : List Nat} {i c f : Nat} (hl : i < l.length) (hi : i < xs.length) (h : nb 4294967296 (l.take i) + 4294967296 ^ i * c = nb 4294967296 (xs.take i) * f) :
    nb 4294967296 ((l.set i ((xs.getD i 0 * f + c) % 4294967296)).take (i + 1)) + 4294967296 ^ (i + 1) * ((xs.getD i 0 * f + c) / 4294967296) = nb 4294967296 (xs.take (i + 1)) * f := by
  rw [nb_set_snoc 4294967296 hl, Nat.pow_succ, Nat.mul_assoc, Nat.add_assoc, ← Nat.mul_add, Nat.mod_add_div, nb_take_snoc 4294967296 xs i hi, Nat.add_mul, ← h, Nat.mul_add, Nat.mul_assoc]
  omega

set_option maxHeartbeats 4000000 in
theorem ref3_scaled {w : World} {A : Option Addr} {n cap : Nat} {xs : List Nat} (hx : Rd w A n cap xs) (hln : n ≤ 274877906944) (hwx : Wfb 4294967296 xs) {f : Nat} (hf : f ≤ 4294967295) :
    Calls Try.prog 124 #[.slice A n cap, .int .u64 ((f : Nat) : Int)] w (Gv w (AR w.heap.size (n + 1) (nb 4294967296 xs * f))) := by
  have hlen := hx.len
  have hle := hx.rv.le
  refine sx_enter Try.func124 rfl (n := 40) rfl (Nat.le_of_ble_eq_true rfl) (args := [.slice A n cap, .int .u64 ((f : Nat) : Int)]) ?_
  refine cw_keep [(0, .slice A n cap), (1, .int .u64 ((f : Nat) : Int))] ⟨rfl, rfl, trivial⟩ ?_
  refine cw_seq ?_
  -- region 0
  refine cw_region ?_
  refine wl_assign rfl rfl (by decide) ?_
  refine wl_nil ?_
  refine eo_then ?_
  refine cw_seq ?_
  -- region 1
  refine cw_region ?_
  refine wl_move rfl rfl (by decide) ?_
  refine wl_pure rfl rfl (v := .int .i64 ((n : Nat) : Int)) (by decide) (by kernel_rfl) ?_
  refine wl_ar rfl rfl rfl ((n + 1 : Nat) : Int) (ai_add (a := n) (b := 1) rfl rfl (by omega)) (by decide) ?_
  refine wl_make rfl (k := n + 1) rfl rfl rfl un_u64 info64 rfl (by decide) (by omega) (by decide) fun g1 v2 hg3 hb4 e5 => ?_
  rw [replicate_W64] at hb4
  have ge6 : w.heap.size ≤ g1 := by rw [← hg3]; exact (Ext.refl w).size
  have ne8 : 0 < cap → ∀ a, A = some a → a.block ≠ g1 := fun hc a ha => by have := (hx).rv.blk a ha hc; omega
  clear hg3
  have hw1 : Ext w v2 := (Ext.refl w).trans e5
  refine wl_assign rfl rfl (by decide) ?_
  refine wl_nil ?_
  refine eo_then ?_
  refine cw_seq ?_
  -- region 2
  refine cw_region ?_
  refine wl_assign rfl rfl (by decide) ?_
  refine wl_nil ?_
  refine eo_then ?_
  refine cw_seq ?_
  refine cw_seq ?_
  -- region 3
  refine cw_region ?_
  refine wl_assign rfl rfl (by decide) ?_
  refine wl_nil ?_
  refine eo_then ?_
  refine cw_block ?_
  refine cw_loop (T := World × Nat × Nat × List Nat)
    (fun ⟨wr, i, c, l⟩ => [(0, .slice A n cap), (1, .int .u64 ((f : Nat) : Int)), (5, .slice (some ⟨g1, 0, none⟩) (n + 1) (n + 1)), (6, .int .u64 ((c : Nat) : Int)), (7, .int .i64 ((i : Nat) : Int))])
    (fun ⟨wr, i, c, l⟩ => wr)
    (fun ⟨wr, i, c, l⟩ => (Ext w wr) ∧ (i ≤ n) ∧ (c ≤ 4294967295) ∧ (Bk wr g1 47 (l.map W64)) ∧ (l.length = n + 1) ∧ (Wfb 4294967296 l) ∧ (nb 4294967296 (l.take i) + 4294967296 ^ i * c = nb 4294967296 (xs.take i) * f) ∧ (Rd wr A n cap xs))
    (fun ⟨wr, i, c, l⟩ => n - i)
    (⟨v2, 0, 0, _⟩ : World × Nat × Nat × List Nat) ⟨hw1, Nat.zero_le _, Nat.zero_le _, hb4, (List.length_replicate (n := n + 1) (a := 0)), Wfb_zeros (by decide) _, by simp [nb], (hx.ext e5)⟩ rfl ⟨rfl, rfl, rfl, rfl, rfl, trivial⟩ ?_
  rintro ⟨wr, i, c, l⟩ ⟨hw1, hi, hc, hb, hl, hwf, hv, rl0⟩
  refine cw_re [(0, .slice A n cap), (1, .int .u64 ((f : Nat) : Int)), (5, .slice (some ⟨g1, 0, none⟩) (n + 1) (n + 1)), (6, .int .u64 ((c : Nat) : Int)), (7, .int .i64 ((i : Nat) : Int))] wr rfl ⟨rfl, rfl, rfl, rfl, rfl, trivial⟩ ?_
  refine cw_seq ?_
  refine cw_seq ?_
  by_cases him : i < n
  ·
    -- region 4
    refine cw_region ?_
    refine wl_move rfl rfl (by decide) ?_
    refine wl_move rfl rfl (by decide) ?_
    refine wl_pure rfl rfl (v := .int .i64 ((n : Nat) : Int)) (by decide) (by kernel_rfl) ?_
    refine wl_cmp rfl rfl rfl true (cb_lt_t (a := i) (b := n) rfl rfl (by omega)) (by decide) ?_
    refine wl_nil ?_
    refine eo_then ?_
    refine cw_true rfl ?_
    refine cw_skip ?_
    refine eo_then ?_
    refine cw_seq ?_
    refine cw_block ?_
    refine cw_seq ?_
    have hxb := Wfb_getD (b := 4294967296) (by decide) hwx i
    have hm : (xs.getD i 0) * f ≤ 4294967295 * 4294967295 := Nat.mul_le_mul (by omega) hf
    -- region 6
    refine cw_region ?_
    refine wl_move rfl rfl (by decide) ?_
    refine wl_move rfl rfl (by decide) ?_
    obtain ⟨p9, hp9, hc9, hv9⟩ := (rl0).at (i := i) (by omega)
    refine wl_idx rfl rfl rfl un_u64 sz_u64 i rfl (by omega) p9 hp9 (by decide) ?_
    refine wl_load rfl rfl (load_cell1 ag_u64 hc9) (by decide) ?_
    refine wl_move rfl rfl (by decide) ?_
    refine wl_ar rfl rfl rfl (((xs.getD i 0) * f : Nat) : Int) (au_mul (a := xs.getD i 0) (b := f) rfl rfl (by omega)) (by decide) ?_
    refine wl_move rfl rfl (by decide) ?_
    refine wl_ar rfl rfl rfl ((((xs.getD i 0) * f) + c : Nat) : Int) (au_add (a := (xs.getD i 0) * f) (b := c) rfl rfl (by omega)) (by decide) ?_
    refine wl_assign rfl rfl (by decide) ?_
    refine wl_nil ?_
    refine eo_then ?_
    refine cw_seq ?_
    -- region 7
    refine cw_region ?_
    refine wl_move rfl rfl (by decide) ?_
    refine wl_move rfl rfl (by decide) ?_
    refine wl_move rfl rfl (by decide) ?_
    refine wl_ar rfl rfl rfl (((((xs.getD i 0) * f) + c) % 4294967296 : Nat) : Int) (au_rem (a := ((xs.getD i 0) * f) + c) (b := 4294967296) rfl rfl (by omega)) (by decide) ?_
    refine wl_idx rfl rfl rfl un_u64 sz_u64 i rfl (by omega) ⟨g1, i, none⟩ (arr_at _ _) (by decide) ?_
    have hb11 := hb
    refine wl_stored1 rfl rfl rfl sz_u64 rfl hb11 (len_map (by rw [hl]; omega)) rfl ((l.set i ((((xs.getD i 0) * f) + c) % 4294967296)).map W64) (map_W64_set _ _ _) fun v10 hb12 u13 hs14 => ?_
    have hw2 : Ext w v10 := u13.ext hw1 ge6
    refine wl_nil ?_
    refine eo_then ?_
    -- region 8
    refine cw_region ?_
    refine wl_move rfl rfl (by decide) ?_
    refine wl_ar rfl rfl rfl (((((xs.getD i 0) * f) + c) / 4294967296 : Nat) : Int) (au_quo (a := ((xs.getD i 0) * f) + c) (b := 4294967296) rfl rfl (by omega) (by omega)) (by decide) ?_
    refine wl_assign rfl rfl (by decide) ?_
    refine wl_nil ?_
    refine eo_block_normal ?_
    refine eo_then ?_
    -- region 5
    refine cw_region ?_
    refine wl_move rfl rfl (by decide) ?_
    refine wl_ar rfl rfl rfl ((i + 1 : Nat) : Int) (ai_add (a := i) (b := 1) rfl rfl (by omega)) (by decide) ?_
    refine wl_assign rfl rfl (by decide) ?_
    refine wl_nil ?_
    refine eo_round (⟨v10, i + 1, _, _⟩ : World × Nat × Nat × List Nat) ⟨hw2, (by omega), (by omega), hb12, (len_set (l := l) (hl)), Wfb_set hwf _ (Nat.mod_lt _ (by decide)), scaled_step (by omega) (by omega) hv, (Rd.updL rl0 u13 ne8)⟩ (show n - (i + 1) < n - i by omega) rfl ⟨rfl, rfl, rfl, rfl, rfl, trivial⟩
  ·
    -- region 4
    refine cw_region ?_
    refine wl_move rfl rfl (by decide) ?_
    refine wl_move rfl rfl (by decide) ?_
    refine wl_pure rfl rfl (v := .int .i64 ((n : Nat) : Int)) (by decide) (by kernel_rfl) ?_
    refine wl_cmp rfl rfl rfl false (cb_lt_f (a := i) (b := n) rfl rfl (by omega)) (by decide) ?_
    refine wl_nil ?_
    refine eo_then ?_
    refine cw_false rfl ?_
    refine cw_exit ?_
    refine eo_thenX ?_
    refine eo_loopX ?_
    refine eo_block_here ?_
    refine eo_then ?_
    refine cw_seq ?_
    obtain rfl : n = i := by omega
    -- region 9
    refine cw_region ?_
    refine wl_move rfl rfl (by decide) ?_
    refine wl_move rfl rfl (by decide) ?_
    refine wl_pure rfl rfl (v := .int .i64 ((n : Nat) : Int)) (by decide) (by kernel_rfl) ?_
    refine wl_move rfl rfl (by decide) ?_
    refine wl_idx rfl rfl rfl un_u64 sz_u64 n rfl (by omega) ⟨g1, n, none⟩ (arr_at _ _) (by decide) ?_
    have hb16 := hb
    refine wl_stored1 rfl rfl rfl sz_u64 rfl hb16 (len_map (by rw [hl]; omega)) rfl ((l.set n c).map W64) (map_W64_set _ _ _) fun v15 hb17 u18 hs19 => ?_
    have hw2 : Ext w v15 := u18.ext hw1 ge6
    refine wl_nil ?_
    refine eo_then ?_
    refine cw_seq ?_
    -- region 10
    refine cw_region ?_
    refine wl_move rfl rfl (by decide) ?_
    refine wl_assign rfl rfl (by decide) ?_
    refine wl_nil ?_
    refine eo_then ?_
    refine cw_ret ?_
    refine eo_ret [.slice (some ⟨g1, 0, none⟩) (n + 1) (n + 1)] rfl ⟨rfl, trivial⟩ ?_
    refine ⟨_, rfl, ⟨_, _, rfl, ge6, hb17, (len_set (l := l) (hl)), Wfb_set hwf _ (by omega), ?_⟩, hw2⟩
    have h2 := nb_set_snoc 4294967296 (l := l) (i := n) (by omega) c
    rw [List.take_of_length_le (by rw [List.length_set]; omega)] at h2
    rw [h2, hv, List.take_of_length_le (by omega)]

end Go.Proofs.Ytmaconeeonkdgaa

/- trellisref03: takeOff, goes, printed by p_ref3b.py -/
namespace Go.Proofs.Ytmaconeeonkdgaa
open Go.RowKit

/-- r less q times b, from place s on -/
def TK (g N q s : Nat) (l es : List Nat) (w : World) (e : Ending) (w' : World) : Prop :=
  e = .returned (.tuple #[]) ∧ Upd g w w' ∧ ∃ l', Bk w' g 47 (l'.map W64) ∧ l'.length = N ∧ Wfb 4294967296 l' ∧ nb 4294967296 l' + q * nb 4294967296 es * 4294967296 ^ s = nb 4294967296 l
theorem takeOff_step {b : Nat} {l es : List Nat} {s i c q e T d d' c' Y : Nat} (h : nb b l + q * nb b (es.take i) * b ^ s = Y + b ^ (s + i) * c) (hk : s + i < l.length) (hd0 : l.getD (s + i) 0 = d) (hT : T = c + q * e) (he : nb b (es.take (i + 1)) = nb b (es.take i) + b ^ i * e)
    (hd : d' + T = d + b * c') : nb b (l.set (s + i) d') + q * nb b (es.take (i + 1)) * b ^ s = Y + b ^ (s + (i + 1)) * c' := by
  have h1 := nb_set b hk d'
  rw [hd0] at h1
  have e1 : q * nb b (es.take (i + 1)) * b ^ s = q * nb b (es.take i) * b ^ s + b ^ (s + i) * (q * e) := by
    rw [he, Nat.mul_add, Nat.add_mul, Nat.pow_add]
    congr 1
    grind
  have e2 : b ^ (s + i) * (d' + T) = b ^ (s + i) * (d + b * c') := by rw [hd]
  have e3 : b ^ (s + (i + 1)) * c' = b ^ (s + i) * (b * c') := by rw [← Nat.add_assoc, Nat.pow_succ, Nat.mul_assoc]
  rw [hT] at e2
  simp only [Nat.mul_add] at e2
  rw [e1, e3]
  omega
theorem takeOff_more {b : Nat} {es : List Nat} {i : Nat} (h : es.length ≤ i) : nb b (es.take (i + 1)) = nb b (es.take i) + b ^ i * 0 := by
  rw [List.take_of_length_le (by omega), List.take_of_length_le h]; rfl
theorem takeOff_done {l l' es : List Nat} {N s i m c q : Nat} (hw : Wfb 4294967296 l') (hl : l'.length = N) (he : es.length = m) (hs : s + m ≤ N) (hi : s + i ≤ N) (hq : q * nb 4294967296 es * 4294967296 ^ s ≤ nb 4294967296 l)
    (h : nb 4294967296 l' + q * nb 4294967296 (es.take i) * 4294967296 ^ s = nb 4294967296 l + 4294967296 ^ (s + i) * c) (hend : s + i = N ∨ m ≤ i ∧ c = 0) : nb 4294967296 l' + q * nb 4294967296 es * 4294967296 ^ s = nb 4294967296 l := by
  have hmi : m ≤ i := by omega
  rw [List.take_of_length_le (by omega)] at h
  have hc : c = 0 := by
    rcases hend with h1 | h1
    · have h2 := nb_lt hw
      rw [hl] at h2
      rw [h1] at h
      refine Nat.eq_zero_of_not_pos fun hp => ?_
      have h3 : 4294967296 ^ N * 1 ≤ 4294967296 ^ N * c := Nat.mul_le_mul_left _ hp
      omega
    · exact h1.2
  rw [hc, Nat.mul_zero, Nat.add_zero] at h
  exact h

set_option maxHeartbeats 4000000 in
theorem ref3_takeOff {w : World} {g N m cd q s : Nat} {D : Option Addr} {l es : List Nat} (hb0 : Bk w g 47 (l.map W64)) (hl0 : l.length = N) (hN : N ≤ 1099511627776) (hwl : Wfb 4294967296 l) (hy : Rd w D m cd es) (hwe : Wfb 4294967296 es) (hne : 0 < cd → ∀ a, D = some a → a.block ≠ g) (hqb : q < 4294967296) (hs : s + m ≤ N) (hq : q * nb 4294967296 es * 4294967296 ^ s ≤ nb 4294967296 l) :
    Calls Try.prog 126 #[.slice (some ⟨g, 0, none⟩) N N, .slice D m cd, .int .u64 ((q : Nat) : Int), .int .i64 ((s : Nat) : Int)] w (TK g N q s l es w) := by
  have hle := hy.len
  refine sx_enter Try.func126 rfl (n := 84) rfl (Nat.le_of_ble_eq_true rfl) (args := [.slice (some ⟨g, 0, none⟩) N N, .slice D m cd, .int .u64 ((q : Nat) : Int), .int .i64 ((s : Nat) : Int)]) ?_
  refine cw_keep [(0, .slice (some ⟨g, 0, none⟩) N N), (1, .slice D m cd), (2, .int .u64 ((q : Nat) : Int)), (3, .int .i64 ((s : Nat) : Int))] ⟨rfl, rfl, rfl, rfl, trivial⟩ ?_
  refine cw_seq ?_
  -- region 0
  refine cw_region ?_
  refine wl_assign rfl rfl (by decide) ?_
  refine wl_nil ?_
  refine eo_then ?_
  refine cw_seq ?_
  -- region 1
  refine cw_region ?_
  refine wl_assign rfl rfl (by decide) ?_
  refine wl_nil ?_
  refine eo_then ?_
  refine cw_block ?_
  refine cw_loop (T := World × Nat × Nat × List Nat)
    (fun ⟨wr, i, c, l'⟩ => [(0, .slice (some ⟨g, 0, none⟩) N N), (1, .slice D m cd), (2, .int .u64 ((q : Nat) : Int)), (3, .int .i64 ((s : Nat) : Int)), (8, .int .u64 ((c : Nat) : Int)), (9, .int .i64 ((i : Nat) : Int))])
    (fun ⟨wr, i, c, l'⟩ => wr)
    (fun ⟨wr, i, c, l'⟩ => (Upd g w wr) ∧ (s + i ≤ N) ∧ (c ≤ 4294967296) ∧ (Bk wr g 47 (l'.map W64)) ∧ (l'.length = N) ∧ (Wfb 4294967296 l') ∧ (nb 4294967296 l' + q * nb 4294967296 (es.take i) * 4294967296 ^ s = nb 4294967296 l + 4294967296 ^ (s + i) * c) ∧ (Rd wr D m cd es))
    (fun ⟨wr, i, c, l'⟩ => N - (s + i))
    (⟨w, 0, 0, l⟩ : World × Nat × Nat × List Nat) ⟨Upd.refl g w, (by omega), (by decide), hb0, hl0, hwl, by simp [nb], hy⟩ rfl ⟨rfl, rfl, rfl, rfl, rfl, rfl, trivial⟩ ?_
  rintro ⟨wr, i, c, l'⟩ ⟨hu, hi, hc, hb, hl, hwf, hv, rl1⟩
  refine cw_re [(0, .slice (some ⟨g, 0, none⟩) N N), (1, .slice D m cd), (2, .int .u64 ((q : Nat) : Int)), (3, .int .i64 ((s : Nat) : Int)), (8, .int .u64 ((c : Nat) : Int)), (9, .int .i64 ((i : Nat) : Int))] wr rfl ⟨rfl, rfl, rfl, rfl, rfl, rfl, trivial⟩ ?_
  refine cw_seq ?_
  refine cw_seq ?_
  by_cases hsi : s + i < N
  ·
    by_cases him : i < m
    ·
      -- region 2
      refine cw_region ?_
      refine wl_move rfl rfl (by decide) ?_
      refine wl_move rfl rfl (by decide) ?_
      refine wl_ar rfl rfl rfl ((s + i : Nat) : Int) (ai_add (a := s) (b := i) rfl rfl (by omega)) (by decide) ?_
      refine wl_move rfl rfl (by decide) ?_
      refine wl_pure rfl rfl (v := .int .i64 ((N : Nat) : Int)) (by decide) (by kernel_rfl) ?_
      refine wl_cmp rfl rfl rfl true (cb_lt_t (a := s + i) (b := N) rfl rfl (by omega)) (by decide) ?_
      refine wl_move rfl rfl (by decide) ?_
      refine wl_move rfl rfl (by decide) ?_
      refine wl_move rfl rfl (by decide) ?_
      refine wl_pure rfl rfl (v := .int .i64 ((m : Nat) : Int)) (by decide) (by kernel_rfl) ?_
      refine wl_cmp rfl rfl rfl true (cb_lt_t (a := i) (b := m) rfl rfl (by omega)) (by decide) ?_
      refine wl_move rfl rfl (by decide) ?_
      refine wl_off rfl (by decide) ?_
      refine wl_off rfl (by decide) ?_
      refine wl_pure rfl rfl (v := .bool true) (by decide) (by kernel_rfl) ?_
      refine wl_pure rfl rfl (v := .bool true) (by decide) (by kernel_rfl) ?_
      refine wl_nil ?_
      refine eo_then ?_
      refine cw_true rfl ?_
      refine cw_skip ?_
      refine eo_then ?_
      refine cw_seq ?_
      refine cw_block ?_
      refine cw_seq ?_
      -- region 4
      refine cw_region ?_
      refine wl_move rfl rfl (by decide) ?_
      refine wl_assign rfl rfl (by decide) ?_
      refine wl_nil ?_
      refine eo_then ?_
      refine cw_seq ?_
      refine cw_seq ?_
      -- region 5
      refine cw_region ?_
      refine wl_move rfl rfl (by decide) ?_
      refine wl_move rfl rfl (by decide) ?_
      refine wl_pure rfl rfl (v := .int .i64 ((m : Nat) : Int)) (by decide) (by kernel_rfl) ?_
      refine wl_cmp rfl rfl rfl true (cb_lt_t (a := i) (b := m) rfl rfl (by omega)) (by decide) ?_
      refine wl_nil ?_
      refine eo_then ?_
      refine cw_true rfl ?_
      have hey := Wfb_getD (b := 4294967296) (by decide) hwe i
      have hm : q * (es.getD i 0) ≤ 4294967295 * 4294967295 := Nat.mul_le_mul (by omega) (by omega)
      -- region 6
      refine cw_region ?_
      refine wl_move rfl rfl (by decide) ?_
      refine wl_move rfl rfl (by decide) ?_
      refine wl_move rfl rfl (by decide) ?_
      refine wl_move rfl rfl (by decide) ?_
      obtain ⟨p1, hp1, hc1, hv1⟩ := (rl1).at (i := i) (by omega)
      refine wl_idx rfl rfl rfl un_u64 sz_u64 i rfl (by omega) p1 hp1 (by decide) ?_
      refine wl_load rfl rfl (load_cell1 ag_u64 hc1) (by decide) ?_
      refine wl_ar rfl rfl rfl ((q * (es.getD i 0) : Nat) : Int) (au_mul (a := q) (b := es.getD i 0) rfl rfl (by omega)) (by decide) ?_
      refine wl_ar rfl rfl rfl ((c + (q * (es.getD i 0)) : Nat) : Int) (au_add (a := c) (b := q * (es.getD i 0)) rfl rfl (by omega)) (by decide) ?_
      refine wl_assign rfl rfl (by decide) ?_
      refine wl_nil ?_
      refine eo_then ?_
      refine cw_seq ?_
      -- region 7
      refine cw_region ?_
      refine wl_move rfl rfl (by decide) ?_
      refine wl_ar rfl rfl rfl (((c + (q * (es.getD i 0))) % 4294967296 : Nat) : Int) (au_rem (a := c + (q * (es.getD i 0))) (b := 4294967296) rfl rfl (by omega)) (by decide) ?_
      refine wl_assign rfl rfl (by decide) ?_
      refine wl_nil ?_
      refine eo_then ?_
      refine cw_seq ?_
      -- region 8
      refine cw_region ?_
      refine wl_move rfl rfl (by decide) ?_
      refine wl_ar rfl rfl rfl (((c + (q * (es.getD i 0))) / 4294967296 : Nat) : Int) (au_quo (a := c + (q * (es.getD i 0))) (b := 4294967296) rfl rfl (by omega) (by omega)) (by decide) ?_
      refine wl_assign rfl rfl (by decide) ?_
      refine wl_nil ?_
      refine eo_then ?_
      refine cw_seq ?_
      have hd := Wfb_getD (b := 4294967296) (by decide) hwf (s + i)
      by_cases hlow : l'.getD (s + i) 0 < (c + (q * (es.getD i 0))) % 4294967296
      ·
        -- region 9
        refine cw_region ?_
        refine wl_move rfl rfl (by decide) ?_
        refine wl_move rfl rfl (by decide) ?_
        refine wl_move rfl rfl (by decide) ?_
        refine wl_ar rfl rfl rfl ((s + i : Nat) : Int) (ai_add (a := s) (b := i) rfl rfl (by omega)) (by decide) ?_
        refine wl_idx rfl rfl rfl un_u64 sz_u64 (s + i) rfl (by omega) ⟨g, s + i, none⟩ (arr_at _ _) (by decide) ?_
        refine wl_load rfl rfl (load_word ag_u64 hb (by rw [hl]; omega)) (by decide) ?_
        refine wl_move rfl rfl (by decide) ?_
        refine wl_cmp rfl rfl rfl true (cb_lt_t (a := l'.getD (s + i) 0) (b := (c + (q * (es.getD i 0))) % 4294967296) rfl rfl (by omega)) (by decide) ?_
        refine wl_nil ?_
        refine eo_then ?_
        refine cw_true rfl ?_
        refine cw_seq ?_
        -- region 10
        refine cw_region ?_
        refine wl_move rfl rfl (by decide) ?_
        refine wl_move rfl rfl (by decide) ?_
        refine wl_move rfl rfl (by decide) ?_
        refine wl_ar rfl rfl rfl ((s + i : Nat) : Int) (ai_add (a := s) (b := i) rfl rfl (by omega)) (by decide) ?_
        refine wl_move rfl rfl (by decide) ?_
        refine wl_move rfl rfl (by decide) ?_
        refine wl_move rfl rfl (by decide) ?_
        refine wl_ar rfl rfl rfl ((s + i : Nat) : Int) (ai_add (a := s) (b := i) rfl rfl (by omega)) (by decide) ?_
        refine wl_idx rfl rfl rfl un_u64 sz_u64 (s + i) rfl (by omega) ⟨g, s + i, none⟩ (arr_at _ _) (by decide) ?_
        refine wl_load rfl rfl (load_word ag_u64 hb (by rw [hl]; omega)) (by decide) ?_
        refine wl_ar rfl rfl rfl (((l'.getD (s + i) 0) + 4294967296 : Nat) : Int) (au_add (a := l'.getD (s + i) 0) (b := 4294967296) rfl rfl (by omega)) (by decide) ?_
        refine wl_move rfl rfl (by decide) ?_
        refine wl_ar rfl rfl rfl ((((l'.getD (s + i) 0) + 4294967296) - ((c + (q * (es.getD i 0))) % 4294967296) : Nat) : Int) (au_sub (a := (l'.getD (s + i) 0) + 4294967296) (b := (c + (q * (es.getD i 0))) % 4294967296) rfl rfl (by omega) (by omega)) (by decide) ?_
        refine wl_idx rfl rfl rfl un_u64 sz_u64 (s + i) rfl (by omega) ⟨g, s + i, none⟩ (arr_at _ _) (by decide) ?_
        have hb3 := hb
        refine wl_stored1 rfl rfl rfl sz_u64 rfl hb3 (len_map (by rw [hl]; omega)) rfl ((l'.set (s + i) (((l'.getD (s + i) 0) + 4294967296) - ((c + (q * (es.getD i 0))) % 4294967296))).map W64) (map_W64_set _ _ _) fun v2 hb4 u5 hs6 => ?_
        refine wl_nil ?_
        refine eo_then ?_
        -- region 11
        refine cw_region ?_
        refine wl_move rfl rfl (by decide) ?_
        refine wl_ar rfl rfl rfl ((((c + (q * (es.getD i 0))) / 4294967296) + 1 : Nat) : Int) (au_add (a := (c + (q * (es.getD i 0))) / 4294967296) (b := 1) rfl rfl (by omega)) (by decide) ?_
        refine wl_assign rfl rfl (by decide) ?_
        refine wl_nil ?_
        refine eo_block_normal ?_
        refine eo_then ?_
        -- region 3
        refine cw_region ?_
        refine wl_move rfl rfl (by decide) ?_
        refine wl_ar rfl rfl rfl ((i + 1 : Nat) : Int) (ai_add (a := i) (b := 1) rfl rfl (by omega)) (by decide) ?_
        refine wl_assign rfl rfl (by decide) ?_
        refine wl_nil ?_
        refine eo_round (⟨v2, i + 1, _, _⟩ : World × Nat × Nat × List Nat) ⟨hu.trans u5, (by omega), (by omega), hb4, (len_set (l := l') (hl)), Wfb_set hwf _ (by omega), takeOff_step hv (by omega) rfl rfl (nb_take_snoc _ _ _ (by omega)) (by omega), (Rd.updL rl1 u5 hne)⟩ (show N - (s + (i + 1)) < N - (s + i) by omega) rfl ⟨rfl, rfl, rfl, rfl, rfl, rfl, trivial⟩
      ·
        -- region 9
        refine cw_region ?_
        refine wl_move rfl rfl (by decide) ?_
        refine wl_move rfl rfl (by decide) ?_
        refine wl_move rfl rfl (by decide) ?_
        refine wl_ar rfl rfl rfl ((s + i : Nat) : Int) (ai_add (a := s) (b := i) rfl rfl (by omega)) (by decide) ?_
        refine wl_idx rfl rfl rfl un_u64 sz_u64 (s + i) rfl (by omega) ⟨g, s + i, none⟩ (arr_at _ _) (by decide) ?_
        refine wl_load rfl rfl (load_word ag_u64 hb (by rw [hl]; omega)) (by decide) ?_
        refine wl_move rfl rfl (by decide) ?_
        refine wl_cmp rfl rfl rfl false (cb_lt_f (a := l'.getD (s + i) 0) (b := (c + (q * (es.getD i 0))) % 4294967296) rfl rfl (by omega)) (by decide) ?_
        refine wl_nil ?_
        refine eo_then ?_
        refine cw_false rfl ?_
        -- region 12
        refine cw_region ?_
        refine wl_move rfl rfl (by decide) ?_
        refine wl_move rfl rfl (by decide) ?_
        refine wl_move rfl rfl (by decide) ?_
        refine wl_ar rfl rfl rfl ((s + i : Nat) : Int) (ai_add (a := s) (b := i) rfl rfl (by omega)) (by decide) ?_
        refine wl_move rfl rfl (by decide) ?_
        refine wl_move rfl rfl (by decide) ?_
        refine wl_move rfl rfl (by decide) ?_
        refine wl_ar rfl rfl rfl ((s + i : Nat) : Int) (ai_add (a := s) (b := i) rfl rfl (by omega)) (by decide) ?_
        refine wl_idx rfl rfl rfl un_u64 sz_u64 (s + i) rfl (by omega) ⟨g, s + i, none⟩ (arr_at _ _) (by decide) ?_
        refine wl_load rfl rfl (load_word ag_u64 hb (by rw [hl]; omega)) (by decide) ?_
        refine wl_move rfl rfl (by decide) ?_
        refine wl_ar rfl rfl rfl (((l'.getD (s + i) 0) - ((c + (q * (es.getD i 0))) % 4294967296) : Nat) : Int) (au_sub (a := l'.getD (s + i) 0) (b := (c + (q * (es.getD i 0))) % 4294967296) rfl rfl (by omega) (by omega)) (by decide) ?_
        refine wl_idx rfl rfl rfl un_u64 sz_u64 (s + i) rfl (by omega) ⟨g, s + i, none⟩ (arr_at _ _) (by decide) ?_
        have hb8 := hb
        refine wl_stored1 rfl rfl rfl sz_u64 rfl hb8 (len_map (by rw [hl]; omega)) rfl ((l'.set (s + i) ((l'.getD (s + i) 0) - ((c + (q * (es.getD i 0))) % 4294967296))).map W64) (map_W64_set _ _ _) fun v7 hb9 u10 hs11 => ?_
        refine wl_nil ?_
        refine eo_block_normal ?_
        refine eo_then ?_
        -- region 3
        refine cw_region ?_
        refine wl_move rfl rfl (by decide) ?_
        refine wl_ar rfl rfl rfl ((i + 1 : Nat) : Int) (ai_add (a := i) (b := 1) rfl rfl (by omega)) (by decide) ?_
        refine wl_assign rfl rfl (by decide) ?_
        refine wl_nil ?_
        refine eo_round (⟨v7, i + 1, _, _⟩ : World × Nat × Nat × List Nat) ⟨hu.trans u10, (by omega), (by omega), hb9, (len_set (l := l') (hl)), Wfb_set hwf _ (by omega), takeOff_step hv (by omega) rfl rfl (nb_take_snoc _ _ _ (by omega)) (by omega), (Rd.updL rl1 u10 hne)⟩ (show N - (s + (i + 1)) < N - (s + i) by omega) rfl ⟨rfl, rfl, rfl, rfl, rfl, rfl, trivial⟩
    ·
      by_cases hcp : c > 0
      ·
        -- region 2
        refine cw_region ?_
        refine wl_move rfl rfl (by decide) ?_
        refine wl_move rfl rfl (by decide) ?_
        refine wl_ar rfl rfl rfl ((s + i : Nat) : Int) (ai_add (a := s) (b := i) rfl rfl (by omega)) (by decide) ?_
        refine wl_move rfl rfl (by decide) ?_
        refine wl_pure rfl rfl (v := .int .i64 ((N : Nat) : Int)) (by decide) (by kernel_rfl) ?_
        refine wl_cmp rfl rfl rfl true (cb_lt_t (a := s + i) (b := N) rfl rfl (by omega)) (by decide) ?_
        refine wl_move rfl rfl (by decide) ?_
        refine wl_move rfl rfl (by decide) ?_
        refine wl_move rfl rfl (by decide) ?_
        refine wl_pure rfl rfl (v := .int .i64 ((m : Nat) : Int)) (by decide) (by kernel_rfl) ?_
        refine wl_cmp rfl rfl rfl false (cb_lt_f (a := i) (b := m) rfl rfl (by omega)) (by decide) ?_
        refine wl_move rfl rfl (by decide) ?_
        refine wl_move rfl rfl (by decide) ?_
        refine wl_cmp rfl rfl rfl true (cb_gt_t (a := c) (b := 0) rfl rfl (by omega)) (by decide) ?_
        refine wl_pure rfl rfl (v := .bool true) (by decide) (by kernel_rfl) ?_
        refine wl_pure rfl rfl (v := .bool true) (by decide) (by kernel_rfl) ?_
        refine wl_nil ?_
        refine eo_then ?_
        refine cw_true rfl ?_
        refine cw_skip ?_
        refine eo_then ?_
        refine cw_seq ?_
        refine cw_block ?_
        refine cw_seq ?_
        -- region 4
        refine cw_region ?_
        refine wl_move rfl rfl (by decide) ?_
        refine wl_assign rfl rfl (by decide) ?_
        refine wl_nil ?_
        refine eo_then ?_
        refine cw_seq ?_
        refine cw_seq ?_
        -- region 5
        refine cw_region ?_
        refine wl_move rfl rfl (by decide) ?_
        refine wl_move rfl rfl (by decide) ?_
        refine wl_pure rfl rfl (v := .int .i64 ((m : Nat) : Int)) (by decide) (by kernel_rfl) ?_
        refine wl_cmp rfl rfl rfl false (cb_lt_f (a := i) (b := m) rfl rfl (by omega)) (by decide) ?_
        refine wl_nil ?_
        refine eo_then ?_
        refine cw_false rfl ?_
        refine cw_skip ?_
        refine eo_then ?_
        refine cw_seq ?_
        -- region 7
        refine cw_region ?_
        refine wl_move rfl rfl (by decide) ?_
        refine wl_ar rfl rfl rfl ((c % 4294967296 : Nat) : Int) (au_rem (a := c) (b := 4294967296) rfl rfl (by omega)) (by decide) ?_
        refine wl_assign rfl rfl (by decide) ?_
        refine wl_nil ?_
        refine eo_then ?_
        refine cw_seq ?_
        -- region 8
        refine cw_region ?_
        refine wl_move rfl rfl (by decide) ?_
        refine wl_ar rfl rfl rfl ((c / 4294967296 : Nat) : Int) (au_quo (a := c) (b := 4294967296) rfl rfl (by omega) (by omega)) (by decide) ?_
        refine wl_assign rfl rfl (by decide) ?_
        refine wl_nil ?_
        refine eo_then ?_
        refine cw_seq ?_
        have hd := Wfb_getD (b := 4294967296) (by decide) hwf (s + i)
        by_cases hlow : l'.getD (s + i) 0 < c % 4294967296
        ·
          -- region 9
          refine cw_region ?_
          refine wl_move rfl rfl (by decide) ?_
          refine wl_move rfl rfl (by decide) ?_
          refine wl_move rfl rfl (by decide) ?_
          refine wl_ar rfl rfl rfl ((s + i : Nat) : Int) (ai_add (a := s) (b := i) rfl rfl (by omega)) (by decide) ?_
          refine wl_idx rfl rfl rfl un_u64 sz_u64 (s + i) rfl (by omega) ⟨g, s + i, none⟩ (arr_at _ _) (by decide) ?_
          refine wl_load rfl rfl (load_word ag_u64 hb (by rw [hl]; omega)) (by decide) ?_
          refine wl_move rfl rfl (by decide) ?_
          refine wl_cmp rfl rfl rfl true (cb_lt_t (a := l'.getD (s + i) 0) (b := c % 4294967296) rfl rfl (by omega)) (by decide) ?_
          refine wl_nil ?_
          refine eo_then ?_
          refine cw_true rfl ?_
          refine cw_seq ?_
          -- region 10
          refine cw_region ?_
          refine wl_move rfl rfl (by decide) ?_
          refine wl_move rfl rfl (by decide) ?_
          refine wl_move rfl rfl (by decide) ?_
          refine wl_ar rfl rfl rfl ((s + i : Nat) : Int) (ai_add (a := s) (b := i) rfl rfl (by omega)) (by decide) ?_
          refine wl_move rfl rfl (by decide) ?_
          refine wl_move rfl rfl (by decide) ?_
          refine wl_move rfl rfl (by decide) ?_
          refine wl_ar rfl rfl rfl ((s + i : Nat) : Int) (ai_add (a := s) (b := i) rfl rfl (by omega)) (by decide) ?_
          refine wl_idx rfl rfl rfl un_u64 sz_u64 (s + i) rfl (by omega) ⟨g, s + i, none⟩ (arr_at _ _) (by decide) ?_
          refine wl_load rfl rfl (load_word ag_u64 hb (by rw [hl]; omega)) (by decide) ?_
          refine wl_ar rfl rfl rfl (((l'.getD (s + i) 0) + 4294967296 : Nat) : Int) (au_add (a := l'.getD (s + i) 0) (b := 4294967296) rfl rfl (by omega)) (by decide) ?_
          refine wl_move rfl rfl (by decide) ?_
          refine wl_ar rfl rfl rfl ((((l'.getD (s + i) 0) + 4294967296) - (c % 4294967296) : Nat) : Int) (au_sub (a := (l'.getD (s + i) 0) + 4294967296) (b := c % 4294967296) rfl rfl (by omega) (by omega)) (by decide) ?_
          refine wl_idx rfl rfl rfl un_u64 sz_u64 (s + i) rfl (by omega) ⟨g, s + i, none⟩ (arr_at _ _) (by decide) ?_
          have hb13 := hb
          refine wl_stored1 rfl rfl rfl sz_u64 rfl hb13 (len_map (by rw [hl]; omega)) rfl ((l'.set (s + i) (((l'.getD (s + i) 0) + 4294967296) - (c % 4294967296))).map W64) (map_W64_set _ _ _) fun v12 hb14 u15 hs16 => ?_
          refine wl_nil ?_
          refine eo_then ?_
          -- region 11
          refine cw_region ?_
          refine wl_move rfl rfl (by decide) ?_
          refine wl_ar rfl rfl rfl (((c / 4294967296) + 1 : Nat) : Int) (au_add (a := c / 4294967296) (b := 1) rfl rfl (by omega)) (by decide) ?_
          refine wl_assign rfl rfl (by decide) ?_
          refine wl_nil ?_
          refine eo_block_normal ?_
          refine eo_then ?_
          -- region 3
          refine cw_region ?_
          refine wl_move rfl rfl (by decide) ?_
          refine wl_ar rfl rfl rfl ((i + 1 : Nat) : Int) (ai_add (a := i) (b := 1) rfl rfl (by omega)) (by decide) ?_
          refine wl_assign rfl rfl (by decide) ?_
          refine wl_nil ?_
          refine eo_round (⟨v12, i + 1, _, _⟩ : World × Nat × Nat × List Nat) ⟨hu.trans u15, (by omega), (by omega), hb14, (len_set (l := l') (hl)), Wfb_set hwf _ (by omega), takeOff_step hv (by omega) rfl (T := c) (e := 0) (by simp) (takeOff_more (by omega)) (by omega), (Rd.updL rl1 u15 hne)⟩ (show N - (s + (i + 1)) < N - (s + i) by omega) rfl ⟨rfl, rfl, rfl, rfl, rfl, rfl, trivial⟩
        ·
          -- region 9
          refine cw_region ?_
          refine wl_move rfl rfl (by decide) ?_
          refine wl_move rfl rfl (by decide) ?_
          refine wl_move rfl rfl (by decide) ?_
          refine wl_ar rfl rfl rfl ((s + i : Nat) : Int) (ai_add (a := s) (b := i) rfl rfl (by omega)) (by decide) ?_
          refine wl_idx rfl rfl rfl un_u64 sz_u64 (s + i) rfl (by omega) ⟨g, s + i, none⟩ (arr_at _ _) (by decide) ?_
          refine wl_load rfl rfl (load_word ag_u64 hb (by rw [hl]; omega)) (by decide) ?_
          refine wl_move rfl rfl (by decide) ?_
          refine wl_cmp rfl rfl rfl false (cb_lt_f (a := l'.getD (s + i) 0) (b := c % 4294967296) rfl rfl (by omega)) (by decide) ?_
          refine wl_nil ?_
          refine eo_then ?_
          refine cw_false rfl ?_
          -- region 12
          refine cw_region ?_
          refine wl_move rfl rfl (by decide) ?_
          refine wl_move rfl rfl (by decide) ?_
          refine wl_move rfl rfl (by decide) ?_
          refine wl_ar rfl rfl rfl ((s + i : Nat) : Int) (ai_add (a := s) (b := i) rfl rfl (by omega)) (by decide) ?_
          refine wl_move rfl rfl (by decide) ?_
          refine wl_move rfl rfl (by decide) ?_
          refine wl_move rfl rfl (by decide) ?_
          refine wl_ar rfl rfl rfl ((s + i : Nat) : Int) (ai_add (a := s) (b := i) rfl rfl (by omega)) (by decide) ?_
          refine wl_idx rfl rfl rfl un_u64 sz_u64 (s + i) rfl (by omega) ⟨g, s + i, none⟩ (arr_at _ _) (by decide) ?_
          refine wl_load rfl rfl (load_word ag_u64 hb (by rw [hl]; omega)) (by decide) ?_
          refine wl_move rfl rfl (by decide) ?_
          refine wl_ar rfl rfl rfl (((l'.getD (s + i) 0) - (c % 4294967296) : Nat) : Int) (au_sub (a := l'.getD (s + i) 0) (b := c % 4294967296) rfl rfl (by omega) (by omega)) (by decide) ?_
          refine wl_idx rfl rfl rfl un_u64 sz_u64 (s + i) rfl (by omega) ⟨g, s + i, none⟩ (arr_at _ _) (by decide) ?_
          have hb18 := hb
          refine wl_stored1 rfl rfl rfl sz_u64 rfl hb18 (len_map (by rw [hl]; omega)) rfl ((l'.set (s + i) ((l'.getD (s + i) 0) - (c % 4294967296))).map W64) (map_W64_set _ _ _) fun v17 hb19 u20 hs21 => ?_
          refine wl_nil ?_
          refine eo_block_normal ?_
          refine eo_then ?_
          -- region 3
          refine cw_region ?_
          refine wl_move rfl rfl (by decide) ?_
          refine wl_ar rfl rfl rfl ((i + 1 : Nat) : Int) (ai_add (a := i) (b := 1) rfl rfl (by omega)) (by decide) ?_
          refine wl_assign rfl rfl (by decide) ?_
          refine wl_nil ?_
          refine eo_round (⟨v17, i + 1, _, _⟩ : World × Nat × Nat × List Nat) ⟨hu.trans u20, (by omega), (by omega), hb19, (len_set (l := l') (hl)), Wfb_set hwf _ (by omega), takeOff_step hv (by omega) rfl (T := c) (e := 0) (by simp) (takeOff_more (by omega)) (by omega), (Rd.updL rl1 u20 hne)⟩ (show N - (s + (i + 1)) < N - (s + i) by omega) rfl ⟨rfl, rfl, rfl, rfl, rfl, rfl, trivial⟩
      ·
        -- region 2
        refine cw_region ?_
        refine wl_move rfl rfl (by decide) ?_
        refine wl_move rfl rfl (by decide) ?_
        refine wl_ar rfl rfl rfl ((s + i : Nat) : Int) (ai_add (a := s) (b := i) rfl rfl (by omega)) (by decide) ?_
        refine wl_move rfl rfl (by decide) ?_
        refine wl_pure rfl rfl (v := .int .i64 ((N : Nat) : Int)) (by decide) (by kernel_rfl) ?_
        refine wl_cmp rfl rfl rfl true (cb_lt_t (a := s + i) (b := N) rfl rfl (by omega)) (by decide) ?_
        refine wl_move rfl rfl (by decide) ?_
        refine wl_move rfl rfl (by decide) ?_
        refine wl_move rfl rfl (by decide) ?_
        refine wl_pure rfl rfl (v := .int .i64 ((m : Nat) : Int)) (by decide) (by kernel_rfl) ?_
        refine wl_cmp rfl rfl rfl false (cb_lt_f (a := i) (b := m) rfl rfl (by omega)) (by decide) ?_
        refine wl_move rfl rfl (by decide) ?_
        refine wl_move rfl rfl (by decide) ?_
        refine wl_cmp rfl rfl rfl false (cb_gt_f (a := c) (b := 0) rfl rfl (by omega)) (by decide) ?_
        refine wl_pure rfl rfl (v := .bool false) (by decide) (by kernel_rfl) ?_
        refine wl_pure rfl rfl (v := .bool false) (by decide) (by kernel_rfl) ?_
        refine wl_nil ?_
        refine eo_then ?_
        refine cw_false rfl ?_
        refine cw_exit ?_
        refine eo_thenX ?_
        refine eo_loopX ?_
        refine eo_block_here ?_
        refine eo_end [] rfl trivial ?_
        exact ⟨rfl, hu, l', hb, hl, hwf, takeOff_done hwf hl hle hs hi hq hv (Or.inr ⟨by omega, by omega⟩)⟩
  ·
    -- region 2
    refine cw_region ?_
    refine wl_move rfl rfl (by decide) ?_
    refine wl_move rfl rfl (by decide) ?_
    refine wl_ar rfl rfl rfl ((s + i : Nat) : Int) (ai_add (a := s) (b := i) rfl rfl (by omega)) (by decide) ?_
    refine wl_move rfl rfl (by decide) ?_
    refine wl_pure rfl rfl (v := .int .i64 ((N : Nat) : Int)) (by decide) (by kernel_rfl) ?_
    refine wl_cmp rfl rfl rfl false (cb_lt_f (a := s + i) (b := N) rfl rfl (by omega)) (by decide) ?_
    refine wl_move rfl rfl (by decide) ?_
    refine wl_off rfl (by decide) ?_
    refine wl_off rfl (by decide) ?_
    refine wl_off rfl (by decide) ?_
    refine wl_off rfl (by decide) ?_
    refine wl_off rfl (by decide) ?_
    refine wl_off rfl (by decide) ?_
    refine wl_off rfl (by decide) ?_
    refine wl_off rfl (by decide) ?_
    refine wl_pure rfl rfl (v := .bool false) (by decide) (by kernel_rfl) ?_
    refine wl_nil ?_
    refine eo_then ?_
    refine cw_false rfl ?_
    refine cw_exit ?_
    refine eo_thenX ?_
    refine eo_loopX ?_
    refine eo_block_here ?_
    refine eo_end [] rfl trivial ?_
    exact ⟨rfl, hu, l', hb, hl, hwf, takeOff_done hwf hl hle hs hi hq hv (Or.inl (by omega))⟩

theorem drop_getD {xs : List Nat} {k : Nat} (h : k < xs.length) (b : Nat) : nb b (xs.drop k) = xs.getD k 0 + b * nb b (xs.drop (k + 1)) := by
  rw [List.drop_eq_getElem_cons h, nb_cons, List.getD_eq_getElem?_getD, List.getElem?_eq_getElem h]; rfl
section
set_option linter.unusedSectionVars false
variable {xs es : List Nat} {n m s : Nat} (hx : xs.length = n) (he : es.length = m) (hs : s + m ≤ n) (hwx : Wfb 4294967296 xs) (hwe : Wfb 4294967296 es)
include hx he hs hwx hwe
theorem goes_start (hbig : nb 4294967296 xs < 4294967296 ^ (s + m + 1)) (h0 : s + m < n → xs.getD (s + m) 0 = 0) : nb 4294967296 (xs.drop (s + m)) = nb 4294967296 (es.drop m) := by
  rw [List.drop_of_length_le (l := es) (by omega), nb_nil]
  by_cases hlt : s + m < n
  · have h1 := nb_split 4294967296 xs (s + m) (by omega)
    have h2 := drop_getD (xs := xs) (k := s + m) (by omega) 4294967296
    rw [h0 hlt, Nat.zero_add] at h2
    rw [h2] at h1 ⊢
    refine Nat.mul_eq_zero.2 (Or.inr (Nat.eq_zero_of_not_pos fun hp => ?_))
    rw [Nat.pow_succ, ← Nat.mul_assoc] at *
    have h3 : 4294967296 ^ (s + m) * 4294967296 * 1 ≤ 4294967296 ^ (s + m) * 4294967296 * nb 4294967296 (xs.drop (s + m + 1)) := Nat.mul_le_mul_left _ hp
    omega
  · rw [List.drop_of_length_le (by omega), nb_nil]
theorem goes_top (h0 : s + m < n) (hp : 0 < xs.getD (s + m) 0) : nb 4294967296 es * 4294967296 ^ s ≤ nb 4294967296 xs := by
  have h1 := nb_split 4294967296 xs (s + m) (by omega)
  have h2 := drop_getD (xs := xs) (k := s + m) (by omega) 4294967296
  have h3 := nb_lt hwe
  rw [he] at h3
  have h4 : nb 4294967296 es * 4294967296 ^ s ≤ 4294967296 ^ m * 4294967296 ^ s := Nat.mul_le_mul_right _ (Nat.le_of_lt h3)
  rw [← Nat.pow_add, Nat.add_comm m s] at h4
  have h5 : 4294967296 ^ (s + m) * 1 ≤ 4294967296 ^ (s + m) * nb 4294967296 (xs.drop (s + m)) := Nat.mul_le_mul_left _ (by omega)
  omega
theorem goes_lt {j : Nat} (hj : j < m) (h : nb 4294967296 (xs.drop (s + (j + 1))) = nb 4294967296 (es.drop (j + 1))) (hd : xs.getD (s + j) 0 < es.getD j 0) : ¬ nb 4294967296 es * 4294967296 ^ s ≤ nb 4294967296 xs := by
  have h2 := drop_getD (xs := xs) (k := s + j) (by omega) 4294967296
  have h3 := drop_getD (xs := es) (k := j) (by omega) 4294967296
  rw [Nat.add_assoc, h] at h2
  have h4 := nb_split 4294967296 xs (s + j) (by omega)
  have h5 := nb_split 4294967296 es j (by omega)
  have h6 := nb_take_lt (by decide) hwx (s + j)
  have h7 : 4294967296 ^ (s + j) * (nb 4294967296 (xs.drop (s + j)) + 1) ≤ 4294967296 ^ (s + j) * nb 4294967296 (es.drop j) := Nat.mul_le_mul_left _ (by omega)
  have h8 : 4294967296 ^ (s + j) * nb 4294967296 (es.drop j) ≤ nb 4294967296 es * 4294967296 ^ s := by
    rw [h5, Nat.add_mul, Nat.pow_add, Nat.mul_assoc, Nat.mul_comm (4294967296 ^ s)]
    exact Nat.le_add_left _ _
  rw [Nat.mul_add] at h7
  omega
theorem goes_gt {j : Nat} (hj : j < m) (h : nb 4294967296 (xs.drop (s + (j + 1))) = nb 4294967296 (es.drop (j + 1))) (hd : xs.getD (s + j) 0 > es.getD j 0) : nb 4294967296 es * 4294967296 ^ s ≤ nb 4294967296 xs := by
  have h2 := drop_getD (xs := xs) (k := s + j) (by omega) 4294967296
  have h3 := drop_getD (xs := es) (k := j) (by omega) 4294967296
  rw [Nat.add_assoc, h] at h2
  have h4 := nb_split 4294967296 xs (s + j) (by omega)
  have h5 := nb_split 4294967296 es j (by omega)
  have h6 := nb_take_lt (by decide) hwe j
  have h7 : 4294967296 ^ j * (nb 4294967296 (es.drop j) + 1) ≤ 4294967296 ^ j * nb 4294967296 (xs.drop (s + j)) := Nat.mul_le_mul_left _ (by omega)
  rw [Nat.mul_add] at h7
  have h8 : nb 4294967296 es ≤ 4294967296 ^ j * nb 4294967296 (xs.drop (s + j)) := by omega
  have h9 : nb 4294967296 es * 4294967296 ^ s ≤ 4294967296 ^ j * nb 4294967296 (xs.drop (s + j)) * 4294967296 ^ s := Nat.mul_le_mul_right _ h8
  have e : 4294967296 ^ j * nb 4294967296 (xs.drop (s + j)) * 4294967296 ^ s = 4294967296 ^ (s + j) * nb 4294967296 (xs.drop (s + j)) := by
    rw [Nat.pow_add, Nat.mul_right_comm, Nat.mul_comm (4294967296 ^ j)]
  omega
theorem goes_eq (h : nb 4294967296 (xs.drop (s + 0)) = nb 4294967296 (es.drop 0)) : nb 4294967296 es * 4294967296 ^ s ≤ nb 4294967296 xs := by
  have h4 := nb_split 4294967296 xs s (by omega)
  rw [Nat.add_zero, List.drop_zero] at h
  rw [h4, h, Nat.mul_comm]
  exact Nat.le_add_left _ _
theorem goes_step {j : Nat} (hj : j < m) (h : nb 4294967296 (xs.drop (s + (j + 1))) = nb 4294967296 (es.drop (j + 1))) (hd : xs.getD (s + j) 0 = es.getD j 0) : nb 4294967296 (xs.drop (s + j)) = nb 4294967296 (es.drop j) := by
  rw [drop_getD (xs := xs) (k := s + j) (by omega), drop_getD (xs := es) (k := j) (by omega), Nat.add_assoc, h, hd]
end

set_option maxHeartbeats 4000000 in
theorem ref3_goes {w : World} {A D : Option Addr} {n cap m cd s : Nat} {xs es : List Nat} (hx : Rd w A n cap xs) (hln : n ≤ 1099511627776) (hy : Rd w D m cd es) (hwx : Wfb 4294967296 xs) (hwe : Wfb 4294967296 es) (hs : s + m ≤ n) (hbig : nb 4294967296 xs < 4294967296 ^ (s + m + 1)) :
    Calls Try.prog 125 #[.slice A n cap, .slice D m cd, .int .i64 ((s : Nat) : Int)] w (Gv w (Is (.bool (decide (nb 4294967296 es * 4294967296 ^ s ≤ nb 4294967296 xs))))) := by
  have hlen := hx.len
  have hle := hx.rv.le
  have hle2 := hy.len
  refine sx_enter Try.func125 rfl (n := 53) rfl (Nat.le_of_ble_eq_true rfl) (args := [.slice A n cap, .slice D m cd, .int .i64 ((s : Nat) : Int)]) ?_
  refine cw_keep [(0, .slice A n cap), (1, .slice D m cd), (2, .int .i64 ((s : Nat) : Int))] ⟨rfl, rfl, rfl, trivial⟩ ?_
  refine cw_seq ?_
  -- region 0
  refine cw_region ?_
  refine wl_assign rfl rfl (by decide) ?_
  refine wl_nil ?_
  refine eo_then ?_
  refine cw_seq ?_
  -- region 1
  refine cw_region ?_
  refine wl_move rfl rfl (by decide) ?_
  refine wl_move rfl rfl (by decide) ?_
  refine wl_pure rfl rfl (v := .int .i64 ((m : Nat) : Int)) (by decide) (by kernel_rfl) ?_
  refine wl_ar rfl rfl rfl ((s + m : Nat) : Int) (ai_add (a := s) (b := m) rfl rfl (by omega)) (by decide) ?_
  refine wl_assign rfl rfl (by decide) ?_
  refine wl_nil ?_
  refine eo_then ?_
  refine cw_seq ?_
  refine cw_seq ?_
  by_cases htop : s + m < n
  ·
    by_cases hpos : xs.getD (s + m) 0 > 0
    ·
      -- region 2
      refine cw_region ?_
      refine wl_move rfl rfl (by decide) ?_
      refine wl_move rfl rfl (by decide) ?_
      refine wl_pure rfl rfl (v := .int .i64 ((n : Nat) : Int)) (by decide) (by kernel_rfl) ?_
      refine wl_cmp rfl rfl rfl true (cb_lt_t (a := s + m) (b := n) rfl rfl (by omega)) (by decide) ?_
      refine wl_move rfl rfl (by decide) ?_
      refine wl_move rfl rfl (by decide) ?_
      refine wl_move rfl rfl (by decide) ?_
      obtain ⟨p1, hp1, hc1, hv1⟩ := (hx).at (i := s + m) (by omega)
      refine wl_idx rfl rfl rfl un_u64 sz_u64 (s + m) rfl (by omega) p1 hp1 (by decide) ?_
      refine wl_load rfl rfl (load_cell1 ag_u64 hc1) (by decide) ?_
      refine wl_cmp rfl rfl rfl true (cb_gt_t (a := xs.getD (s + m) 0) (b := 0) rfl rfl (by omega)) (by decide) ?_
      refine wl_pure rfl rfl (v := .bool true) (by decide) (by kernel_rfl) ?_
      refine wl_nil ?_
      refine eo_then ?_
      refine cw_true rfl ?_
      refine cw_seq ?_
      -- region 3
      refine cw_region ?_
      refine wl_assign rfl rfl (by decide) ?_
      refine wl_nil ?_
      refine eo_then ?_
      refine cw_ret ?_
      refine eo_thenR ?_
      refine eo_ret [.bool true] rfl ⟨rfl, trivial⟩ ?_
      exact ⟨_, rfl, (show Value.bool true = _ by rw [decide_eq_true (goes_top hlen hle2 hs hwx hwe htop hpos)]), (Ext.refl w)⟩
    ·
      have hst := goes_start hlen hle2 hs hwx hwe hbig (fun _ => by omega)
      -- region 2
      refine cw_region ?_
      refine wl_move rfl rfl (by decide) ?_
      refine wl_move rfl rfl (by decide) ?_
      refine wl_pure rfl rfl (v := .int .i64 ((n : Nat) : Int)) (by decide) (by kernel_rfl) ?_
      refine wl_cmp rfl rfl rfl true (cb_lt_t (a := s + m) (b := n) rfl rfl (by omega)) (by decide) ?_
      refine wl_move rfl rfl (by decide) ?_
      refine wl_move rfl rfl (by decide) ?_
      refine wl_move rfl rfl (by decide) ?_
      obtain ⟨p2, hp2, hc2, hv2⟩ := (hx).at (i := s + m) (by omega)
      refine wl_idx rfl rfl rfl un_u64 sz_u64 (s + m) rfl (by omega) p2 hp2 (by decide) ?_
      refine wl_load rfl rfl (load_cell1 ag_u64 hc2) (by decide) ?_
      refine wl_cmp rfl rfl rfl false (cb_gt_f (a := xs.getD (s + m) 0) (b := 0) rfl rfl (by omega)) (by decide) ?_
      refine wl_pure rfl rfl (v := .bool false) (by decide) (by kernel_rfl) ?_
      refine wl_nil ?_
      refine eo_then ?_
      refine cw_false rfl ?_
      refine cw_skip ?_
      refine eo_then ?_
      refine cw_seq ?_
      refine cw_seq ?_
      -- region 4
      refine cw_region ?_
      refine wl_move rfl rfl (by decide) ?_
      refine wl_pure rfl rfl (v := .int .i64 ((m : Nat) : Int)) (by decide) (by kernel_rfl) ?_
      refine wl_ar rfl rfl rfl (((m : Nat) : Int) - 1) (ar_i64s rfl (by omega) (by omega)) (by decide) ?_
      refine wl_assign rfl rfl (by decide) ?_
      refine wl_nil ?_
      refine eo_then ?_
      refine cw_block ?_
      refine cw_loop (T := World × Nat × Int)
        (fun ⟨wr, k, ii⟩ => [(0, .slice A n cap), (1, .slice D m cd), (2, .int .i64 ((s : Nat) : Int)), (8, .int .i64 ii)])
        (fun ⟨wr, k, ii⟩ => wr)
        (fun ⟨wr, k, ii⟩ => (Ext w wr) ∧ (k ≤ m) ∧ (ii = (k : Int) - 1) ∧ (nb 4294967296 (xs.drop (s + k)) = nb 4294967296 (es.drop k)) ∧ (Rd wr A n cap xs) ∧ (Rd wr D m cd es))
        (fun ⟨wr, k, ii⟩ => k)
        (⟨w, m, _⟩ : World × Nat × Int) ⟨(Ext.refl w), Nat.le_refl _, rfl, hst, hx, hy⟩ rfl ⟨rfl, rfl, rfl, rfl, trivial⟩ ?_
      rintro ⟨wr, k, ii⟩ ⟨hw1, hk, hii, hv, rl0, rl1⟩
      refine cw_re [(0, .slice A n cap), (1, .slice D m cd), (2, .int .i64 ((s : Nat) : Int)), (8, .int .i64 ii)] wr rfl ⟨rfl, rfl, rfl, rfl, trivial⟩ ?_
      refine cw_seq ?_
      refine cw_seq ?_
      by_cases hkp : 0 < k
      ·
        obtain ⟨j, rfl⟩ : ∃ j, k = j + 1 := ⟨k - 1, by omega⟩
        obtain rfl : ii = (j : Int) := by omega
        -- region 5
        refine cw_region ?_
        refine wl_move rfl rfl (by decide) ?_
        refine wl_cmp rfl rfl rfl true (cb_ge_t (a := j) (b := 0) rfl rfl (by omega)) (by decide) ?_
        refine wl_nil ?_
        refine eo_then ?_
        refine cw_true rfl ?_
        refine cw_skip ?_
        refine eo_then ?_
        refine cw_seq ?_
        refine cw_block ?_
        refine cw_seq ?_
        by_cases hne : xs.getD (s + j) 0 ≠ es.getD j 0
        ·
          -- region 7, certain
          refine cw_keep [(0, .slice A n cap), (1, .slice D m cd), (2, .int .i64 ((s : Nat) : Int)), (8, .int .i64 ((j : Nat) : Int)), (27, .int .i64 ((j : Nat) : Int)), (28, .bool true)] ⟨rfl, rfl, rfl, rfl, rfl, rfl, trivial⟩ ?_
          obtain ⟨v3, hv, e4⟩ : ∃ v, v = wr.drew ∧ Ext wr v := ⟨_, rfl, (Ext.refl _).drew⟩
          have hw2 : Ext w v3 := hw1.trans e4
          obtain ⟨p5, hp5, hc5, hv5⟩ := ((rl0.ext e4)).at (i := s + j) (by omega)
          obtain ⟨p6, hp6, hc6, hv6⟩ := ((rl1.ext e4)).at (i := j) (by omega)
          refine cw_det mix (w := v3) [.slice A n cap, .int .i64 ((s : Nat) : Int), .int .i64 ((j : Nat) : Int), .int .i64 ((s + j : Nat) : Int), .pointer (some p5), .int .u64 ((xs.getD (s + j) 0 : Nat) : Int), .slice D m cd, .int .i64 ((j : Nat) : Int), .pointer (some p6), .int .u64 ((es.getD j 0 : Nat) : Int), .bool true] [v3] [] [[], [], [], [1, 2], [0, 3], [4], [], [], [6, 7], [8], [5, 9]] [[], [], [], [1, 2], [0, 1, 2, 3], [0, 1, 2, 3, 4], [], [], [6, 7], [6, 7, 8], [0, 1, 2, 3, 4, 5, 6, 7, 8, 9]] [(0, 0), (1, 0), (2, 0), (3, 0), (4, 0), (5, 0), (6, 0), (7, 0), (8, 0), (9, 0), (10, 0)] rfl hv ?_ ?_
          ·
            refine dobs_val ([(0, .slice A n cap), (1, .slice D m cd), (2, .int .i64 ((s : Nat) : Int)), (8, .int .i64 ((j : Nat) : Int)), (27, .int .i64 ((j : Nat) : Int)), (28, .bool true)]) rfl rfl rfl rfl rfl (rd_move rfl) ?_
            refine dobs_val ([(0, .slice A n cap), (1, .slice D m cd), (2, .int .i64 ((s : Nat) : Int)), (8, .int .i64 ((j : Nat) : Int)), (27, .int .i64 ((j : Nat) : Int)), (28, .bool true)]) rfl rfl rfl rfl rfl (rd_move rfl) ?_
            refine dobs_val ([(0, .slice A n cap), (1, .slice D m cd), (2, .int .i64 ((s : Nat) : Int)), (8, .int .i64 ((j : Nat) : Int)), (27, .int .i64 ((j : Nat) : Int)), (28, .bool true)]) rfl rfl rfl rfl rfl (rd_move rfl) ?_
            refine dobs_val ((32, .int .i64 ((s : Nat) : Int)) :: (33, .int .i64 ((j : Nat) : Int)) :: [(0, .slice A n cap), (1, .slice D m cd), (2, .int .i64 ((s : Nat) : Int)), (8, .int .i64 ((j : Nat) : Int)), (27, .int .i64 ((j : Nat) : Int)), (28, .bool true)]) rfl rfl rfl rfl rfl (rd_ar rfl rfl ((s + j : Nat) : Int) (ai_add (a := s) (b := j) rfl rfl (by omega))) ?_
            refine dobs_val ((31, .slice A n cap) :: (34, .int .i64 ((s + j : Nat) : Int)) :: [(0, .slice A n cap), (1, .slice D m cd), (2, .int .i64 ((s : Nat) : Int)), (8, .int .i64 ((j : Nat) : Int)), (27, .int .i64 ((j : Nat) : Int)), (28, .bool true)]) rfl rfl rfl rfl rfl (rd_idx rfl rfl un_u64 sz_u64 (s + j) rfl (by omega) p5 hp5) ?_
            refine dobs_val ((35, .pointer (some p5)) :: [(0, .slice A n cap), (1, .slice D m cd), (2, .int .i64 ((s : Nat) : Int)), (8, .int .i64 ((j : Nat) : Int)), (27, .int .i64 ((j : Nat) : Int)), (28, .bool true)]) rfl rfl rfl rfl rfl (rd_load rfl (load_cell1 ag_u64 hc5)) ?_
            refine dobs_val ([(0, .slice A n cap), (1, .slice D m cd), (2, .int .i64 ((s : Nat) : Int)), (8, .int .i64 ((j : Nat) : Int)), (27, .int .i64 ((j : Nat) : Int)), (28, .bool true)]) rfl rfl rfl rfl rfl (rd_move rfl) ?_
            refine dobs_val ([(0, .slice A n cap), (1, .slice D m cd), (2, .int .i64 ((s : Nat) : Int)), (8, .int .i64 ((j : Nat) : Int)), (27, .int .i64 ((j : Nat) : Int)), (28, .bool true)]) rfl rfl rfl rfl rfl (rd_move rfl) ?_
            refine dobs_val ((37, .slice D m cd) :: (38, .int .i64 ((j : Nat) : Int)) :: [(0, .slice A n cap), (1, .slice D m cd), (2, .int .i64 ((s : Nat) : Int)), (8, .int .i64 ((j : Nat) : Int)), (27, .int .i64 ((j : Nat) : Int)), (28, .bool true)]) rfl rfl rfl rfl rfl (rd_idx rfl rfl un_u64 sz_u64 j rfl (by omega) p6 hp6) ?_
            refine dobs_val ((39, .pointer (some p6)) :: [(0, .slice A n cap), (1, .slice D m cd), (2, .int .i64 ((s : Nat) : Int)), (8, .int .i64 ((j : Nat) : Int)), (27, .int .i64 ((j : Nat) : Int)), (28, .bool true)]) rfl rfl rfl rfl rfl (rd_load rfl (load_cell1 ag_u64 hc6)) ?_
            refine dobs_val ((36, .int .u64 ((xs.getD (s + j) 0 : Nat) : Int)) :: (40, .int .u64 ((es.getD j 0 : Nat) : Int)) :: [(0, .slice A n cap), (1, .slice D m cd), (2, .int .i64 ((s : Nat) : Int)), (8, .int .i64 ((j : Nat) : Int)), (27, .int .i64 ((j : Nat) : Int)), (28, .bool true)]) rfl rfl rfl rfl rfl (rd_cmp rfl rfl true (cb_ne_t (a := xs.getD (s + j) 0) (b := es.getD j 0) rfl rfl (by omega))) ?_
            exact dobs_nil
          clear hv
          refine eo_keep [(0, .slice A n cap), (1, .slice D m cd), (2, .int .i64 ((s : Nat) : Int)), (8, .int .i64 ((j : Nat) : Int)), (27, .int .i64 ((j : Nat) : Int)), (28, .bool true), (31, .slice A n cap), (32, .int .i64 ((s : Nat) : Int)), (33, .int .i64 ((j : Nat) : Int)), (34, .int .i64 ((s + j : Nat) : Int)), (35, .pointer (some p5)), (36, .int .u64 ((xs.getD (s + j) 0 : Nat) : Int)), (37, .slice D m cd), (38, .int .i64 ((j : Nat) : Int)), (39, .pointer (some p6)), (40, .int .u64 ((es.getD j 0 : Nat) : Int)), (41, .bool true)] ⟨rfl, rfl, rfl, rfl, rfl, rfl, rfl, rfl, rfl, rfl, rfl, rfl, rfl, rfl, rfl, rfl, rfl, trivial⟩ ?_
          refine eo_then ?_
          refine cw_true rfl ?_
          refine cw_seq ?_
          by_cases hgt : xs.getD (s + j) 0 > es.getD j 0
          ·
            -- region 8, certain
            refine cw_keep [(0, .slice A n cap), (1, .slice D m cd), (2, .int .i64 ((s : Nat) : Int)), (8, .int .i64 ((j : Nat) : Int)), (27, .int .i64 ((j : Nat) : Int)), (28, .bool true), (31, .slice A n cap), (32, .int .i64 ((s : Nat) : Int)), (33, .int .i64 ((j : Nat) : Int)), (34, .int .i64 ((s + j : Nat) : Int)), (35, .pointer (some p5)), (36, .int .u64 ((xs.getD (s + j) 0 : Nat) : Int)), (37, .slice D m cd), (38, .int .i64 ((j : Nat) : Int)), (39, .pointer (some p6)), (40, .int .u64 ((es.getD j 0 : Nat) : Int)), (41, .bool true)] ⟨rfl, rfl, rfl, rfl, rfl, rfl, rfl, rfl, rfl, rfl, rfl, rfl, rfl, rfl, rfl, rfl, rfl, trivial⟩ ?_
            obtain ⟨v7, hv, e8⟩ : ∃ v, v = v3.drew ∧ Ext v3 v := ⟨_, rfl, (Ext.refl _).drew⟩
            have hw3 : Ext w v7 := hw2.trans e8
            refine cw_det mix (w := v7) [.slice A n cap, .int .i64 ((s : Nat) : Int), .int .i64 ((j : Nat) : Int), .int .i64 ((s + j : Nat) : Int), .pointer (some p5), .int .u64 ((xs.getD (s + j) 0 : Nat) : Int), .slice D m cd, .int .i64 ((j : Nat) : Int), .pointer (some p6), .int .u64 ((es.getD j 0 : Nat) : Int), .bool true, .bool true] [v7] [] [[], [], [], [1, 2], [0, 3], [4], [], [], [6, 7], [8], [5, 9], [10]] [[], [], [], [1, 2], [0, 1, 2, 3], [0, 1, 2, 3, 4], [], [], [6, 7], [6, 7, 8], [0, 1, 2, 3, 4, 5, 6, 7, 8, 9], [0, 1, 2, 3, 4, 5, 6, 7, 8, 9, 10]] [(0, 0), (1, 0), (2, 0), (3, 0), (4, 0), (5, 0), (6, 0), (7, 0), (8, 0), (9, 0), (10, 0), (11, 0)] rfl hv ?_ ?_
            ·
              refine dobs_val ([(0, .slice A n cap), (1, .slice D m cd), (2, .int .i64 ((s : Nat) : Int)), (8, .int .i64 ((j : Nat) : Int)), (27, .int .i64 ((j : Nat) : Int)), (28, .bool true), (31, .slice A n cap), (32, .int .i64 ((s : Nat) : Int)), (33, .int .i64 ((j : Nat) : Int)), (34, .int .i64 ((s + j : Nat) : Int)), (35, .pointer (some p5)), (36, .int .u64 ((xs.getD (s + j) 0 : Nat) : Int)), (37, .slice D m cd), (38, .int .i64 ((j : Nat) : Int)), (39, .pointer (some p6)), (40, .int .u64 ((es.getD j 0 : Nat) : Int)), (41, .bool true)]) rfl rfl rfl rfl rfl (rd_move rfl) ?_
              refine dobs_val ([(0, .slice A n cap), (1, .slice D m cd), (2, .int .i64 ((s : Nat) : Int)), (8, .int .i64 ((j : Nat) : Int)), (27, .int .i64 ((j : Nat) : Int)), (28, .bool true), (31, .slice A n cap), (32, .int .i64 ((s : Nat) : Int)), (33, .int .i64 ((j : Nat) : Int)), (34, .int .i64 ((s + j : Nat) : Int)), (35, .pointer (some p5)), (36, .int .u64 ((xs.getD (s + j) 0 : Nat) : Int)), (37, .slice D m cd), (38, .int .i64 ((j : Nat) : Int)), (39, .pointer (some p6)), (40, .int .u64 ((es.getD j 0 : Nat) : Int)), (41, .bool true)]) rfl rfl rfl rfl rfl (rd_move rfl) ?_
              refine dobs_val ([(0, .slice A n cap), (1, .slice D m cd), (2, .int .i64 ((s : Nat) : Int)), (8, .int .i64 ((j : Nat) : Int)), (27, .int .i64 ((j : Nat) : Int)), (28, .bool true), (31, .slice A n cap), (32, .int .i64 ((s : Nat) : Int)), (33, .int .i64 ((j : Nat) : Int)), (34, .int .i64 ((s + j : Nat) : Int)), (35, .pointer (some p5)), (36, .int .u64 ((xs.getD (s + j) 0 : Nat) : Int)), (37, .slice D m cd), (38, .int .i64 ((j : Nat) : Int)), (39, .pointer (some p6)), (40, .int .u64 ((es.getD j 0 : Nat) : Int)), (41, .bool true)]) rfl rfl rfl rfl rfl (rd_move rfl) ?_
              refine dobs_val ((43, .int .i64 ((s : Nat) : Int)) :: (44, .int .i64 ((j : Nat) : Int)) :: [(0, .slice A n cap), (1, .slice D m cd), (2, .int .i64 ((s : Nat) : Int)), (8, .int .i64 ((j : Nat) : Int)), (27, .int .i64 ((j : Nat) : Int)), (28, .bool true), (31, .slice A n cap), (32, .int .i64 ((s : Nat) : Int)), (33, .int .i64 ((j : Nat) : Int)), (34, .int .i64 ((s + j : Nat) : Int)), (35, .pointer (some p5)), (36, .int .u64 ((xs.getD (s + j) 0 : Nat) : Int)), (37, .slice D m cd), (38, .int .i64 ((j : Nat) : Int)), (39, .pointer (some p6)), (40, .int .u64 ((es.getD j 0 : Nat) : Int)), (41, .bool true)]) rfl rfl rfl rfl rfl (rd_ar rfl rfl ((s + j : Nat) : Int) (ai_add (a := s) (b := j) rfl rfl (by omega))) ?_
              refine dobs_val ((42, .slice A n cap) :: (45, .int .i64 ((s + j : Nat) : Int)) :: [(0, .slice A n cap), (1, .slice D m cd), (2, .int .i64 ((s : Nat) : Int)), (8, .int .i64 ((j : Nat) : Int)), (27, .int .i64 ((j : Nat) : Int)), (28, .bool true), (31, .slice A n cap), (32, .int .i64 ((s : Nat) : Int)), (33, .int .i64 ((j : Nat) : Int)), (34, .int .i64 ((s + j : Nat) : Int)), (35, .pointer (some p5)), (36, .int .u64 ((xs.getD (s + j) 0 : Nat) : Int)), (37, .slice D m cd), (38, .int .i64 ((j : Nat) : Int)), (39, .pointer (some p6)), (40, .int .u64 ((es.getD j 0 : Nat) : Int)), (41, .bool true)]) rfl rfl rfl rfl rfl (rd_idx rfl rfl un_u64 sz_u64 (s + j) rfl (by omega) p5 hp5) ?_
              refine dobs_val ((46, .pointer (some p5)) :: [(0, .slice A n cap), (1, .slice D m cd), (2, .int .i64 ((s : Nat) : Int)), (8, .int .i64 ((j : Nat) : Int)), (27, .int .i64 ((j : Nat) : Int)), (28, .bool true), (31, .slice A n cap), (32, .int .i64 ((s : Nat) : Int)), (33, .int .i64 ((j : Nat) : Int)), (34, .int .i64 ((s + j : Nat) : Int)), (35, .pointer (some p5)), (36, .int .u64 ((xs.getD (s + j) 0 : Nat) : Int)), (37, .slice D m cd), (38, .int .i64 ((j : Nat) : Int)), (39, .pointer (some p6)), (40, .int .u64 ((es.getD j 0 : Nat) : Int)), (41, .bool true)]) rfl rfl rfl rfl rfl (rd_load rfl (load_cell1 ag_u64 (e8.cell hc5))) ?_
              refine dobs_val ([(0, .slice A n cap), (1, .slice D m cd), (2, .int .i64 ((s : Nat) : Int)), (8, .int .i64 ((j : Nat) : Int)), (27, .int .i64 ((j : Nat) : Int)), (28, .bool true), (31, .slice A n cap), (32, .int .i64 ((s : Nat) : Int)), (33, .int .i64 ((j : Nat) : Int)), (34, .int .i64 ((s + j : Nat) : Int)), (35, .pointer (some p5)), (36, .int .u64 ((xs.getD (s + j) 0 : Nat) : Int)), (37, .slice D m cd), (38, .int .i64 ((j : Nat) : Int)), (39, .pointer (some p6)), (40, .int .u64 ((es.getD j 0 : Nat) : Int)), (41, .bool true)]) rfl rfl rfl rfl rfl (rd_move rfl) ?_
              refine dobs_val ([(0, .slice A n cap), (1, .slice D m cd), (2, .int .i64 ((s : Nat) : Int)), (8, .int .i64 ((j : Nat) : Int)), (27, .int .i64 ((j : Nat) : Int)), (28, .bool true), (31, .slice A n cap), (32, .int .i64 ((s : Nat) : Int)), (33, .int .i64 ((j : Nat) : Int)), (34, .int .i64 ((s + j : Nat) : Int)), (35, .pointer (some p5)), (36, .int .u64 ((xs.getD (s + j) 0 : Nat) : Int)), (37, .slice D m cd), (38, .int .i64 ((j : Nat) : Int)), (39, .pointer (some p6)), (40, .int .u64 ((es.getD j 0 : Nat) : Int)), (41, .bool true)]) rfl rfl rfl rfl rfl (rd_move rfl) ?_
              refine dobs_val ((48, .slice D m cd) :: (49, .int .i64 ((j : Nat) : Int)) :: [(0, .slice A n cap), (1, .slice D m cd), (2, .int .i64 ((s : Nat) : Int)), (8, .int .i64 ((j : Nat) : Int)), (27, .int .i64 ((j : Nat) : Int)), (28, .bool true), (31, .slice A n cap), (32, .int .i64 ((s : Nat) : Int)), (33, .int .i64 ((j : Nat) : Int)), (34, .int .i64 ((s + j : Nat) : Int)), (35, .pointer (some p5)), (36, .int .u64 ((xs.getD (s + j) 0 : Nat) : Int)), (37, .slice D m cd), (38, .int .i64 ((j : Nat) : Int)), (39, .pointer (some p6)), (40, .int .u64 ((es.getD j 0 : Nat) : Int)), (41, .bool true)]) rfl rfl rfl rfl rfl (rd_idx rfl rfl un_u64 sz_u64 j rfl (by omega) p6 hp6) ?_
              refine dobs_val ((50, .pointer (some p6)) :: [(0, .slice A n cap), (1, .slice D m cd), (2, .int .i64 ((s : Nat) : Int)), (8, .int .i64 ((j : Nat) : Int)), (27, .int .i64 ((j : Nat) : Int)), (28, .bool true), (31, .slice A n cap), (32, .int .i64 ((s : Nat) : Int)), (33, .int .i64 ((j : Nat) : Int)), (34, .int .i64 ((s + j : Nat) : Int)), (35, .pointer (some p5)), (36, .int .u64 ((xs.getD (s + j) 0 : Nat) : Int)), (37, .slice D m cd), (38, .int .i64 ((j : Nat) : Int)), (39, .pointer (some p6)), (40, .int .u64 ((es.getD j 0 : Nat) : Int)), (41, .bool true)]) rfl rfl rfl rfl rfl (rd_load rfl (load_cell1 ag_u64 (e8.cell hc6))) ?_
              refine dobs_val ((47, .int .u64 ((xs.getD (s + j) 0 : Nat) : Int)) :: (51, .int .u64 ((es.getD j 0 : Nat) : Int)) :: [(0, .slice A n cap), (1, .slice D m cd), (2, .int .i64 ((s : Nat) : Int)), (8, .int .i64 ((j : Nat) : Int)), (27, .int .i64 ((j : Nat) : Int)), (28, .bool true), (31, .slice A n cap), (32, .int .i64 ((s : Nat) : Int)), (33, .int .i64 ((j : Nat) : Int)), (34, .int .i64 ((s + j : Nat) : Int)), (35, .pointer (some p5)), (36, .int .u64 ((xs.getD (s + j) 0 : Nat) : Int)), (37, .slice D m cd), (38, .int .i64 ((j : Nat) : Int)), (39, .pointer (some p6)), (40, .int .u64 ((es.getD j 0 : Nat) : Int)), (41, .bool true)]) rfl rfl rfl rfl rfl (rd_cmp rfl rfl true (cb_gt_t (a := xs.getD (s + j) 0) (b := es.getD j 0) rfl rfl (by omega))) ?_
              refine dobs_val ((52, .bool true) :: [(0, .slice A n cap), (1, .slice D m cd), (2, .int .i64 ((s : Nat) : Int)), (8, .int .i64 ((j : Nat) : Int)), (27, .int .i64 ((j : Nat) : Int)), (28, .bool true), (31, .slice A n cap), (32, .int .i64 ((s : Nat) : Int)), (33, .int .i64 ((j : Nat) : Int)), (34, .int .i64 ((s + j : Nat) : Int)), (35, .pointer (some p5)), (36, .int .u64 ((xs.getD (s + j) 0 : Nat) : Int)), (37, .slice D m cd), (38, .int .i64 ((j : Nat) : Int)), (39, .pointer (some p6)), (40, .int .u64 ((es.getD j 0 : Nat) : Int)), (41, .bool true)]) rfl rfl rfl rfl rfl (rd_assign rfl) ?_
              exact dobs_nil
            clear hv
            refine eo_keep [(0, .slice A n cap), (1, .slice D m cd), (2, .int .i64 ((s : Nat) : Int)), (8, .int .i64 ((j : Nat) : Int)), (27, .int .i64 ((j : Nat) : Int)), (28, .bool true), (31, .slice A n cap), (32, .int .i64 ((s : Nat) : Int)), (33, .int .i64 ((j : Nat) : Int)), (34, .int .i64 ((s + j : Nat) : Int)), (35, .pointer (some p5)), (36, .int .u64 ((xs.getD (s + j) 0 : Nat) : Int)), (37, .slice D m cd), (38, .int .i64 ((j : Nat) : Int)), (39, .pointer (some p6)), (40, .int .u64 ((es.getD j 0 : Nat) : Int)), (41, .bool true), (42, .slice A n cap), (43, .int .i64 ((s : Nat) : Int)), (44, .int .i64 ((j : Nat) : Int)), (45, .int .i64 ((s + j : Nat) : Int)), (46, .pointer (some p5)), (47, .int .u64 ((xs.getD (s + j) 0 : Nat) : Int)), (48, .slice D m cd), (49, .int .i64 ((j : Nat) : Int)), (50, .pointer (some p6)), (51, .int .u64 ((es.getD j 0 : Nat) : Int)), (52, .bool true), (6, .bool true)] ⟨rfl, rfl, rfl, rfl, rfl, rfl, rfl, rfl, rfl, rfl, rfl, rfl, rfl, rfl, rfl, rfl, rfl, rfl, rfl, rfl, rfl, rfl, rfl, rfl, rfl, rfl, rfl, rfl, rfl, trivial⟩ ?_
            refine eo_then ?_
            refine cw_ret ?_
            refine eo_block_ret ?_
            refine eo_thenR ?_
            refine eo_loopR ?_
            refine eo_block_ret ?_
            refine eo_thenR ?_
            refine eo_ret [.bool true] rfl ⟨rfl, trivial⟩ ?_
            exact ⟨_, rfl, (show Value.bool true = _ by rw [decide_eq_true (goes_gt hlen hle2 hs hwx hwe (by omega) hv hgt)]), hw3⟩
          ·
            -- region 8, certain
            refine cw_keep [(0, .slice A n cap), (1, .slice D m cd), (2, .int .i64 ((s : Nat) : Int)), (8, .int .i64 ((j : Nat) : Int)), (27, .int .i64 ((j : Nat) : Int)), (28, .bool true), (31, .slice A n cap), (32, .int .i64 ((s : Nat) : Int)), (33, .int .i64 ((j : Nat) : Int)), (34, .int .i64 ((s + j : Nat) : Int)), (35, .pointer (some p5)), (36, .int .u64 ((xs.getD (s + j) 0 : Nat) : Int)), (37, .slice D m cd), (38, .int .i64 ((j : Nat) : Int)), (39, .pointer (some p6)), (40, .int .u64 ((es.getD j 0 : Nat) : Int)), (41, .bool true)] ⟨rfl, rfl, rfl, rfl, rfl, rfl, rfl, rfl, rfl, rfl, rfl, rfl, rfl, rfl, rfl, rfl, rfl, trivial⟩ ?_
            obtain ⟨v9, hv, e10⟩ : ∃ v, v = v3.drew ∧ Ext v3 v := ⟨_, rfl, (Ext.refl _).drew⟩
            have hw3 : Ext w v9 := hw2.trans e10
            refine cw_det mix (w := v9) [.slice A n cap, .int .i64 ((s : Nat) : Int), .int .i64 ((j : Nat) : Int), .int .i64 ((s + j : Nat) : Int), .pointer (some p5), .int .u64 ((xs.getD (s + j) 0 : Nat) : Int), .slice D m cd, .int .i64 ((j : Nat) : Int), .pointer (some p6), .int .u64 ((es.getD j 0 : Nat) : Int), .bool false, .bool false] [v9] [] [[], [], [], [1, 2], [0, 3], [4], [], [], [6, 7], [8], [5, 9], [10]] [[], [], [], [1, 2], [0, 1, 2, 3], [0, 1, 2, 3, 4], [], [], [6, 7], [6, 7, 8], [0, 1, 2, 3, 4, 5, 6, 7, 8, 9], [0, 1, 2, 3, 4, 5, 6, 7, 8, 9, 10]] [(0, 0), (1, 0), (2, 0), (3, 0), (4, 0), (5, 0), (6, 0), (7, 0), (8, 0), (9, 0), (10, 0), (11, 0)] rfl hv ?_ ?_
            ·
              refine dobs_val ([(0, .slice A n cap), (1, .slice D m cd), (2, .int .i64 ((s : Nat) : Int)), (8, .int .i64 ((j : Nat) : Int)), (27, .int .i64 ((j : Nat) : Int)), (28, .bool true), (31, .slice A n cap), (32, .int .i64 ((s : Nat) : Int)), (33, .int .i64 ((j : Nat) : Int)), (34, .int .i64 ((s + j : Nat) : Int)), (35, .pointer (some p5)), (36, .int .u64 ((xs.getD (s + j) 0 : Nat) : Int)), (37, .slice D m cd), (38, .int .i64 ((j : Nat) : Int)), (39, .pointer (some p6)), (40, .int .u64 ((es.getD j 0 : Nat) : Int)), (41, .bool true)]) rfl rfl rfl rfl rfl (rd_move rfl) ?_
              refine dobs_val ([(0, .slice A n cap), (1, .slice D m cd), (2, .int .i64 ((s : Nat) : Int)), (8, .int .i64 ((j : Nat) : Int)), (27, .int .i64 ((j : Nat) : Int)), (28, .bool true), (31, .slice A n cap), (32, .int .i64 ((s : Nat) : Int)), (33, .int .i64 ((j : Nat) : Int)), (34, .int .i64 ((s + j : Nat) : Int)), (35, .pointer (some p5)), (36, .int .u64 ((xs.getD (s + j) 0 : Nat) : Int)), (37, .slice D m cd), (38, .int .i64 ((j : Nat) : Int)), (39, .pointer (some p6)), (40, .int .u64 ((es.getD j 0 : Nat) : Int)), (41, .bool true)]) rfl rfl rfl rfl rfl (rd_move rfl) ?_
              refine dobs_val ([(0, .slice A n cap), (1, .slice D m cd), (2, .int .i64 ((s : Nat) : Int)), (8, .int .i64 ((j : Nat) : Int)), (27, .int .i64 ((j : Nat) : Int)), (28, .bool true), (31, .slice A n cap), (32, .int .i64 ((s : Nat) : Int)), (33, .int .i64 ((j : Nat) : Int)), (34, .int .i64 ((s + j : Nat) : Int)), (35, .pointer (some p5)), (36, .int .u64 ((xs.getD (s + j) 0 : Nat) : Int)), (37, .slice D m cd), (38, .int .i64 ((j : Nat) : Int)), (39, .pointer (some p6)), (40, .int .u64 ((es.getD j 0 : Nat) : Int)), (41, .bool true)]) rfl rfl rfl rfl rfl (rd_move rfl) ?_
              refine dobs_val ((43, .int .i64 ((s : Nat) : Int)) :: (44, .int .i64 ((j : Nat) : Int)) :: [(0, .slice A n cap), (1, .slice D m cd), (2, .int .i64 ((s : Nat) : Int)), (8, .int .i64 ((j : Nat) : Int)), (27, .int .i64 ((j : Nat) : Int)), (28, .bool true), (31, .slice A n cap), (32, .int .i64 ((s : Nat) : Int)), (33, .int .i64 ((j : Nat) : Int)), (34, .int .i64 ((s + j : Nat) : Int)), (35, .pointer (some p5)), (36, .int .u64 ((xs.getD (s + j) 0 : Nat) : Int)), (37, .slice D m cd), (38, .int .i64 ((j : Nat) : Int)), (39, .pointer (some p6)), (40, .int .u64 ((es.getD j 0 : Nat) : Int)), (41, .bool true)]) rfl rfl rfl rfl rfl (rd_ar rfl rfl ((s + j : Nat) : Int) (ai_add (a := s) (b := j) rfl rfl (by omega))) ?_
              refine dobs_val ((42, .slice A n cap) :: (45, .int .i64 ((s + j : Nat) : Int)) :: [(0, .slice A n cap), (1, .slice D m cd), (2, .int .i64 ((s : Nat) : Int)), (8, .int .i64 ((j : Nat) : Int)), (27, .int .i64 ((j : Nat) : Int)), (28, .bool true), (31, .slice A n cap), (32, .int .i64 ((s : Nat) : Int)), (33, .int .i64 ((j : Nat) : Int)), (34, .int .i64 ((s + j : Nat) : Int)), (35, .pointer (some p5)), (36, .int .u64 ((xs.getD (s + j) 0 : Nat) : Int)), (37, .slice D m cd), (38, .int .i64 ((j : Nat) : Int)), (39, .pointer (some p6)), (40, .int .u64 ((es.getD j 0 : Nat) : Int)), (41, .bool true)]) rfl rfl rfl rfl rfl (rd_idx rfl rfl un_u64 sz_u64 (s + j) rfl (by omega) p5 hp5) ?_
              refine dobs_val ((46, .pointer (some p5)) :: [(0, .slice A n cap), (1, .slice D m cd), (2, .int .i64 ((s : Nat) : Int)), (8, .int .i64 ((j : Nat) : Int)), (27, .int .i64 ((j : Nat) : Int)), (28, .bool true), (31, .slice A n cap), (32, .int .i64 ((s : Nat) : Int)), (33, .int .i64 ((j : Nat) : Int)), (34, .int .i64 ((s + j : Nat) : Int)), (35, .pointer (some p5)), (36, .int .u64 ((xs.getD (s + j) 0 : Nat) : Int)), (37, .slice D m cd), (38, .int .i64 ((j : Nat) : Int)), (39, .pointer (some p6)), (40, .int .u64 ((es.getD j 0 : Nat) : Int)), (41, .bool true)]) rfl rfl rfl rfl rfl (rd_load rfl (load_cell1 ag_u64 (e10.cell hc5))) ?_
              refine dobs_val ([(0, .slice A n cap), (1, .slice D m cd), (2, .int .i64 ((s : Nat) : Int)), (8, .int .i64 ((j : Nat) : Int)), (27, .int .i64 ((j : Nat) : Int)), (28, .bool true), (31, .slice A n cap), (32, .int .i64 ((s : Nat) : Int)), (33, .int .i64 ((j : Nat) : Int)), (34, .int .i64 ((s + j : Nat) : Int)), (35, .pointer (some p5)), (36, .int .u64 ((xs.getD (s + j) 0 : Nat) : Int)), (37, .slice D m cd), (38, .int .i64 ((j : Nat) : Int)), (39, .pointer (some p6)), (40, .int .u64 ((es.getD j 0 : Nat) : Int)), (41, .bool true)]) rfl rfl rfl rfl rfl (rd_move rfl) ?_
              refine dobs_val ([(0, .slice A n cap), (1, .slice D m cd), (2, .int .i64 ((s : Nat) : Int)), (8, .int .i64 ((j : Nat) : Int)), (27, .int .i64 ((j : Nat) : Int)), (28, .bool true), (31, .slice A n cap), (32, .int .i64 ((s : Nat) : Int)), (33, .int .i64 ((j : Nat) : Int)), (34, .int .i64 ((s + j : Nat) : Int)), (35, .pointer (some p5)), (36, .int .u64 ((xs.getD (s + j) 0 : Nat) : Int)), (37, .slice D m cd), (38, .int .i64 ((j : Nat) : Int)), (39, .pointer (some p6)), (40, .int .u64 ((es.getD j 0 : Nat) : Int)), (41, .bool true)]) rfl rfl rfl rfl rfl (rd_move rfl) ?_
              refine dobs_val ((48, .slice D m cd) :: (49, .int .i64 ((j : Nat) : Int)) :: [(0, .slice A n cap), (1, .slice D m cd), (2, .int .i64 ((s : Nat) : Int)), (8, .int .i64 ((j : Nat) : Int)), (27, .int .i64 ((j : Nat) : Int)), (28, .bool true), (31, .slice A n cap), (32, .int .i64 ((s : Nat) : Int)), (33, .int .i64 ((j : Nat) : Int)), (34, .int .i64 ((s + j : Nat) : Int)), (35, .pointer (some p5)), (36, .int .u64 ((xs.getD (s + j) 0 : Nat) : Int)), (37, .slice D m cd), (38, .int .i64 ((j : Nat) : Int)), (39, .pointer (some p6)), (40, .int .u64 ((es.getD j 0 : Nat) : Int)), (41, .bool true)]) rfl rfl rfl rfl rfl (rd_idx rfl rfl un_u64 sz_u64 j rfl (by omega) p6 hp6) ?_
              refine dobs_val ((50, .pointer (some p6)) :: [(0, .slice A n cap), (1, .slice D m cd), (2, .int .i64 ((s : Nat) : Int)), (8, .int .i64 ((j : Nat) : Int)), (27, .int .i64 ((j : Nat) : Int)), (28, .bool true), (31, .slice A n cap), (32, .int .i64 ((s : Nat) : Int)), (33, .int .i64 ((j : Nat) : Int)), (34, .int .i64 ((s + j : Nat) : Int)), (35, .pointer (some p5)), (36, .int .u64 ((xs.getD (s + j) 0 : Nat) : Int)), (37, .slice D m cd), (38, .int .i64 ((j : Nat) : Int)), (39, .pointer (some p6)), (40, .int .u64 ((es.getD j 0 : Nat) : Int)), (41, .bool true)]) rfl rfl rfl rfl rfl (rd_load rfl (load_cell1 ag_u64 (e10.cell hc6))) ?_
              refine dobs_val ((47, .int .u64 ((xs.getD (s + j) 0 : Nat) : Int)) :: (51, .int .u64 ((es.getD j 0 : Nat) : Int)) :: [(0, .slice A n cap), (1, .slice D m cd), (2, .int .i64 ((s : Nat) : Int)), (8, .int .i64 ((j : Nat) : Int)), (27, .int .i64 ((j : Nat) : Int)), (28, .bool true), (31, .slice A n cap), (32, .int .i64 ((s : Nat) : Int)), (33, .int .i64 ((j : Nat) : Int)), (34, .int .i64 ((s + j : Nat) : Int)), (35, .pointer (some p5)), (36, .int .u64 ((xs.getD (s + j) 0 : Nat) : Int)), (37, .slice D m cd), (38, .int .i64 ((j : Nat) : Int)), (39, .pointer (some p6)), (40, .int .u64 ((es.getD j 0 : Nat) : Int)), (41, .bool true)]) rfl rfl rfl rfl rfl (rd_cmp rfl rfl false (cb_gt_f (a := xs.getD (s + j) 0) (b := es.getD j 0) rfl rfl (by omega))) ?_
              refine dobs_val ((52, .bool false) :: [(0, .slice A n cap), (1, .slice D m cd), (2, .int .i64 ((s : Nat) : Int)), (8, .int .i64 ((j : Nat) : Int)), (27, .int .i64 ((j : Nat) : Int)), (28, .bool true), (31, .slice A n cap), (32, .int .i64 ((s : Nat) : Int)), (33, .int .i64 ((j : Nat) : Int)), (34, .int .i64 ((s + j : Nat) : Int)), (35, .pointer (some p5)), (36, .int .u64 ((xs.getD (s + j) 0 : Nat) : Int)), (37, .slice D m cd), (38, .int .i64 ((j : Nat) : Int)), (39, .pointer (some p6)), (40, .int .u64 ((es.getD j 0 : Nat) : Int)), (41, .bool true)]) rfl rfl rfl rfl rfl (rd_assign rfl) ?_
              exact dobs_nil
            clear hv
            refine eo_keep [(0, .slice A n cap), (1, .slice D m cd), (2, .int .i64 ((s : Nat) : Int)), (8, .int .i64 ((j : Nat) : Int)), (27, .int .i64 ((j : Nat) : Int)), (28, .bool true), (31, .slice A n cap), (32, .int .i64 ((s : Nat) : Int)), (33, .int .i64 ((j : Nat) : Int)), (34, .int .i64 ((s + j : Nat) : Int)), (35, .pointer (some p5)), (36, .int .u64 ((xs.getD (s + j) 0 : Nat) : Int)), (37, .slice D m cd), (38, .int .i64 ((j : Nat) : Int)), (39, .pointer (some p6)), (40, .int .u64 ((es.getD j 0 : Nat) : Int)), (41, .bool true), (42, .slice A n cap), (43, .int .i64 ((s : Nat) : Int)), (44, .int .i64 ((j : Nat) : Int)), (45, .int .i64 ((s + j : Nat) : Int)), (46, .pointer (some p5)), (47, .int .u64 ((xs.getD (s + j) 0 : Nat) : Int)), (48, .slice D m cd), (49, .int .i64 ((j : Nat) : Int)), (50, .pointer (some p6)), (51, .int .u64 ((es.getD j 0 : Nat) : Int)), (52, .bool false), (6, .bool false)] ⟨rfl, rfl, rfl, rfl, rfl, rfl, rfl, rfl, rfl, rfl, rfl, rfl, rfl, rfl, rfl, rfl, rfl, rfl, rfl, rfl, rfl, rfl, rfl, rfl, rfl, rfl, rfl, rfl, rfl, trivial⟩ ?_
            refine eo_then ?_
            refine cw_ret ?_
            refine eo_block_ret ?_
            refine eo_thenR ?_
            refine eo_loopR ?_
            refine eo_block_ret ?_
            refine eo_thenR ?_
            refine eo_ret [.bool false] rfl ⟨rfl, trivial⟩ ?_
            exact ⟨_, rfl, (show Value.bool false = _ by rw [decide_eq_false (goes_lt hlen hle2 hs hwx hwe (by omega) hv (by omega))]), hw3⟩
        ·
          -- region 7, certain
          refine cw_keep [(0, .slice A n cap), (1, .slice D m cd), (2, .int .i64 ((s : Nat) : Int)), (8, .int .i64 ((j : Nat) : Int)), (27, .int .i64 ((j : Nat) : Int)), (28, .bool true)] ⟨rfl, rfl, rfl, rfl, rfl, rfl, trivial⟩ ?_
          obtain ⟨v11, hv, e12⟩ : ∃ v, v = wr.drew ∧ Ext wr v := ⟨_, rfl, (Ext.refl _).drew⟩
          have hw2 : Ext w v11 := hw1.trans e12
          obtain ⟨p13, hp13, hc13, hv13⟩ := ((rl0.ext e12)).at (i := s + j) (by omega)
          obtain ⟨p14, hp14, hc14, hv14⟩ := ((rl1.ext e12)).at (i := j) (by omega)
          refine cw_det mix (w := v11) [.slice A n cap, .int .i64 ((s : Nat) : Int), .int .i64 ((j : Nat) : Int), .int .i64 ((s + j : Nat) : Int), .pointer (some p13), .int .u64 ((xs.getD (s + j) 0 : Nat) : Int), .slice D m cd, .int .i64 ((j : Nat) : Int), .pointer (some p14), .int .u64 ((es.getD j 0 : Nat) : Int), .bool false] [v11] [] [[], [], [], [1, 2], [0, 3], [4], [], [], [6, 7], [8], [5, 9]] [[], [], [], [1, 2], [0, 1, 2, 3], [0, 1, 2, 3, 4], [], [], [6, 7], [6, 7, 8], [0, 1, 2, 3, 4, 5, 6, 7, 8, 9]] [(0, 0), (1, 0), (2, 0), (3, 0), (4, 0), (5, 0), (6, 0), (7, 0), (8, 0), (9, 0), (10, 0)] rfl hv ?_ ?_
          ·
            refine dobs_val ([(0, .slice A n cap), (1, .slice D m cd), (2, .int .i64 ((s : Nat) : Int)), (8, .int .i64 ((j : Nat) : Int)), (27, .int .i64 ((j : Nat) : Int)), (28, .bool true)]) rfl rfl rfl rfl rfl (rd_move rfl) ?_
            refine dobs_val ([(0, .slice A n cap), (1, .slice D m cd), (2, .int .i64 ((s : Nat) : Int)), (8, .int .i64 ((j : Nat) : Int)), (27, .int .i64 ((j : Nat) : Int)), (28, .bool true)]) rfl rfl rfl rfl rfl (rd_move rfl) ?_
            refine dobs_val ([(0, .slice A n cap), (1, .slice D m cd), (2, .int .i64 ((s : Nat) : Int)), (8, .int .i64 ((j : Nat) : Int)), (27, .int .i64 ((j : Nat) : Int)), (28, .bool true)]) rfl rfl rfl rfl rfl (rd_move rfl) ?_
            refine dobs_val ((32, .int .i64 ((s : Nat) : Int)) :: (33, .int .i64 ((j : Nat) : Int)) :: [(0, .slice A n cap), (1, .slice D m cd), (2, .int .i64 ((s : Nat) : Int)), (8, .int .i64 ((j : Nat) : Int)), (27, .int .i64 ((j : Nat) : Int)), (28, .bool true)]) rfl rfl rfl rfl rfl (rd_ar rfl rfl ((s + j : Nat) : Int) (ai_add (a := s) (b := j) rfl rfl (by omega))) ?_
            refine dobs_val ((31, .slice A n cap) :: (34, .int .i64 ((s + j : Nat) : Int)) :: [(0, .slice A n cap), (1, .slice D m cd), (2, .int .i64 ((s : Nat) : Int)), (8, .int .i64 ((j : Nat) : Int)), (27, .int .i64 ((j : Nat) : Int)), (28, .bool true)]) rfl rfl rfl rfl rfl (rd_idx rfl rfl un_u64 sz_u64 (s + j) rfl (by omega) p13 hp13) ?_
            refine dobs_val ((35, .pointer (some p13)) :: [(0, .slice A n cap), (1, .slice D m cd), (2, .int .i64 ((s : Nat) : Int)), (8, .int .i64 ((j : Nat) : Int)), (27, .int .i64 ((j : Nat) : Int)), (28, .bool true)]) rfl rfl rfl rfl rfl (rd_load rfl (load_cell1 ag_u64 hc13)) ?_
            refine dobs_val ([(0, .slice A n cap), (1, .slice D m cd), (2, .int .i64 ((s : Nat) : Int)), (8, .int .i64 ((j : Nat) : Int)), (27, .int .i64 ((j : Nat) : Int)), (28, .bool true)]) rfl rfl rfl rfl rfl (rd_move rfl) ?_
            refine dobs_val ([(0, .slice A n cap), (1, .slice D m cd), (2, .int .i64 ((s : Nat) : Int)), (8, .int .i64 ((j : Nat) : Int)), (27, .int .i64 ((j : Nat) : Int)), (28, .bool true)]) rfl rfl rfl rfl rfl (rd_move rfl) ?_
            refine dobs_val ((37, .slice D m cd) :: (38, .int .i64 ((j : Nat) : Int)) :: [(0, .slice A n cap), (1, .slice D m cd), (2, .int .i64 ((s : Nat) : Int)), (8, .int .i64 ((j : Nat) : Int)), (27, .int .i64 ((j : Nat) : Int)), (28, .bool true)]) rfl rfl rfl rfl rfl (rd_idx rfl rfl un_u64 sz_u64 j rfl (by omega) p14 hp14) ?_
            refine dobs_val ((39, .pointer (some p14)) :: [(0, .slice A n cap), (1, .slice D m cd), (2, .int .i64 ((s : Nat) : Int)), (8, .int .i64 ((j : Nat) : Int)), (27, .int .i64 ((j : Nat) : Int)), (28, .bool true)]) rfl rfl rfl rfl rfl (rd_load rfl (load_cell1 ag_u64 hc14)) ?_
            refine dobs_val ((36, .int .u64 ((xs.getD (s + j) 0 : Nat) : Int)) :: (40, .int .u64 ((es.getD j 0 : Nat) : Int)) :: [(0, .slice A n cap), (1, .slice D m cd), (2, .int .i64 ((s : Nat) : Int)), (8, .int .i64 ((j : Nat) : Int)), (27, .int .i64 ((j : Nat) : Int)), (28, .bool true)]) rfl rfl rfl rfl rfl (rd_cmp rfl rfl false (cb_ne_f (a := xs.getD (s + j) 0) (b := es.getD j 0) rfl rfl (by omega))) ?_
            exact dobs_nil
          clear hv
          refine eo_keep [(0, .slice A n cap), (1, .slice D m cd), (2, .int .i64 ((s : Nat) : Int)), (8, .int .i64 ((j : Nat) : Int)), (27, .int .i64 ((j : Nat) : Int)), (28, .bool true), (31, .slice A n cap), (32, .int .i64 ((s : Nat) : Int)), (33, .int .i64 ((j : Nat) : Int)), (34, .int .i64 ((s + j : Nat) : Int)), (35, .pointer (some p13)), (36, .int .u64 ((xs.getD (s + j) 0 : Nat) : Int)), (37, .slice D m cd), (38, .int .i64 ((j : Nat) : Int)), (39, .pointer (some p14)), (40, .int .u64 ((es.getD j 0 : Nat) : Int)), (41, .bool false)] ⟨rfl, rfl, rfl, rfl, rfl, rfl, rfl, rfl, rfl, rfl, rfl, rfl, rfl, rfl, rfl, rfl, rfl, trivial⟩ ?_
          refine eo_then ?_
          refine cw_false rfl ?_
          refine cw_skip ?_
          refine eo_block_normal ?_
          refine eo_then ?_
          -- region 6
          refine cw_region ?_
          refine wl_move rfl rfl (by decide) ?_
          refine wl_ar rfl rfl rfl (((j : Nat) : Int) - 1) (ar_i64s rfl (by omega) (by omega)) (by decide) ?_
          refine wl_assign rfl rfl (by decide) ?_
          refine wl_nil ?_
          refine eo_round (⟨v11, j, _⟩ : World × Nat × Int) ⟨hw2, (by omega), rfl, goes_step hlen hle2 hs hwx hwe (by omega) hv (by omega), (rl0.ext e12), (rl1.ext e12)⟩ (show j < j + 1 by omega) rfl ⟨rfl, rfl, rfl, rfl, trivial⟩
      ·
        obtain rfl : k = 0 := by omega
        -- region 5
        refine cw_region ?_
        refine wl_move rfl rfl (by decide) ?_
        refine wl_cmp rfl rfl rfl false (ge_f (by omega)) (by decide) ?_
        refine wl_nil ?_
        refine eo_then ?_
        refine cw_false rfl ?_
        refine cw_exit ?_
        refine eo_thenX ?_
        refine eo_loopX ?_
        refine eo_block_here ?_
        refine eo_then ?_
        refine cw_seq ?_
        -- region 9
        refine cw_region ?_
        refine wl_assign rfl rfl (by decide) ?_
        refine wl_nil ?_
        refine eo_then ?_
        refine cw_ret ?_
        refine eo_ret [.bool true] rfl ⟨rfl, trivial⟩ ?_
        exact ⟨_, rfl, (show Value.bool true = _ by rw [decide_eq_true (goes_eq hlen hle2 hs hwx hwe hv)]), hw1⟩
  ·
    have hst := goes_start hlen hle2 hs hwx hwe hbig (fun h => absurd h htop)
    -- region 2
    refine cw_region ?_
    refine wl_move rfl rfl (by decide) ?_
    refine wl_move rfl rfl (by decide) ?_
    refine wl_pure rfl rfl (v := .int .i64 ((n : Nat) : Int)) (by decide) (by kernel_rfl) ?_
    refine wl_cmp rfl rfl rfl false (cb_lt_f (a := s + m) (b := n) rfl rfl (by omega)) (by decide) ?_
    refine wl_move rfl rfl (by decide) ?_
    refine wl_off rfl (by decide) ?_
    refine wl_off rfl (by decide) ?_
    refine wl_off rfl (by decide) ?_
    refine wl_off rfl (by decide) ?_
    refine wl_off rfl (by decide) ?_
    refine wl_pure rfl rfl (v := .bool false) (by decide) (by kernel_rfl) ?_
    refine wl_nil ?_
    refine eo_then ?_
    refine cw_false rfl ?_
    refine cw_skip ?_
    refine eo_then ?_
    refine cw_seq ?_
    refine cw_seq ?_
    -- region 4
    refine cw_region ?_
    refine wl_move rfl rfl (by decide) ?_
    refine wl_pure rfl rfl (v := .int .i64 ((m : Nat) : Int)) (by decide) (by kernel_rfl) ?_
    refine wl_ar rfl rfl rfl (((m : Nat) : Int) - 1) (ar_i64s rfl (by omega) (by omega)) (by decide) ?_
    refine wl_assign rfl rfl (by decide) ?_
    refine wl_nil ?_
    refine eo_then ?_
    refine cw_block ?_
    refine cw_loop (T := World × Nat × Int)
      (fun ⟨wr, k, ii⟩ => [(0, .slice A n cap), (1, .slice D m cd), (2, .int .i64 ((s : Nat) : Int)), (8, .int .i64 ii)])
      (fun ⟨wr, k, ii⟩ => wr)
      (fun ⟨wr, k, ii⟩ => (Ext w wr) ∧ (k ≤ m) ∧ (ii = (k : Int) - 1) ∧ (nb 4294967296 (xs.drop (s + k)) = nb 4294967296 (es.drop k)) ∧ (Rd wr A n cap xs) ∧ (Rd wr D m cd es))
      (fun ⟨wr, k, ii⟩ => k)
      (⟨w, m, _⟩ : World × Nat × Int) ⟨(Ext.refl w), Nat.le_refl _, rfl, hst, hx, hy⟩ rfl ⟨rfl, rfl, rfl, rfl, trivial⟩ ?_
    rintro ⟨wr, k, ii⟩ ⟨hw1, hk, hii, hv, rl0, rl1⟩
    refine cw_re [(0, .slice A n cap), (1, .slice D m cd), (2, .int .i64 ((s : Nat) : Int)), (8, .int .i64 ii)] wr rfl ⟨rfl, rfl, rfl, rfl, trivial⟩ ?_
    refine cw_seq ?_
    refine cw_seq ?_
    by_cases hkp : 0 < k
    ·
      obtain ⟨j, rfl⟩ : ∃ j, k = j + 1 := ⟨k - 1, by omega⟩
      obtain rfl : ii = (j : Int) := by omega
      -- region 5
      refine cw_region ?_
      refine wl_move rfl rfl (by decide) ?_
      refine wl_cmp rfl rfl rfl true (cb_ge_t (a := j) (b := 0) rfl rfl (by omega)) (by decide) ?_
      refine wl_nil ?_
      refine eo_then ?_
      refine cw_true rfl ?_
      refine cw_skip ?_
      refine eo_then ?_
      refine cw_seq ?_
      refine cw_block ?_
      refine cw_seq ?_
      by_cases hne : xs.getD (s + j) 0 ≠ es.getD j 0
      ·
        -- region 7, certain
        refine cw_keep [(0, .slice A n cap), (1, .slice D m cd), (2, .int .i64 ((s : Nat) : Int)), (8, .int .i64 ((j : Nat) : Int)), (27, .int .i64 ((j : Nat) : Int)), (28, .bool true)] ⟨rfl, rfl, rfl, rfl, rfl, rfl, trivial⟩ ?_
        obtain ⟨v15, hv, e16⟩ : ∃ v, v = wr.drew ∧ Ext wr v := ⟨_, rfl, (Ext.refl _).drew⟩
        have hw2 : Ext w v15 := hw1.trans e16
        obtain ⟨p17, hp17, hc17, hv17⟩ := ((rl0.ext e16)).at (i := s + j) (by omega)
        obtain ⟨p18, hp18, hc18, hv18⟩ := ((rl1.ext e16)).at (i := j) (by omega)
        refine cw_det mix (w := v15) [.slice A n cap, .int .i64 ((s : Nat) : Int), .int .i64 ((j : Nat) : Int), .int .i64 ((s + j : Nat) : Int), .pointer (some p17), .int .u64 ((xs.getD (s + j) 0 : Nat) : Int), .slice D m cd, .int .i64 ((j : Nat) : Int), .pointer (some p18), .int .u64 ((es.getD j 0 : Nat) : Int), .bool true] [v15] [] [[], [], [], [1, 2], [0, 3], [4], [], [], [6, 7], [8], [5, 9]] [[], [], [], [1, 2], [0, 1, 2, 3], [0, 1, 2, 3, 4], [], [], [6, 7], [6, 7, 8], [0, 1, 2, 3, 4, 5, 6, 7, 8, 9]] [(0, 0), (1, 0), (2, 0), (3, 0), (4, 0), (5, 0), (6, 0), (7, 0), (8, 0), (9, 0), (10, 0)] rfl hv ?_ ?_
        ·
          refine dobs_val ([(0, .slice A n cap), (1, .slice D m cd), (2, .int .i64 ((s : Nat) : Int)), (8, .int .i64 ((j : Nat) : Int)), (27, .int .i64 ((j : Nat) : Int)), (28, .bool true)]) rfl rfl rfl rfl rfl (rd_move rfl) ?_
          refine dobs_val ([(0, .slice A n cap), (1, .slice D m cd), (2, .int .i64 ((s : Nat) : Int)), (8, .int .i64 ((j : Nat) : Int)), (27, .int .i64 ((j : Nat) : Int)), (28, .bool true)]) rfl rfl rfl rfl rfl (rd_move rfl) ?_
          refine dobs_val ([(0, .slice A n cap), (1, .slice D m cd), (2, .int .i64 ((s : Nat) : Int)), (8, .int .i64 ((j : Nat) : Int)), (27, .int .i64 ((j : Nat) : Int)), (28, .bool true)]) rfl rfl rfl rfl rfl (rd_move rfl) ?_
          refine dobs_val ((32, .int .i64 ((s : Nat) : Int)) :: (33, .int .i64 ((j : Nat) : Int)) :: [(0, .slice A n cap), (1, .slice D m cd), (2, .int .i64 ((s : Nat) : Int)), (8, .int .i64 ((j : Nat) : Int)), (27, .int .i64 ((j : Nat) : Int)), (28, .bool true)]) rfl rfl rfl rfl rfl (rd_ar rfl rfl ((s + j : Nat) : Int) (ai_add (a := s) (b := j) rfl rfl (by omega))) ?_
          refine dobs_val ((31, .slice A n cap) :: (34, .int .i64 ((s + j : Nat) : Int)) :: [(0, .slice A n cap), (1, .slice D m cd), (2, .int .i64 ((s : Nat) : Int)), (8, .int .i64 ((j : Nat) : Int)), (27, .int .i64 ((j : Nat) : Int)), (28, .bool true)]) rfl rfl rfl rfl rfl (rd_idx rfl rfl un_u64 sz_u64 (s + j) rfl (by omega) p17 hp17) ?_
          refine dobs_val ((35, .pointer (some p17)) :: [(0, .slice A n cap), (1, .slice D m cd), (2, .int .i64 ((s : Nat) : Int)), (8, .int .i64 ((j : Nat) : Int)), (27, .int .i64 ((j : Nat) : Int)), (28, .bool true)]) rfl rfl rfl rfl rfl (rd_load rfl (load_cell1 ag_u64 hc17)) ?_
          refine dobs_val ([(0, .slice A n cap), (1, .slice D m cd), (2, .int .i64 ((s : Nat) : Int)), (8, .int .i64 ((j : Nat) : Int)), (27, .int .i64 ((j : Nat) : Int)), (28, .bool true)]) rfl rfl rfl rfl rfl (rd_move rfl) ?_
          refine dobs_val ([(0, .slice A n cap), (1, .slice D m cd), (2, .int .i64 ((s : Nat) : Int)), (8, .int .i64 ((j : Nat) : Int)), (27, .int .i64 ((j : Nat) : Int)), (28, .bool true)]) rfl rfl rfl rfl rfl (rd_move rfl) ?_
          refine dobs_val ((37, .slice D m cd) :: (38, .int .i64 ((j : Nat) : Int)) :: [(0, .slice A n cap), (1, .slice D m cd), (2, .int .i64 ((s : Nat) : Int)), (8, .int .i64 ((j : Nat) : Int)), (27, .int .i64 ((j : Nat) : Int)), (28, .bool true)]) rfl rfl rfl rfl rfl (rd_idx rfl rfl un_u64 sz_u64 j rfl (by omega) p18 hp18) ?_
          refine dobs_val ((39, .pointer (some p18)) :: [(0, .slice A n cap), (1, .slice D m cd), (2, .int .i64 ((s : Nat) : Int)), (8, .int .i64 ((j : Nat) : Int)), (27, .int .i64 ((j : Nat) : Int)), (28, .bool true)]) rfl rfl rfl rfl rfl (rd_load rfl (load_cell1 ag_u64 hc18)) ?_
          refine dobs_val ((36, .int .u64 ((xs.getD (s + j) 0 : Nat) : Int)) :: (40, .int .u64 ((es.getD j 0 : Nat) : Int)) :: [(0, .slice A n cap), (1, .slice D m cd), (2, .int .i64 ((s : Nat) : Int)), (8, .int .i64 ((j : Nat) : Int)), (27, .int .i64 ((j : Nat) : Int)), (28, .bool true)]) rfl rfl rfl rfl rfl (rd_cmp rfl rfl true (cb_ne_t (a := xs.getD (s + j) 0) (b := es.getD j 0) rfl rfl (by omega))) ?_
          exact dobs_nil
        clear hv
        refine eo_keep [(0, .slice A n cap), (1, .slice D m cd), (2, .int .i64 ((s : Nat) : Int)), (8, .int .i64 ((j : Nat) : Int)), (27, .int .i64 ((j : Nat) : Int)), (28, .bool true), (31, .slice A n cap), (32, .int .i64 ((s : Nat) : Int)), (33, .int .i64 ((j : Nat) : Int)), (34, .int .i64 ((s + j : Nat) : Int)), (35, .pointer (some p17)), (36, .int .u64 ((xs.getD (s + j) 0 : Nat) : Int)), (37, .slice D m cd), (38, .int .i64 ((j : Nat) : Int)), (39, .pointer (some p18)), (40, .int .u64 ((es.getD j 0 : Nat) : Int)), (41, .bool true)] ⟨rfl, rfl, rfl, rfl, rfl, rfl, rfl, rfl, rfl, rfl, rfl, rfl, rfl, rfl, rfl, rfl, rfl, trivial⟩ ?_
        refine eo_then ?_
        refine cw_true rfl ?_
        refine cw_seq ?_
        by_cases hgt : xs.getD (s + j) 0 > es.getD j 0
        ·
          -- region 8, certain
          refine cw_keep [(0, .slice A n cap), (1, .slice D m cd), (2, .int .i64 ((s : Nat) : Int)), (8, .int .i64 ((j : Nat) : Int)), (27, .int .i64 ((j : Nat) : Int)), (28, .bool true), (31, .slice A n cap), (32, .int .i64 ((s : Nat) : Int)), (33, .int .i64 ((j : Nat) : Int)), (34, .int .i64 ((s + j : Nat) : Int)), (35, .pointer (some p17)), (36, .int .u64 ((xs.getD (s + j) 0 : Nat) : Int)), (37, .slice D m cd), (38, .int .i64 ((j : Nat) : Int)), (39, .pointer (some p18)), (40, .int .u64 ((es.getD j 0 : Nat) : Int)), (41, .bool true)] ⟨rfl, rfl, rfl, rfl, rfl, rfl, rfl, rfl, rfl, rfl, rfl, rfl, rfl, rfl, rfl, rfl, rfl, trivial⟩ ?_
          obtain ⟨v19, hv, e20⟩ : ∃ v, v = v15.drew ∧ Ext v15 v := ⟨_, rfl, (Ext.refl _).drew⟩
          have hw3 : Ext w v19 := hw2.trans e20
          refine cw_det mix (w := v19) [.slice A n cap, .int .i64 ((s : Nat) : Int), .int .i64 ((j : Nat) : Int), .int .i64 ((s + j : Nat) : Int), .pointer (some p17), .int .u64 ((xs.getD (s + j) 0 : Nat) : Int), .slice D m cd, .int .i64 ((j : Nat) : Int), .pointer (some p18), .int .u64 ((es.getD j 0 : Nat) : Int), .bool true, .bool true] [v19] [] [[], [], [], [1, 2], [0, 3], [4], [], [], [6, 7], [8], [5, 9], [10]] [[], [], [], [1, 2], [0, 1, 2, 3], [0, 1, 2, 3, 4], [], [], [6, 7], [6, 7, 8], [0, 1, 2, 3, 4, 5, 6, 7, 8, 9], [0, 1, 2, 3, 4, 5, 6, 7, 8, 9, 10]] [(0, 0), (1, 0), (2, 0), (3, 0), (4, 0), (5, 0), (6, 0), (7, 0), (8, 0), (9, 0), (10, 0), (11, 0)] rfl hv ?_ ?_
          ·
            refine dobs_val ([(0, .slice A n cap), (1, .slice D m cd), (2, .int .i64 ((s : Nat) : Int)), (8, .int .i64 ((j : Nat) : Int)), (27, .int .i64 ((j : Nat) : Int)), (28, .bool true), (31, .slice A n cap), (32, .int .i64 ((s : Nat) : Int)), (33, .int .i64 ((j : Nat) : Int)), (34, .int .i64 ((s + j : Nat) : Int)), (35, .pointer (some p17)), (36, .int .u64 ((xs.getD (s + j) 0 : Nat) : Int)), (37, .slice D m cd), (38, .int .i64 ((j : Nat) : Int)), (39, .pointer (some p18)), (40, .int .u64 ((es.getD j 0 : Nat) : Int)), (41, .bool true)]) rfl rfl rfl rfl rfl (rd_move rfl) ?_
            refine dobs_val ([(0, .slice A n cap), (1, .slice D m cd), (2, .int .i64 ((s : Nat) : Int)), (8, .int .i64 ((j : Nat) : Int)), (27, .int .i64 ((j : Nat) : Int)), (28, .bool true), (31, .slice A n cap), (32, .int .i64 ((s : Nat) : Int)), (33, .int .i64 ((j : Nat) : Int)), (34, .int .i64 ((s + j : Nat) : Int)), (35, .pointer (some p17)), (36, .int .u64 ((xs.getD (s + j) 0 : Nat) : Int)), (37, .slice D m cd), (38, .int .i64 ((j : Nat) : Int)), (39, .pointer (some p18)), (40, .int .u64 ((es.getD j 0 : Nat) : Int)), (41, .bool true)]) rfl rfl rfl rfl rfl (rd_move rfl) ?_
            refine dobs_val ([(0, .slice A n cap), (1, .slice D m cd), (2, .int .i64 ((s : Nat) : Int)), (8, .int .i64 ((j : Nat) : Int)), (27, .int .i64 ((j : Nat) : Int)), (28, .bool true), (31, .slice A n cap), (32, .int .i64 ((s : Nat) : Int)), (33, .int .i64 ((j : Nat) : Int)), (34, .int .i64 ((s + j : Nat) : Int)), (35, .pointer (some p17)), (36, .int .u64 ((xs.getD (s + j) 0 : Nat) : Int)), (37, .slice D m cd), (38, .int .i64 ((j : Nat) : Int)), (39, .pointer (some p18)), (40, .int .u64 ((es.getD j 0 : Nat) : Int)), (41, .bool true)]) rfl rfl rfl rfl rfl (rd_move rfl) ?_
            refine dobs_val ((43, .int .i64 ((s : Nat) : Int)) :: (44, .int .i64 ((j : Nat) : Int)) :: [(0, .slice A n cap), (1, .slice D m cd), (2, .int .i64 ((s : Nat) : Int)), (8, .int .i64 ((j : Nat) : Int)), (27, .int .i64 ((j : Nat) : Int)), (28, .bool true), (31, .slice A n cap), (32, .int .i64 ((s : Nat) : Int)), (33, .int .i64 ((j : Nat) : Int)), (34, .int .i64 ((s + j : Nat) : Int)), (35, .pointer (some p17)), (36, .int .u64 ((xs.getD (s + j) 0 : Nat) : Int)), (37, .slice D m cd), (38, .int .i64 ((j : Nat) : Int)), (39, .pointer (some p18)), (40, .int .u64 ((es.getD j 0 : Nat) : Int)), (41, .bool true)]) rfl rfl rfl rfl rfl (rd_ar rfl rfl ((s + j : Nat) : Int) (ai_add (a := s) (b := j) rfl rfl (by omega))) ?_
            refine dobs_val ((42, .slice A n cap) :: (45, .int .i64 ((s + j : Nat) : Int)) :: [(0, .slice A n cap), (1, .slice D m cd), (2, .int .i64 ((s : Nat) : Int)), (8, .int .i64 ((j : Nat) : Int)), (27, .int .i64 ((j : Nat) : Int)), (28, .bool true), (31, .slice A n cap), (32, .int .i64 ((s : Nat) : Int)), (33, .int .i64 ((j : Nat) : Int)), (34, .int .i64 ((s + j : Nat) : Int)), (35, .pointer (some p17)), (36, .int .u64 ((xs.getD (s + j) 0 : Nat) : Int)), (37, .slice D m cd), (38, .int .i64 ((j : Nat) : Int)), (39, .pointer (some p18)), (40, .int .u64 ((es.getD j 0 : Nat) : Int)), (41, .bool true)]) rfl rfl rfl rfl rfl (rd_idx rfl rfl un_u64 sz_u64 (s + j) rfl (by omega) p17 hp17) ?_
            refine dobs_val ((46, .pointer (some p17)) :: [(0, .slice A n cap), (1, .slice D m cd), (2, .int .i64 ((s : Nat) : Int)), (8, .int .i64 ((j : Nat) : Int)), (27, .int .i64 ((j : Nat) : Int)), (28, .bool true), (31, .slice A n cap), (32, .int .i64 ((s : Nat) : Int)), (33, .int .i64 ((j : Nat) : Int)), (34, .int .i64 ((s + j : Nat) : Int)), (35, .pointer (some p17)), (36, .int .u64 ((xs.getD (s + j) 0 : Nat) : Int)), (37, .slice D m cd), (38, .int .i64 ((j : Nat) : Int)), (39, .pointer (some p18)), (40, .int .u64 ((es.getD j 0 : Nat) : Int)), (41, .bool true)]) rfl rfl rfl rfl rfl (rd_load rfl (load_cell1 ag_u64 (e20.cell hc17))) ?_
            refine dobs_val ([(0, .slice A n cap), (1, .slice D m cd), (2, .int .i64 ((s : Nat) : Int)), (8, .int .i64 ((j : Nat) : Int)), (27, .int .i64 ((j : Nat) : Int)), (28, .bool true), (31, .slice A n cap), (32, .int .i64 ((s : Nat) : Int)), (33, .int .i64 ((j : Nat) : Int)), (34, .int .i64 ((s + j : Nat) : Int)), (35, .pointer (some p17)), (36, .int .u64 ((xs.getD (s + j) 0 : Nat) : Int)), (37, .slice D m cd), (38, .int .i64 ((j : Nat) : Int)), (39, .pointer (some p18)), (40, .int .u64 ((es.getD j 0 : Nat) : Int)), (41, .bool true)]) rfl rfl rfl rfl rfl (rd_move rfl) ?_
            refine dobs_val ([(0, .slice A n cap), (1, .slice D m cd), (2, .int .i64 ((s : Nat) : Int)), (8, .int .i64 ((j : Nat) : Int)), (27, .int .i64 ((j : Nat) : Int)), (28, .bool true), (31, .slice A n cap), (32, .int .i64 ((s : Nat) : Int)), (33, .int .i64 ((j : Nat) : Int)), (34, .int .i64 ((s + j : Nat) : Int)), (35, .pointer (some p17)), (36, .int .u64 ((xs.getD (s + j) 0 : Nat) : Int)), (37, .slice D m cd), (38, .int .i64 ((j : Nat) : Int)), (39, .pointer (some p18)), (40, .int .u64 ((es.getD j 0 : Nat) : Int)), (41, .bool true)]) rfl rfl rfl rfl rfl (rd_move rfl) ?_
            refine dobs_val ((48, .slice D m cd) :: (49, .int .i64 ((j : Nat) : Int)) :: [(0, .slice A n cap), (1, .slice D m cd), (2, .int .i64 ((s : Nat) : Int)), (8, .int .i64 ((j : Nat) : Int)), (27, .int .i64 ((j : Nat) : Int)), (28, .bool true), (31, .slice A n cap), (32, .int .i64 ((s : Nat) : Int)), (33, .int .i64 ((j : Nat) : Int)), (34, .int .i64 ((s + j : Nat) : Int)), (35, .pointer (some p17)), (36, .int .u64 ((xs.getD (s + j) 0 : Nat) : Int)), (37, .slice D m cd), (38, .int .i64 ((j : Nat) : Int)), (39, .pointer (some p18)), (40, .int .u64 ((es.getD j 0 : Nat) : Int)), (41, .bool true)]) rfl rfl rfl rfl rfl (rd_idx rfl rfl un_u64 sz_u64 j rfl (by omega) p18 hp18) ?_
            refine dobs_val ((50, .pointer (some p18)) :: [(0, .slice A n cap), (1, .slice D m cd), (2, .int .i64 ((s : Nat) : Int)), (8, .int .i64 ((j : Nat) : Int)), (27, .int .i64 ((j : Nat) : Int)), (28, .bool true), (31, .slice A n cap), (32, .int .i64 ((s : Nat) : Int)), (33, .int .i64 ((j : Nat) : Int)), (34, .int .i64 ((s + j : Nat) : Int)), (35, .pointer (some p17)), (36, .int .u64 ((xs.getD (s + j) 0 : Nat) : Int)), (37, .slice D m cd), (38, .int .i64 ((j : Nat) : Int)), (39, .pointer (some p18)), (40, .int .u64 ((es.getD j 0 : Nat) : Int)), (41, .bool true)]) rfl rfl rfl rfl rfl (rd_load rfl (load_cell1 ag_u64 (e20.cell hc18))) ?_
            refine dobs_val ((47, .int .u64 ((xs.getD (s + j) 0 : Nat) : Int)) :: (51, .int .u64 ((es.getD j 0 : Nat) : Int)) :: [(0, .slice A n cap), (1, .slice D m cd), (2, .int .i64 ((s : Nat) : Int)), (8, .int .i64 ((j : Nat) : Int)), (27, .int .i64 ((j : Nat) : Int)), (28, .bool true), (31, .slice A n cap), (32, .int .i64 ((s : Nat) : Int)), (33, .int .i64 ((j : Nat) : Int)), (34, .int .i64 ((s + j : Nat) : Int)), (35, .pointer (some p17)), (36, .int .u64 ((xs.getD (s + j) 0 : Nat) : Int)), (37, .slice D m cd), (38, .int .i64 ((j : Nat) : Int)), (39, .pointer (some p18)), (40, .int .u64 ((es.getD j 0 : Nat) : Int)), (41, .bool true)]) rfl rfl rfl rfl rfl (rd_cmp rfl rfl true (cb_gt_t (a := xs.getD (s + j) 0) (b := es.getD j 0) rfl rfl (by omega))) ?_
            refine dobs_val ((52, .bool true) :: [(0, .slice A n cap), (1, .slice D m cd), (2, .int .i64 ((s : Nat) : Int)), (8, .int .i64 ((j : Nat) : Int)), (27, .int .i64 ((j : Nat) : Int)), (28, .bool true), (31, .slice A n cap), (32, .int .i64 ((s : Nat) : Int)), (33, .int .i64 ((j : Nat) : Int)), (34, .int .i64 ((s + j : Nat) : Int)), (35, .pointer (some p17)), (36, .int .u64 ((xs.getD (s + j) 0 : Nat) : Int)), (37, .slice D m cd), (38, .int .i64 ((j : Nat) : Int)), (39, .pointer (some p18)), (40, .int .u64 ((es.getD j 0 : Nat) : Int)), (41, .bool true)]) rfl rfl rfl rfl rfl (rd_assign rfl) ?_
            exact dobs_nil
          clear hv
          refine eo_keep [(0, .slice A n cap), (1, .slice D m cd), (2, .int .i64 ((s : Nat) : Int)), (8, .int .i64 ((j : Nat) : Int)), (27, .int .i64 ((j : Nat) : Int)), (28, .bool true), (31, .slice A n cap), (32, .int .i64 ((s : Nat) : Int)), (33, .int .i64 ((j : Nat) : Int)), (34, .int .i64 ((s + j : Nat) : Int)), (35, .pointer (some p17)), (36, .int .u64 ((xs.getD (s + j) 0 : Nat) : Int)), (37, .slice D m cd), (38, .int .i64 ((j : Nat) : Int)), (39, .pointer (some p18)), (40, .int .u64 ((es.getD j 0 : Nat) : Int)), (41, .bool true), (42, .slice A n cap), (43, .int .i64 ((s : Nat) : Int)), (44, .int .i64 ((j : Nat) : Int)), (45, .int .i64 ((s + j : Nat) : Int)), (46, .pointer (some p17)), (47, .int .u64 ((xs.getD (s + j) 0 : Nat) : Int)), (48, .slice D m cd), (49, .int .i64 ((j : Nat) : Int)), (50, .pointer (some p18)), (51, .int .u64 ((es.getD j 0 : Nat) : Int)), (52, .bool true), (6, .bool true)] ⟨rfl, rfl, rfl, rfl, rfl, rfl, rfl, rfl, rfl, rfl, rfl, rfl, rfl, rfl, rfl, rfl, rfl, rfl, rfl, rfl, rfl, rfl, rfl, rfl, rfl, rfl, rfl, rfl, rfl, trivial⟩ ?_
          refine eo_then ?_
          refine cw_ret ?_
          refine eo_block_ret ?_
          refine eo_thenR ?_
          refine eo_loopR ?_
          refine eo_block_ret ?_
          refine eo_thenR ?_
          refine eo_ret [.bool true] rfl ⟨rfl, trivial⟩ ?_
          exact ⟨_, rfl, (show Value.bool true = _ by rw [decide_eq_true (goes_gt hlen hle2 hs hwx hwe (by omega) hv hgt)]), hw3⟩
        ·
          -- region 8, certain
          refine cw_keep [(0, .slice A n cap), (1, .slice D m cd), (2, .int .i64 ((s : Nat) : Int)), (8, .int .i64 ((j : Nat) : Int)), (27, .int .i64 ((j : Nat) : Int)), (28, .bool true), (31, .slice A n cap), (32, .int .i64 ((s : Nat) : Int)), (33, .int .i64 ((j : Nat) : Int)), (34, .int .i64 ((s + j : Nat) : Int)), (35, .pointer (some p17)), (36, .int .u64 ((xs.getD (s + j) 0 : Nat) : Int)), (37, .slice D m cd), (38, .int .i64 ((j : Nat) : Int)), (39, .pointer (some p18)), (40, .int .u64 ((es.getD j 0 : Nat) : Int)), (41, .bool true)] ⟨rfl, rfl, rfl, rfl, rfl, rfl, rfl, rfl, rfl, rfl, rfl, rfl, rfl, rfl, rfl, rfl, rfl, trivial⟩ ?_
          obtain ⟨v21, hv, e22⟩ : ∃ v, v = v15.drew ∧ Ext v15 v := ⟨_, rfl, (Ext.refl _).drew⟩
          have hw3 : Ext w v21 := hw2.trans e22
          refine cw_det mix (w := v21) [.slice A n cap, .int .i64 ((s : Nat) : Int), .int .i64 ((j : Nat) : Int), .int .i64 ((s + j : Nat) : Int), .pointer (some p17), .int .u64 ((xs.getD (s + j) 0 : Nat) : Int), .slice D m cd, .int .i64 ((j : Nat) : Int), .pointer (some p18), .int .u64 ((es.getD j 0 : Nat) : Int), .bool false, .bool false] [v21] [] [[], [], [], [1, 2], [0, 3], [4], [], [], [6, 7], [8], [5, 9], [10]] [[], [], [], [1, 2], [0, 1, 2, 3], [0, 1, 2, 3, 4], [], [], [6, 7], [6, 7, 8], [0, 1, 2, 3, 4, 5, 6, 7, 8, 9], [0, 1, 2, 3, 4, 5, 6, 7, 8, 9, 10]] [(0, 0), (1, 0), (2, 0), (3, 0), (4, 0), (5, 0), (6, 0), (7, 0), (8, 0), (9, 0), (10, 0), (11, 0)] rfl hv ?_ ?_
          ·
            refine dobs_val ([(0, .slice A n cap), (1, .slice D m cd), (2, .int .i64 ((s : Nat) : Int)), (8, .int .i64 ((j : Nat) : Int)), (27, .int .i64 ((j : Nat) : Int)), (28, .bool true), (31, .slice A n cap), (32, .int .i64 ((s : Nat) : Int)), (33, .int .i64 ((j : Nat) : Int)), (34, .int .i64 ((s + j : Nat) : Int)), (35, .pointer (some p17)), (36, .int .u64 ((xs.getD (s + j) 0 : Nat) : Int)), (37, .slice D m cd), (38, .int .i64 ((j : Nat) : Int)), (39, .pointer (some p18)), (40, .int .u64 ((es.getD j 0 : Nat) : Int)), (41, .bool true)]) rfl rfl rfl rfl rfl (rd_move rfl) ?_
            refine dobs_val ([(0, .slice A n cap), (1, .slice D m cd), (2, .int .i64 ((s : Nat) : Int)), (8, .int .i64 ((j : Nat) : Int)), (27, .int .i64 ((j : Nat) : Int)), (28, .bool true), (31, .slice A n cap), (32, .int .i64 ((s : Nat) : Int)), (33, .int .i64 ((j : Nat) : Int)), (34, .int .i64 ((s + j : Nat) : Int)), (35, .pointer (some p17)), (36, .int .u64 ((xs.getD (s + j) 0 : Nat) : Int)), (37, .slice D m cd), (38, .int .i64 ((j : Nat) : Int)), (39, .pointer (some p18)), (40, .int .u64 ((es.getD j 0 : Nat) : Int)), (41, .bool true)]) rfl rfl rfl rfl rfl (rd_move rfl) ?_
            refine dobs_val ([(0, .slice A n cap), (1, .slice D m cd), (2, .int .i64 ((s : Nat) : Int)), (8, .int .i64 ((j : Nat) : Int)), (27, .int .i64 ((j : Nat) : Int)), (28, .bool true), (31, .slice A n cap), (32, .int .i64 ((s : Nat) : Int)), (33, .int .i64 ((j : Nat) : Int)), (34, .int .i64 ((s + j : Nat) : Int)), (35, .pointer (some p17)), (36, .int .u64 ((xs.getD (s + j) 0 : Nat) : Int)), (37, .slice D m cd), (38, .int .i64 ((j : Nat) : Int)), (39, .pointer (some p18)), (40, .int .u64 ((es.getD j 0 : Nat) : Int)), (41, .bool true)]) rfl rfl rfl rfl rfl (rd_move rfl) ?_
            refine dobs_val ((43, .int .i64 ((s : Nat) : Int)) :: (44, .int .i64 ((j : Nat) : Int)) :: [(0, .slice A n cap), (1, .slice D m cd), (2, .int .i64 ((s : Nat) : Int)), (8, .int .i64 ((j : Nat) : Int)), (27, .int .i64 ((j : Nat) : Int)), (28, .bool true), (31, .slice A n cap), (32, .int .i64 ((s : Nat) : Int)), (33, .int .i64 ((j : Nat) : Int)), (34, .int .i64 ((s + j : Nat) : Int)), (35, .pointer (some p17)), (36, .int .u64 ((xs.getD (s + j) 0 : Nat) : Int)), (37, .slice D m cd), (38, .int .i64 ((j : Nat) : Int)), (39, .pointer (some p18)), (40, .int .u64 ((es.getD j 0 : Nat) : Int)), (41, .bool true)]) rfl rfl rfl rfl rfl (rd_ar rfl rfl ((s + j : Nat) : Int) (ai_add (a := s) (b := j) rfl rfl (by omega))) ?_
            refine dobs_val ((42, .slice A n cap) :: (45, .int .i64 ((s + j : Nat) : Int)) :: [(0, .slice A n cap), (1, .slice D m cd), (2, .int .i64 ((s : Nat) : Int)), (8, .int .i64 ((j : Nat) : Int)), (27, .int .i64 ((j : Nat) : Int)), (28, .bool true), (31, .slice A n cap), (32, .int .i64 ((s : Nat) : Int)), (33, .int .i64 ((j : Nat) : Int)), (34, .int .i64 ((s + j : Nat) : Int)), (35, .pointer (some p17)), (36, .int .u64 ((xs.getD (s + j) 0 : Nat) : Int)), (37, .slice D m cd), (38, .int .i64 ((j : Nat) : Int)), (39, .pointer (some p18)), (40, .int .u64 ((es.getD j 0 : Nat) : Int)), (41, .bool true)]) rfl rfl rfl rfl rfl (rd_idx rfl rfl un_u64 sz_u64 (s + j) rfl (by omega) p17 hp17) ?_
            refine dobs_val ((46, .pointer (some p17)) :: [(0, .slice A n cap), (1, .slice D m cd), (2, .int .i64 ((s : Nat) : Int)), (8, .int .i64 ((j : Nat) : Int)), (27, .int .i64 ((j : Nat) : Int)), (28, .bool true), (31, .slice A n cap), (32, .int .i64 ((s : Nat) : Int)), (33, .int .i64 ((j : Nat) : Int)), (34, .int .i64 ((s + j : Nat) : Int)), (35, .pointer (some p17)), (36, .int .u64 ((xs.getD (s + j) 0 : Nat) : Int)), (37, .slice D m cd), (38, .int .i64 ((j : Nat) : Int)), (39, .pointer (some p18)), (40, .int .u64 ((es.getD j 0 : Nat) : Int)), (41, .bool true)]) rfl rfl rfl rfl rfl (rd_load rfl (load_cell1 ag_u64 (e22.cell hc17))) ?_
            refine dobs_val ([(0, .slice A n cap), (1, .slice D m cd), (2, .int .i64 ((s : Nat) : Int)), (8, .int .i64 ((j : Nat) : Int)), (27, .int .i64 ((j : Nat) : Int)), (28, .bool true), (31, .slice A n cap), (32, .int .i64 ((s : Nat) : Int)), (33, .int .i64 ((j : Nat) : Int)), (34, .int .i64 ((s + j : Nat) : Int)), (35, .pointer (some p17)), (36, .int .u64 ((xs.getD (s + j) 0 : Nat) : Int)), (37, .slice D m cd), (38, .int .i64 ((j : Nat) : Int)), (39, .pointer (some p18)), (40, .int .u64 ((es.getD j 0 : Nat) : Int)), (41, .bool true)]) rfl rfl rfl rfl rfl (rd_move rfl) ?_
            refine dobs_val ([(0, .slice A n cap), (1, .slice D m cd), (2, .int .i64 ((s : Nat) : Int)), (8, .int .i64 ((j : Nat) : Int)), (27, .int .i64 ((j : Nat) : Int)), (28, .bool true), (31, .slice A n cap), (32, .int .i64 ((s : Nat) : Int)), (33, .int .i64 ((j : Nat) : Int)), (34, .int .i64 ((s + j : Nat) : Int)), (35, .pointer (some p17)), (36, .int .u64 ((xs.getD (s + j) 0 : Nat) : Int)), (37, .slice D m cd), (38, .int .i64 ((j : Nat) : Int)), (39, .pointer (some p18)), (40, .int .u64 ((es.getD j 0 : Nat) : Int)), (41, .bool true)]) rfl rfl rfl rfl rfl (rd_move rfl) ?_
            refine dobs_val ((48, .slice D m cd) :: (49, .int .i64 ((j : Nat) : Int)) :: [(0, .slice A n cap), (1, .slice D m cd), (2, .int .i64 ((s : Nat) : Int)), (8, .int .i64 ((j : Nat) : Int)), (27, .int .i64 ((j : Nat) : Int)), (28, .bool true), (31, .slice A n cap), (32, .int .i64 ((s : Nat) : Int)), (33, .int .i64 ((j : Nat) : Int)), (34, .int .i64 ((s + j : Nat) : Int)), (35, .pointer (some p17)), (36, .int .u64 ((xs.getD (s + j) 0 : Nat) : Int)), (37, .slice D m cd), (38, .int .i64 ((j : Nat) : Int)), (39, .pointer (some p18)), (40, .int .u64 ((es.getD j 0 : Nat) : Int)), (41, .bool true)]) rfl rfl rfl rfl rfl (rd_idx rfl rfl un_u64 sz_u64 j rfl (by omega) p18 hp18) ?_
            refine dobs_val ((50, .pointer (some p18)) :: [(0, .slice A n cap), (1, .slice D m cd), (2, .int .i64 ((s : Nat) : Int)), (8, .int .i64 ((j : Nat) : Int)), (27, .int .i64 ((j : Nat) : Int)), (28, .bool true), (31, .slice A n cap), (32, .int .i64 ((s : Nat) : Int)), (33, .int .i64 ((j : Nat) : Int)), (34, .int .i64 ((s + j : Nat) : Int)), (35, .pointer (some p17)), (36, .int .u64 ((xs.getD (s + j) 0 : Nat) : Int)), (37, .slice D m cd), (38, .int .i64 ((j : Nat) : Int)), (39, .pointer (some p18)), (40, .int .u64 ((es.getD j 0 : Nat) : Int)), (41, .bool true)]) rfl rfl rfl rfl rfl (rd_load rfl (load_cell1 ag_u64 (e22.cell hc18))) ?_
            refine dobs_val ((47, .int .u64 ((xs.getD (s + j) 0 : Nat) : Int)) :: (51, .int .u64 ((es.getD j 0 : Nat) : Int)) :: [(0, .slice A n cap), (1, .slice D m cd), (2, .int .i64 ((s : Nat) : Int)), (8, .int .i64 ((j : Nat) : Int)), (27, .int .i64 ((j : Nat) : Int)), (28, .bool true), (31, .slice A n cap), (32, .int .i64 ((s : Nat) : Int)), (33, .int .i64 ((j : Nat) : Int)), (34, .int .i64 ((s + j : Nat) : Int)), (35, .pointer (some p17)), (36, .int .u64 ((xs.getD (s + j) 0 : Nat) : Int)), (37, .slice D m cd), (38, .int .i64 ((j : Nat) : Int)), (39, .pointer (some p18)), (40, .int .u64 ((es.getD j 0 : Nat) : Int)), (41, .bool true)]) rfl rfl rfl rfl rfl (rd_cmp rfl rfl false (cb_gt_f (a := xs.getD (s + j) 0) (b := es.getD j 0) rfl rfl (by omega))) ?_
            refine dobs_val ((52, .bool false) :: [(0, .slice A n cap), (1, .slice D m cd), (2, .int .i64 ((s : Nat) : Int)), (8, .int .i64 ((j : Nat) : Int)), (27, .int .i64 ((j : Nat) : Int)), (28, .bool true), (31, .slice A n cap), (32, .int .i64 ((s : Nat) : Int)), (33, .int .i64 ((j : Nat) : Int)), (34, .int .i64 ((s + j : Nat) : Int)), (35, .pointer (some p17)), (36, .int .u64 ((xs.getD (s + j) 0 : Nat) : Int)), (37, .slice D m cd), (38, .int .i64 ((j : Nat) : Int)), (39, .pointer (some p18)), (40, .int .u64 ((es.getD j 0 : Nat) : Int)), (41, .bool true)]) rfl rfl rfl rfl rfl (rd_assign rfl) ?_
            exact dobs_nil
          clear hv
          refine eo_keep [(0, .slice A n cap), (1, .slice D m cd), (2, .int .i64 ((s : Nat) : Int)), (8, .int .i64 ((j : Nat) : Int)), (27, .int .i64 ((j : Nat) : Int)), (28, .bool true), (31, .slice A n cap), (32, .int .i64 ((s : Nat) : Int)), (33, .int .i64 ((j : Nat) : Int)), (34, .int .i64 ((s + j : Nat) : Int)), (35, .pointer (some p17)), (36, .int .u64 ((xs.getD (s + j) 0 : Nat) : Int)), (37, .slice D m cd), (38, .int .i64 ((j : Nat) : Int)), (39, .pointer (some p18)), (40, .int .u64 ((es.getD j 0 : Nat) : Int)), (41, .bool true), (42, .slice A n cap), (43, .int .i64 ((s : Nat) : Int)), (44, .int .i64 ((j : Nat) : Int)), (45, .int .i64 ((s + j : Nat) : Int)), (46, .pointer (some p17)), (47, .int .u64 ((xs.getD (s + j) 0 : Nat) : Int)), (48, .slice D m cd), (49, .int .i64 ((j : Nat) : Int)), (50, .pointer (some p18)), (51, .int .u64 ((es.getD j 0 : Nat) : Int)), (52, .bool false), (6, .bool false)] ⟨rfl, rfl, rfl, rfl, rfl, rfl, rfl, rfl, rfl, rfl, rfl, rfl, rfl, rfl, rfl, rfl, rfl, rfl, rfl, rfl, rfl, rfl, rfl, rfl, rfl, rfl, rfl, rfl, rfl, trivial⟩ ?_
          refine eo_then ?_
          refine cw_ret ?_
          refine eo_block_ret ?_
          refine eo_thenR ?_
          refine eo_loopR ?_
          refine eo_block_ret ?_
          refine eo_thenR ?_
          refine eo_ret [.bool false] rfl ⟨rfl, trivial⟩ ?_
          exact ⟨_, rfl, (show Value.bool false = _ by rw [decide_eq_false (goes_lt hlen hle2 hs hwx hwe (by omega) hv (by omega))]), hw3⟩
      ·
        -- region 7, certain
        refine cw_keep [(0, .slice A n cap), (1, .slice D m cd), (2, .int .i64 ((s : Nat) : Int)), (8, .int .i64 ((j : Nat) : Int)), (27, .int .i64 ((j : Nat) : Int)), (28, .bool true)] ⟨rfl, rfl, rfl, rfl, rfl, rfl, trivial⟩ ?_
        obtain ⟨v23, hv, e24⟩ : ∃ v, v = wr.drew ∧ Ext wr v := ⟨_, rfl, (Ext.refl _).drew⟩
        have hw2 : Ext w v23 := hw1.trans e24
        obtain ⟨p25, hp25, hc25, hv25⟩ := ((rl0.ext e24)).at (i := s + j) (by omega)
        obtain ⟨p26, hp26, hc26, hv26⟩ := ((rl1.ext e24)).at (i := j) (by omega)
        refine cw_det mix (w := v23) [.slice A n cap, .int .i64 ((s : Nat) : Int), .int .i64 ((j : Nat) : Int), .int .i64 ((s + j : Nat) : Int), .pointer (some p25), .int .u64 ((xs.getD (s + j) 0 : Nat) : Int), .slice D m cd, .int .i64 ((j : Nat) : Int), .pointer (some p26), .int .u64 ((es.getD j 0 : Nat) : Int), .bool false] [v23] [] [[], [], [], [1, 2], [0, 3], [4], [], [], [6, 7], [8], [5, 9]] [[], [], [], [1, 2], [0, 1, 2, 3], [0, 1, 2, 3, 4], [], [], [6, 7], [6, 7, 8], [0, 1, 2, 3, 4, 5, 6, 7, 8, 9]] [(0, 0), (1, 0), (2, 0), (3, 0), (4, 0), (5, 0), (6, 0), (7, 0), (8, 0), (9, 0), (10, 0)] rfl hv ?_ ?_
        ·
          refine dobs_val ([(0, .slice A n cap), (1, .slice D m cd), (2, .int .i64 ((s : Nat) : Int)), (8, .int .i64 ((j : Nat) : Int)), (27, .int .i64 ((j : Nat) : Int)), (28, .bool true)]) rfl rfl rfl rfl rfl (rd_move rfl) ?_
          refine dobs_val ([(0, .slice A n cap), (1, .slice D m cd), (2, .int .i64 ((s : Nat) : Int)), (8, .int .i64 ((j : Nat) : Int)), (27, .int .i64 ((j : Nat) : Int)), (28, .bool true)]) rfl rfl rfl rfl rfl (rd_move rfl) ?_
          refine dobs_val ([(0, .slice A n cap), (1, .slice D m cd), (2, .int .i64 ((s : Nat) : Int)), (8, .int .i64 ((j : Nat) : Int)), (27, .int .i64 ((j : Nat) : Int)), (28, .bool true)]) rfl rfl rfl rfl rfl (rd_move rfl) ?_
          refine dobs_val ((32, .int .i64 ((s : Nat) : Int)) :: (33, .int .i64 ((j : Nat) : Int)) :: [(0, .slice A n cap), (1, .slice D m cd), (2, .int .i64 ((s : Nat) : Int)), (8, .int .i64 ((j : Nat) : Int)), (27, .int .i64 ((j : Nat) : Int)), (28, .bool true)]) rfl rfl rfl rfl rfl (rd_ar rfl rfl ((s + j : Nat) : Int) (ai_add (a := s) (b := j) rfl rfl (by omega))) ?_
          refine dobs_val ((31, .slice A n cap) :: (34, .int .i64 ((s + j : Nat) : Int)) :: [(0, .slice A n cap), (1, .slice D m cd), (2, .int .i64 ((s : Nat) : Int)), (8, .int .i64 ((j : Nat) : Int)), (27, .int .i64 ((j : Nat) : Int)), (28, .bool true)]) rfl rfl rfl rfl rfl (rd_idx rfl rfl un_u64 sz_u64 (s + j) rfl (by omega) p25 hp25) ?_
          refine dobs_val ((35, .pointer (some p25)) :: [(0, .slice A n cap), (1, .slice D m cd), (2, .int .i64 ((s : Nat) : Int)), (8, .int .i64 ((j : Nat) : Int)), (27, .int .i64 ((j : Nat) : Int)), (28, .bool true)]) rfl rfl rfl rfl rfl (rd_load rfl (load_cell1 ag_u64 hc25)) ?_
          refine dobs_val ([(0, .slice A n cap), (1, .slice D m cd), (2, .int .i64 ((s : Nat) : Int)), (8, .int .i64 ((j : Nat) : Int)), (27, .int .i64 ((j : Nat) : Int)), (28, .bool true)]) rfl rfl rfl rfl rfl (rd_move rfl) ?_
          refine dobs_val ([(0, .slice A n cap), (1, .slice D m cd), (2, .int .i64 ((s : Nat) : Int)), (8, .int .i64 ((j : Nat) : Int)), (27, .int .i64 ((j : Nat) : Int)), (28, .bool true)]) rfl rfl rfl rfl rfl (rd_move rfl) ?_
          refine dobs_val ((37, .slice D m cd) :: (38, .int .i64 ((j : Nat) : Int)) :: [(0, .slice A n cap), (1, .slice D m cd), (2, .int .i64 ((s : Nat) : Int)), (8, .int .i64 ((j : Nat) : Int)), (27, .int .i64 ((j : Nat) : Int)), (28, .bool true)]) rfl rfl rfl rfl rfl (rd_idx rfl rfl un_u64 sz_u64 j rfl (by omega) p26 hp26) ?_
          refine dobs_val ((39, .pointer (some p26)) :: [(0, .slice A n cap), (1, .slice D m cd), (2, .int .i64 ((s : Nat) : Int)), (8, .int .i64 ((j : Nat) : Int)), (27, .int .i64 ((j : Nat) : Int)), (28, .bool true)]) rfl rfl rfl rfl rfl (rd_load rfl (load_cell1 ag_u64 hc26)) ?_
          refine dobs_val ((36, .int .u64 ((xs.getD (s + j) 0 : Nat) : Int)) :: (40, .int .u64 ((es.getD j 0 : Nat) : Int)) :: [(0, .slice A n cap), (1, .slice D m cd), (2, .int .i64 ((s : Nat) : Int)), (8, .int .i64 ((j : Nat) : Int)), (27, .int .i64 ((j : Nat) : Int)), (28, .bool true)]) rfl rfl rfl rfl rfl (rd_cmp rfl rfl false (cb_ne_f (a := xs.getD (s + j) 0) (b := es.getD j 0) rfl rfl (by omega))) ?_
          exact dobs_nil
        clear hv
        refine eo_keep [(0, .slice A n cap), (1, .slice D m cd), (2, .int .i64 ((s : Nat) : Int)), (8, .int .i64 ((j : Nat) : Int)), (27, .int .i64 ((j : Nat) : Int)), (28, .bool true), (31, .slice A n cap), (32, .int .i64 ((s : Nat) : Int)), (33, .int .i64 ((j : Nat) : Int)), (34, .int .i64 ((s + j : Nat) : Int)), (35, .pointer (some p25)), (36, .int .u64 ((xs.getD (s + j) 0 : Nat) : Int)), (37, .slice D m cd), (38, .int .i64 ((j : Nat) : Int)), (39, .pointer (some p26)), (40, .int .u64 ((es.getD j 0 : Nat) : Int)), (41, .bool false)] ⟨rfl, rfl, rfl, rfl, rfl, rfl, rfl, rfl, rfl, rfl, rfl, rfl, rfl, rfl, rfl, rfl, rfl, trivial⟩ ?_
        refine eo_then ?_
        refine cw_false rfl ?_
        refine cw_skip ?_
        refine eo_block_normal ?_
        refine eo_then ?_
        -- region 6
        refine cw_region ?_
        refine wl_move rfl rfl (by decide) ?_
        refine wl_ar rfl rfl rfl (((j : Nat) : Int) - 1) (ar_i64s rfl (by omega) (by omega)) (by decide) ?_
        refine wl_assign rfl rfl (by decide) ?_
        refine wl_nil ?_
        refine eo_round (⟨v23, j, _⟩ : World × Nat × Int) ⟨hw2, (by omega), rfl, goes_step hlen hle2 hs hwx hwe (by omega) hv (by omega), (rl0.ext e24), (rl1.ext e24)⟩ (show j < j + 1 by omega) rfl ⟨rfl, rfl, rfl, rfl, trivial⟩
    ·
      obtain rfl : k = 0 := by omega
      -- region 5
      refine cw_region ?_
      refine wl_move rfl rfl (by decide) ?_
      refine wl_cmp rfl rfl rfl false (ge_f (by omega)) (by decide) ?_
      refine wl_nil ?_
      refine eo_then ?_
      refine cw_false rfl ?_
      refine cw_exit ?_
      refine eo_thenX ?_
      refine eo_loopX ?_
      refine eo_block_here ?_
      refine eo_then ?_
      refine cw_seq ?_
      -- region 9
      refine cw_region ?_
      refine wl_assign rfl rfl (by decide) ?_
      refine wl_nil ?_
      refine eo_then ?_
      refine cw_ret ?_
      refine eo_ret [.bool true] rfl ⟨rfl, trivial⟩ ?_
      exact ⟨_, rfl, (show Value.bool true = _ by rw [decide_eq_true (goes_eq hlen hle2 hs hwx hwe hv)]), hw1⟩

end Go.Proofs.Ytmaconeeonkdgaa
