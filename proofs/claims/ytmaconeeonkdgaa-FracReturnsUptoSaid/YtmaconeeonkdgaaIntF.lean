/- integers: zint.Euclid and zint.Mod, where the divisor lies above 0 -/
import Derived.Test.YtmaconeeonkdgaaIntE
namespace Go.Proofs.Ytmaconeeonkdgaa
open Go.RowKit

/-- quotient and rest, the rest from 0 on -/
structure Euc (q r x y : Int) : Prop where
  eq : q * y + r = x
  lo : 0 ≤ r
  hi : r < y
theorem euc_same {x y : Int} (h0 : 0 < y) (h : ¬ x.tmod y < 0) : Euc (x.tdiv y) (x.tmod y) x y := by
  have h1 := tmod_abs (x := x) (y := y) (by omega)
  exact ⟨by rw [Int.mul_comm]; exact Int.mul_tdiv_add_tmod x y, by omega, by omega⟩
theorem euc_other {x y : Int} (h0 : 0 < y) (h : x.tmod y < 0) : Euc (x.tdiv y - 1) (x.tmod y + y) x y := by
  have h1 := tmod_abs (x := x) (y := y) (by omega)
  refine ⟨?_, by omega, by omega⟩
  have := Int.mul_tdiv_add_tmod x y
  rw [Int.sub_mul, Int.one_mul, Int.mul_comm]
  omega
def EucP (w : World) (x y : Int) (e : Ending) (w' : World) : Prop := ∃ q r, Hid (Euc q r x y) ∧ RetZZE w q r 0 e w'
set_option maxHeartbeats 8000000 in
theorem zint_Euclid {w : World} {s t : Bool} {A B : Option Addr} {n cap m cap' : Nat} {x y : Int} (hx : Zi w s A n cap x) (hl : n ≤ 68719476736) (hy : Zi w t B m cap' y) (hl' : m ≤ 68719476736) (h0 : 0 < y) :
    Calls Try.prog 89 #[.agg #[.bool s, .slice A n cap], .agg #[.bool t, .slice B m cap']] w (EucP w x y) := by
  have HT : Hid (t = false) := (show _ = _ by rw [hy.sgn (by omega)]; exact decide_eq_false (by omega))
  have H0 := Lib.hid h0
  have LX := Lib.hid (Nat.le_trans hx.ln hl)
  have LY := Lib.hid (Nat.le_trans hy.ln hl')
  clear h0
  obtain rfl := HT.out
  clear HT
  go_enter Try.func89, Try.ntmps89
  go_upto_region 1 with (fail)
  obtain ⟨g, g2, g3, g4, wa, hg4, hg3, hg2, hg, hwa, hb1, hb2, hb3, hb4, hea, l12, l23, l34, l4, n12, n21, n13, n31, n23, n32, n14, n41, n24, n42, n34, n43⟩ := boxes4 w 27 27 27 27 (.bool s) (.slice A n cap) (.bool false) (.slice B m cap') (.bool false) (.slice none 0 0) (.bool false) (.slice none 0 0)
  rw [hg4, hg3, hg2, hg, hwa]
  have hgw : w.heap.size ≤ g := Nat.le_of_eq hg
  clear hwa hg hg2 hg3 hg4
  obtain ⟨f1, f2, f3, f4⟩ := hb1.two
  obtain ⟨h1, h2, h3, h4⟩ := hb2.two
  go_wp2_with fail
  refine (zint_Trunc (hx.ext hea) hl (hy.ext hea) hl' (by have := H0.out; omega)).mono ?_
  rintro e w1 ⟨sq, Aq, nq, cq, sr, Ar, nr, cr, rfl, zq, zr, hx1⟩
  clear f1 f2 f3 f4 h1 h2 h3 h4
  have bq : nq ≤ 68719476736 := zq.le (Nat.le_trans (ln_mono (by rw [Int.natAbs_tdiv]; exact Nat.div_le_self _ _)) LX.out)
  have br : nr ≤ 68719476736 := zr.le (Nat.le_trans (ln_mono (Nat.le_of_lt (tmod_abs (by have := H0.out; omega)))) LY.out)
  go_upto_region 2 with (fail)
  obtain ⟨g7, g8, v1, hg8, hg7, hv1, hb7, hb8, he, l78, l8, n78, n87⟩ := boxN2 w1 27 27 [.bool sq, .slice Aq nq cq] [.bool sr, .slice Ar nr cr]
  rw [hg8, hg7, hv1]
  have hs7 : w1.heap.size ≤ g7 := Nat.le_of_eq hg7
  have zq := zq.ext he
  have zr := zr.ext he
  have x1 := hx1.trans he
  have hb2 := hb2.ext x1
  have hb3 := hb3.ext x1
  have hb4 := hb4.ext x1
  have e1 := hea.trans x1
  have sz1 := hx1.size
  clear hg8 hg7 hv1 he hb1 hx1
  obtain ⟨f1, f2, f3, f4⟩ := hb7.two
  obtain ⟨h1, h2, h3, h4⟩ := hb8.two
  obtain ⟨i1, i2, i3, i4⟩ := hb2.two
  have hn37 : g3 ≠ g7 := by omega
  have hn38 : g3 ≠ g8 := by omega
  have hn47 : g4 ≠ g7 := by omega
  have hn48 : g4 ≠ g8 := by omega
  have hn73 := hn37.symm
  have hn83 := hn38.symm
  have hn74 := hn47.symm
  have hn84 := hn48.symm
  by_cases hr0 : x.tmod y < 0
  · have hsr : sr = true := by rw [zr.sgn]; exact decide_eq_true hr0
    have HF : Hid (Euc (x.tdiv y - 1) (x.tmod y + y) x y) := euc_other H0.out hr0
    subst hsr
    clear hr0
    go_upto_region 6 with (fail)
    obtain ⟨j1, j2, j3, j4⟩ := hb3.two
    obtain ⟨k1, k2, k3, k4⟩ := hb4.two
    go_region_held3 (fun w' => w'.cell? ⟨g7, 0, none⟩ = some (.bool sq) ∧ w'.cell? ⟨g7, 1, none⟩ = some (.slice Aq nq cq) ∧ w'.cell? ⟨g8, 0, none⟩ = some (.bool true) ∧ w'.cell? ⟨g8, 1, none⟩ = some (.slice Ar nr cr) ∧ w'.cell? ⟨g2, 0, none⟩ = some (.bool false) ∧ w'.cell? ⟨g2, 1, none⟩ = some (.slice B m cap')) (go_keep)
      (first
      | (go_at_call 15; refine (zint_Of (v := 1) (by omega)).mono ?_; rintro e w5 ⟨s5, A5, n5, c5, rfl, z5, hx5⟩; have he5 : Ext v1 w5 := Ext.trans (by repeat (first | exact Ext.refl _ | assumption | apply Ext.drewN | apply Ext.drew | apply Ext.alloc)) hx5; have b5 : n5 ≤ 1 := z5.le (by decide +kernel); (try have z9 := z9.ext hx5); clear f1 f2 f3 f4 h1 h2 h3 h4 i1 i2 i3 i4 j1 j2 j3 j4 k1 k2 k3 k4; obtain ⟨f1, f2, f3, f4⟩ := (hb7.ext he5).two; obtain ⟨h1, h2, h3, h4⟩ := (hb8.ext he5).two; obtain ⟨i1, i2, i3, i4⟩ := (hb2.ext he5).two; obtain ⟨j1, j2, j3, j4⟩ := (hb3.ext he5).two; obtain ⟨k1, k2, k3, k4⟩ := (hb4.ext he5).two)
      | (go_at_call 16; (with_reducible refine (zint_Sub (zq.zi.ext (by repeat (first | exact Ext.refl _ | assumption | apply Ext.drewN | apply Ext.drew | apply Ext.alloc))) (by omega) z5.zi (by omega)).mono ?_); rintro e w6 ⟨s6, A6, n6, c6, rfl, z6, hx6⟩; have he6 : Ext v1 w6 := Ext.trans (by repeat (first | exact Ext.refl _ | assumption | apply Ext.drewN | apply Ext.drew | apply Ext.alloc)) hx6; (try have z9 := z9.ext hx6); clear f1 f2 f3 f4 h1 h2 h3 h4 i1 i2 i3 i4 j1 j2 j3 j4 k1 k2 k3 k4; obtain ⟨f1, f2, f3, f4⟩ := (hb7.ext he6).two; obtain ⟨h1, h2, h3, h4⟩ := (hb8.ext he6).two; obtain ⟨i1, i2, i3, i4⟩ := (hb2.ext he6).two; obtain ⟨j1, j2, j3, j4⟩ := (hb3.ext he6).two; obtain ⟨k1, k2, k3, k4⟩ := (hb4.ext he6).two)
      | (go_at_call 24; (with_reducible refine (zint_Add (zr.zi.ext (by repeat (first | exact Ext.refl _ | assumption | apply Ext.drewN | apply Ext.drew | apply Ext.alloc))) (by omega) (hy.ext (e1.trans (by repeat (first | exact Ext.refl _ | assumption | apply Ext.drewN | apply Ext.drew | apply Ext.alloc)))) (by omega)).mono ?_); rintro e w9 ⟨s9, A9, n9, c9, rfl, z9, hx9⟩; have he9 : Ext v1 w9 := Ext.trans (by repeat (first | exact Ext.refl _ | assumption | apply Ext.drewN | apply Ext.drew | apply Ext.alloc)) hx9; (try have z5 := z5.ext hx9); (try have z6 := z6.ext hx9); clear f1 f2 f3 f4 h1 h2 h3 h4 i1 i2 i3 i4 j1 j2 j3 j4 k1 k2 k3 k4; obtain ⟨f1, f2, f3, f4⟩ := (hb7.ext he9).two; obtain ⟨h1, h2, h3, h4⟩ := (hb8.ext he9).two; obtain ⟨i1, i2, i3, i4⟩ := (hb2.ext he9).two; obtain ⟨j1, j2, j3, j4⟩ := (hb3.ext he9).two; obtain ⟨k1, k2, k3, k4⟩ := (hb4.ext he9).two))
    all_goals
      clear f1 f2 f3 f4 h1 h2 h3 h4 i1 i2 i3 i4 j1 j2 j3 j4 k1 k2 k3 k4
      first
      | (obtain ⟨wb, hwb⟩ : ∃ wb, (((w6.setCell ⟨g3, 0, none⟩ (.bool s6)).setCell ⟨g3, 1, none⟩ (.slice A6 n6 c6)).setCell ⟨g4, 0, none⟩ (.bool s9)).setCell ⟨g4, 1, none⟩ (.slice A9 n9 c9) = wb := ⟨_, rfl⟩
         rw [hwb]
         have hL := he6)
      | (obtain ⟨wb, hwb⟩ : ∃ wb, (((w9.setCell ⟨g3, 0, none⟩ (.bool s6)).setCell ⟨g3, 1, none⟩ (.slice A6 n6 c6)).setCell ⟨g4, 0, none⟩ (.bool s9)).setCell ⟨g4, 1, none⟩ (.slice A9 n9 c9) = wb := ⟨_, rfl⟩
         rw [hwb]
         have hL := he9)
      have s1 := he5.size
      have s2 := he6.size
      have s3 := he9.size
      have s4 : wa.heap.size ≤ v1.heap.size := x1.size
      have q3 : Bk wb g3 27 [.bool s6, .slice A6 n6 c6] := by rw [← hwb]; exact ((hb3.ext hL).two_set _ _).two_far n34 _ _
      have q4 : Bk wb g4 27 [.bool s9, .slice A9 n9 c9] := by rw [← hwb]; exact ((hb4.ext hL).two_far n43 _ _).two_set _ _
      have r5 : Zr wb w.heap.size s6 A6 n6 c6 (x.tdiv y - 1) := by
        rw [← hwb]
        exact ((z6.upd (by first | omega | (simp; omega)) (Upd.two _ _)).upd (by first | omega | (simp; omega)) (Upd.two _ _)).mono (by first | omega | (simp; omega))
      have r6 : Zr wb w.heap.size s9 A9 n9 c9 (x.tmod y + y) := by
        rw [← hwb]
        exact ((z9.upd (by first | omega | (simp; omega)) (Upd.two _ _)).upd (by first | omega | (simp; omega)) (Upd.two _ _)).mono (by first | omega | (simp; omega))
      have eb : Ext w wb := by rw [← hwb]; exact (Upd.two _ _).ext ((Upd.two _ _).ext (e1.trans hL) (by omega)) (by omega)
      clear hwb
      go_wp2_with fail
      refine bodyPost_ret (res_iie rfl rfl rfl rfl q3 q4) rfl ?_
      exact ⟨_, _, HF, s6, A6, n6, c6, s9, A9, n9, c9, rfl, r5, r6, eb⟩
  · have hsr : sr = false := by rw [zr.sgn]; exact decide_eq_false hr0
    have HF : Hid (Euc (x.tdiv y) (x.tmod y) x y) := euc_same H0.out hr0
    subst hsr
    clear hr0
    go_upto_region 3 with (fail)
    clear f1 f2 f3 f4 h1 h2 h3 h4 i1 i2 i3 i4
    obtain ⟨f1, f2, f3, f4⟩ := hb7.two
    obtain ⟨h1, h2, h3, h4⟩ := hb8.two
    obtain ⟨i1, i2, i3, i4⟩ := hb3.two
    obtain ⟨k1, k2, k3, k4⟩ := hb4.two
    go_region_held3 (fun w' => w'.cell? ⟨g7, 0, none⟩ = some (.bool sq) ∧ w'.cell? ⟨g7, 1, none⟩ = some (.slice Aq nq cq) ∧ w'.cell? ⟨g8, 0, none⟩ = some (.bool false) ∧ w'.cell? ⟨g8, 1, none⟩ = some (.slice Ar nr cr)) (go_keep) (fail)
    all_goals
      go_wp2_with fail
      first
      | (refine bodyPost_ret (res_iie rfl rfl rfl rfl (((hb3.drew).two_set _ _).two_far n34 _ _) (((hb4.drew).two_far n43 _ _).two_set _ _)) rfl ?_
         exact ⟨x.tdiv y, x.tmod y, HF, _, _, _, _, _, _, _, _, rfl, (((zq.ext (Ext.refl _).drew).upd (by omega) (Upd.two _ _)).upd (by omega) (Upd.two _ _)).mono (by omega), (((zr.ext (Ext.refl _).drew).upd (by omega) (Upd.two _ _)).upd (by omega) (Upd.two _ _)).mono (by omega), (Upd.two _ _).ext ((Upd.two _ _).ext e1.drew (by omega)) (by omega)⟩)
      | (refine bodyPost_ret (res_iie rfl rfl rfl rfl (((hb3.drew).two_far n34 _ _).two_set _ _) (((hb4.drew).two_set _ _).two_far n43 _ _)) rfl ?_
         exact ⟨x.tdiv y, x.tmod y, HF, _, _, _, _, _, _, _, _, rfl, (((zq.ext (Ext.refl _).drew).upd (by omega) (Upd.two _ _)).upd (by omega) (Upd.two _ _)).mono (by omega), (((zr.ext (Ext.refl _).drew).upd (by omega) (Upd.two _ _)).upd (by omega) (Upd.two _ _)).mono (by omega), (Upd.two _ _).ext ((Upd.two _ _).ext e1.drew (by omega)) (by omega)⟩)
def ModP (w : World) (x y : Int) (e : Ending) (w' : World) : Prop := ∃ q r, Hid (Euc q r x y) ∧ RetZE w r 0 e w'
theorem zint_Mod {w : World} {s t : Bool} {A B : Option Addr} {n cap m cap' : Nat} {x y : Int} (hx : Zi w s A n cap x) (hl : n ≤ 68719476736) (hy : Zi w t B m cap' y) (hl' : m ≤ 68719476736) (h0 : 0 < y) :
    Calls Try.prog 69 #[.agg #[.bool s, .slice A n cap], .agg #[.bool t, .slice B m cap']] w (ModP w x y) := by
  have H0 := Lib.hid h0
  clear h0
  go_enter Try.func69, Try.ntmps69
  go_upto_region 1 with (fail)
  obtain ⟨g, g2, g3, wa, hg3, hg2, hg, hwa, hb1, hb2, hb3, hea, l12, l23, l3, n12, n21, n13, n31, n23, n32⟩ := boxes3 w 27 27 27 (.bool s) (.slice A n cap) (.bool t) (.slice B m cap') (.bool false) (.slice none 0 0)
  rw [hg3, hg2, hg, hwa]
  have hgw : w.heap.size ≤ g := Nat.le_of_eq hg
  clear hwa hg hg2 hg3
  obtain ⟨f1, f2, f3, f4⟩ := hb1.two
  obtain ⟨h1, h2, h3, h4⟩ := hb2.two
  go_wp2_with fail
  refine (zint_Euclid (hx.ext hea) hl (hy.ext hea) hl' H0.out).mono ?_
  rintro e w1 ⟨q, r, HF, sq, Aq, nq, cq, sr, Ar, nr, cr, rfl, zq, zr, hx1⟩
  clear f1 f2 f3 f4 h1 h2 h3 h4
  go_upto_region 2 with (fail)
  obtain ⟨g7, g8, v1, hg8, hg7, hv1, hb7, hb8, he, l78, l8, n78, n87⟩ := boxN2 w1 27 27 [.bool sq, .slice Aq nq cq] [.bool sr, .slice Ar nr cr]
  rw [hg8, hg7, hv1]
  have zr := zr.ext he
  have x1 := hx1.trans he
  have hb3 := hb3.ext x1
  have e1 := hea.trans x1
  clear hg8 hg7 hv1 he hb1 hx1
  obtain ⟨f1, f2, f3, f4⟩ := hb8.two
  obtain ⟨h1, h2, h3, h4⟩ := hb3.two
  go_wp2_with fail
  refine bodyPost_ret (res_ie rfl rfl rfl (hb3.two_set _ _)) rfl ?_
  exact ⟨q, r, HF, _, _, _, _, rfl, (zr.upd (by omega) (Upd.two _ _)).mono (by omega), (Upd.two _ _).ext e1 (by omega)⟩
end Go.Proofs.Ytmaconeeonkdgaa
