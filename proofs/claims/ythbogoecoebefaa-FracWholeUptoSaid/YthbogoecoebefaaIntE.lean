/- integers: zint.Floor -/
import Derived.Test.YthbogoecoebefaaIntD
namespace Go.Proofs.Ythbogoecoebefaa
open Go.RowKit

theorem Zi.sgn {w : World} {s : Bool} {A : Option Addr} {n cap : Nat} {z : Int} (h : Zi w s A n cap z) (h0 : z ≠ 0) : s = decide (z < 0) := by
  obtain ⟨xs, _, rfl⟩ := h
  have hm : nv xs ≠ 0 := fun e => h0 (sg_eq_zero.2 e)
  rw [sg_lt, decide_eq_true (show 0 < nv xs by omega), Bool.and_true]
theorem boxN2 (w : World) (t t' : TypeId) (l l' : List Value) : ∃ g g2 wa, w.heap.size + 1 = g2 ∧ w.heap.size = g ∧ (w.alloc (.cells l.toArray t)).alloc (.cells l'.toArray t') = wa ∧ Bk wa g t l ∧ Bk wa g2 t' l' ∧ Ext w wa ∧ g < g2 ∧ g2 < wa.heap.size ∧ g ≠ g2 ∧ g2 ≠ g := by
  refine ⟨_, _, _, rfl, rfl, rfl, (Bk.new w t l).alloc _, ?_, ((Ext.refl w).alloc _).alloc _, by omega, by simp, by omega, by omega⟩
  have := Bk.new (w.alloc (.cells l.toArray t)) t' l'
  simpa using this
theorem Zr.upd_hi {w0 w w' : World} {base base' g : Nat} {s : Bool} {A : Option Addr} {n cap : Nat} {z z' : Int} (h0 : Zr w0 base' s A n cap z') (hw : w0.heap.size ≤ g) (h : Zr w base s A n cap z) (e : Upd g w w') : Zr w' base s A n cap z :=
  ⟨h.sgn, h.len, h.own.upd e (fun a ha => by have := (h0.own.block a ha).2; omega)⟩
/-- quotient and rest, the rest on the divisor's side -/
def FloP (w : World) (x y : Int) (e : Ending) (w' : World) : Prop := ∃ q r, Hid (Flo q r x y) ∧ RetZZE w q r 0 e w'
set_option maxHeartbeats 8000000 in
theorem zint_Floor {w : World} {s t : Bool} {A B : Option Addr} {n cap m cap' : Nat} {x y : Int} (hx : Zi w s A n cap x) (hl : n ≤ 68719476736) (hy : Zi w t B m cap' y) (hl' : m ≤ 68719476736) (h0 : y ≠ 0) :
    Calls Try.prog 54 #[.agg #[.bool s, .slice A n cap], .agg #[.bool t, .slice B m cap']] w (FloP w x y) := by
  have HT := Lib.hid (hy.sgn h0)
  have H0 := Lib.hid h0
  have LX := Lib.hid (Nat.le_trans hx.ln hl)
  have LY := Lib.hid (Nat.le_trans hy.ln hl')
  clear h0
  go_enter Try.func54, Try.ntmps54
  go_upto_region 1 with (fail)
  obtain ⟨g, g2, g3, g4, wa, hg4, hg3, hg2, hg, hwa, hb1, hb2, hb3, hb4, hea, l12, l23, l34, l4, n12, n21, n13, n31, n23, n32, n14, n41, n24, n42, n34, n43⟩ := boxes4 w 24 24 24 24 (.bool s) (.slice A n cap) (.bool t) (.slice B m cap') (.bool false) (.slice none 0 0) (.bool false) (.slice none 0 0)
  rw [hg4, hg3, hg2, hg, hwa]
  have hgw : w.heap.size ≤ g := Nat.le_of_eq hg
  clear hwa hg hg2 hg3 hg4
  obtain ⟨f1, f2, f3, f4⟩ := hb1.two
  obtain ⟨h1, h2, h3, h4⟩ := hb2.two
  go_wp2_with fail
  refine (zint_Trunc (hx.ext hea) hl (hy.ext hea) hl' H0.out).mono ?_
  rintro e w1 ⟨sq, Aq, nq, cq, sr, Ar, nr, cr, rfl, zq, zr, hx1⟩
  clear f1 f2 f3 f4 h1 h2 h3 h4
  have bq : nq ≤ 68719476736 := zq.le (Nat.le_trans (ln_mono (by rw [Int.natAbs_tdiv]; exact Nat.div_le_self _ _)) LX.out)
  have br : nr ≤ 68719476736 := zr.le (Nat.le_trans (ln_mono (Nat.le_of_lt (tmod_abs H0.out))) LY.out)
  go_upto_region 2 with (fail)
  obtain ⟨g7, g8, v1, hg8, hg7, hv1, hb7, hb8, he, l78, l8, n78, n87⟩ := boxN2 w1 24 24 [.bool sq, .slice Aq nq cq] [.bool sr, .slice Ar nr cr]
  rw [hg8, hg7, hv1]
  have hs7 : w1.heap.size ≤ g7 := Nat.le_of_eq hg7
  have zr1 := zr
  have zq := zq.ext he
  have zr := zr.ext he
  have x1 := hx1.trans he
  have hb2 := hb2.ext x1
  have hb3 := hb3.ext x1
  have hb4 := hb4.ext x1
  have e1 := hea.trans x1
  have sz1 := hx1.size
  clear hg8 hg7 hv1 he hb1 hx1
  obtain ⟨f1, f2, f3, f4⟩ := hb7.two
  obtain ⟨h1, h2, h3, h4⟩ := hb8.two
  obtain ⟨i1, i2, i3, i4⟩ := hb2.two
  have hn37 : g3 ≠ g7 := by omega
  have hn38 : g3 ≠ g8 := by omega
  have hn47 : g4 ≠ g7 := by omega
  have hn48 : g4 ≠ g8 := by omega
  have hn27 : g2 ≠ g7 := by omega
  have hn28 : g2 ≠ g8 := by omega
  have hn73 := hn37.symm
  have hn83 := hn38.symm
  have hn74 := hn47.symm
  have hn84 := hn48.symm
  by_cases hr0 : x.tmod y = 0
  · obtain rfl : nr = 0 := by rw [zr.len, hr0]; rfl
    have HF : Hid (Flo (x.tdiv y) (x.tmod y) x y) := flo_same H0.out (Or.inl hr0)
    clear hr0
    go_upto_region 5 with (fail)
    clear f1 f2 f3 f4 h1 h2 h3 h4 i1 i2 i3 i4
    obtain ⟨f1, f2, f3, f4⟩ := hb7.two
    obtain ⟨h1, h2, h3, h4⟩ := hb8.two
    obtain ⟨i1, i2, i3, i4⟩ := hb3.two
    obtain ⟨k1, k2, k3, k4⟩ := hb4.two
    go_region_held3 (fun w' => w'.cell? ⟨g7, 0, none⟩ = some (.bool sq) ∧ w'.cell? ⟨g7, 1, none⟩ = some (.slice Aq nq cq) ∧ w'.cell? ⟨g8, 0, none⟩ = some (.bool sr) ∧ w'.cell? ⟨g8, 1, none⟩ = some (.slice Ar 0 cr)) (go_keep) (fail)
    all_goals
      go_wp2_with fail
      first
      | (refine bodyPost_ret (res_iie rfl rfl rfl rfl (((hb3.drew).two_set _ _).two_far n34 _ _) (((hb4.drew).two_far n43 _ _).two_set _ _)) rfl ?_
         exact ⟨x.tdiv y, x.tmod y, HF, _, _, _, _, _, _, _, _, rfl, (((zq.ext (Ext.refl _).drew).upd (by omega) (Upd.two _ _)).upd (by omega) (Upd.two _ _)).mono (by omega), (((zr.ext (Ext.refl _).drew).upd (by omega) (Upd.two _ _)).upd (by omega) (Upd.two _ _)).mono (by omega), (Upd.two _ _).ext ((Upd.two _ _).ext e1.drew (by omega)) (by omega)⟩)
      | (refine bodyPost_ret (res_iie rfl rfl rfl rfl (((hb3.drew).two_far n34 _ _).two_set _ _) (((hb4.drew).two_set _ _).two_far n43 _ _)) rfl ?_
         exact ⟨x.tdiv y, x.tmod y, HF, _, _, _, _, _, _, _, _, rfl, (((zq.ext (Ext.refl _).drew).upd (by omega) (Upd.two _ _)).upd (by omega) (Upd.two _ _)).mono (by omega), (((zr.ext (Ext.refl _).drew).upd (by omega) (Upd.two _ _)).upd (by omega) (Upd.two _ _)).mono (by omega), (Upd.two _ _).ext ((Upd.two _ _).ext e1.drew (by omega)) (by omega)⟩)
  · have hnn : 0 < nr := by
      have : nr ≠ 0 := fun e => hr0 (by have h := zr.len; rw [e] at h; have := len_wd_zero.1 h.symm; omega)
      omega
    have hn : 0 < (nr : Int) := by omega
    by_cases hss : sr = t
    · have bs : (sr == t) = true := by rw [hss]; cases t <;> rfl
      have HF : Hid (Flo (x.tdiv y) (x.tmod y) x y) := flo_same H0.out (Or.inr (by rw [← zr.sgn, ← HT.out, hss]))
      clear hr0 hss
      go_upto_region 5 with (fail)
      clear f1 f2 f3 f4 h1 h2 h3 h4 i1 i2 i3 i4
      obtain ⟨f1, f2, f3, f4⟩ := hb7.two
      obtain ⟨h1, h2, h3, h4⟩ := hb8.two
      obtain ⟨i1, i2, i3, i4⟩ := hb3.two
      obtain ⟨k1, k2, k3, k4⟩ := hb4.two
      go_region_held3 (fun w' => w'.cell? ⟨g7, 0, none⟩ = some (.bool sq) ∧ w'.cell? ⟨g7, 1, none⟩ = some (.slice Aq nq cq) ∧ w'.cell? ⟨g8, 0, none⟩ = some (.bool sr) ∧ w'.cell? ⟨g8, 1, none⟩ = some (.slice Ar nr cr)) (go_keep) (fail)
      all_goals
        go_wp2_with fail
        first
        | (refine bodyPost_ret (res_iie rfl rfl rfl rfl (((hb3.drew).two_set _ _).two_far n34 _ _) (((hb4.drew).two_far n43 _ _).two_set _ _)) rfl ?_
           exact ⟨x.tdiv y, x.tmod y, HF, _, _, _, _, _, _, _, _, rfl, (((zq.ext (Ext.refl _).drew).upd (by omega) (Upd.two _ _)).upd (by omega) (Upd.two _ _)).mono (by omega), (((zr.ext (Ext.refl _).drew).upd (by omega) (Upd.two _ _)).upd (by omega) (Upd.two _ _)).mono (by omega), (Upd.two _ _).ext ((Upd.two _ _).ext e1.drew (by omega)) (by omega)⟩)
        | (refine bodyPost_ret (res_iie rfl rfl rfl rfl (((hb3.drew).two_far n34 _ _).two_set _ _) (((hb4.drew).two_set _ _).two_far n43 _ _)) rfl ?_
           exact ⟨x.tdiv y, x.tmod y, HF, _, _, _, _, _, _, _, _, rfl, (((zq.ext (Ext.refl _).drew).upd (by omega) (Upd.two _ _)).upd (by omega) (Upd.two _ _)).mono (by omega), (((zr.ext (Ext.refl _).drew).upd (by omega) (Upd.two _ _)).upd (by omega) (Upd.two _ _)).mono (by omega), (Upd.two _ _).ext ((Upd.two _ _).ext e1.drew (by omega)) (by omega)⟩)
    · have bs : (sr == t) = false := by cases sr <;> cases t <;> simp_all
      have HF : Hid (Flo (x.tdiv y - 1) (x.tmod y + y) x y) := flo_other H0.out hr0 (by rw [← zr.sgn, ← HT.out]; exact hss)
      clear hr0 hss
      go_upto_region 3 with (fail)
      go_region_with (first
        | (go_at_call 9; refine (zint_Of (v := 1) (by omega)).mono ?_; rintro e w5 ⟨s5, A5, n5, c5, rfl, z5, hx5⟩; have b5 : n5 ≤ 1 := z5.le (by decide +kernel); have he5 : Ext v1 w5 := Ext.trans (by repeat (first | exact Ext.refl _ | assumption | apply Ext.drewN | apply Ext.drew | apply Ext.alloc)) hx5; clear f1 f2 f3 f4 h1 h2 h3 h4 i1 i2 i3 i4; obtain ⟨f1, f2, f3, f4⟩ := (hb7.ext he5).two)
        | (go_at_call 19; refine (zint_Sub (zq.zi.ext (by repeat (first | exact Ext.refl _ | assumption | apply Ext.drewN | apply Ext.drew | apply Ext.alloc))) (by omega) z5.zi (by omega)).mono ?_; rintro e w6 ⟨s6, A6, n6, c6, rfl, z6, hx6⟩; have he6 : Ext v1 w6 := he5.trans hx6; clear f1 f2 f3 f4; obtain ⟨f1, f2, f3, f4⟩ := (hb7.ext he6).two))
      all_goals
        clear f1 f2 f3 f4
        obtain ⟨wb, hwb⟩ : ∃ wb, (w6.setCell ⟨g7, 0, none⟩ (.bool s6)).setCell ⟨g7, 1, none⟩ (.slice A6 n6 c6) = wb := ⟨_, rfl⟩
        rw [hwb]
        have sz5 := he5.size
        have q7 : Bk wb g7 24 [.bool s6, .slice A6 n6 c6] := by rw [← hwb]; exact (hb7.ext he6).two_set _ _
        have q8 : Bk wb g8 24 [.bool sr, .slice Ar nr cr] := by rw [← hwb]; exact (hb8.ext he6).two_far n87 _ _
        have q2 : Bk wb g2 24 [.bool t, .slice B m cap'] := by rw [← hwb]; exact (hb2.ext he6).two_far hn27 _ _
        have q3 : Bk wb g3 24 [.bool false, .slice none 0 0] := by rw [← hwb]; exact (hb3.ext he6).two_far hn37 _ _
        have q4 : Bk wb g4 24 [.bool false, .slice none 0 0] := by rw [← hwb]; exact (hb4.ext he6).two_far hn47 _ _
        have y6 : Zr wb w5.heap.size s6 A6 n6 c6 (x.tdiv y - 1) := by rw [← hwb]; exact z6.upd (by omega) (Upd.two _ _)
        have yr : Zr wb wa.heap.size sr Ar nr cr (x.tmod y) := by rw [← hwb]; exact Zr.upd_hi zr1 hs7 (zr.ext he6) (Upd.two _ _)
        have eb : Ext w wb := by rw [← hwb]; exact (Upd.two _ _).ext (e1.trans he6) (by omega)
        have szb : w6.heap.size ≤ wb.heap.size := by rw [← hwb]; simp [World.setCell]
        have sz6 := hx6.size
        clear hwb
        obtain ⟨h1, h2, h3, h4⟩ := q8.two
        obtain ⟨i1, i2, i3, i4⟩ := q2.two
        go_wp2_with fail
        refine (zint_Add yr.zi (by omega) (hy.ext eb) (by omega)).mono ?_
        rintro e w7 ⟨s9, A9, n9, c9, rfl, z9, hx7⟩
        clear h1 h2 h3 h4 i1 i2 i3 i4
        obtain ⟨h1, h2, h3, h4⟩ := (q8.ext hx7).two
        go_upto_region 5 with (fail)
        clear h1 h2 h3 h4
        obtain ⟨wc, hwc⟩ : ∃ wc, (w7.setCell ⟨g8, 0, none⟩ (.bool s9)).setCell ⟨g8, 1, none⟩ (.slice A9 n9 c9) = wc := ⟨_, rfl⟩
        rw [hwc]
        have u7 : Bk wc g7 24 [.bool s6, .slice A6 n6 c6] := by rw [← hwc]; exact (q7.ext hx7).two_far n78 _ _
        have u8 : Bk wc g8 24 [.bool s9, .slice A9 n9 c9] := by rw [← hwc]; exact (q8.ext hx7).two_set _ _
        have u3 : Bk wc g3 24 [.bool false, .slice none 0 0] := by rw [← hwc]; exact (q3.ext hx7).two_far hn38 _ _
        have u4 : Bk wc g4 24 [.bool false, .slice none 0 0] := by rw [← hwc]; exact (q4.ext hx7).two_far hn48 _ _
        have t6 : Zr wc w5.heap.size s6 A6 n6 c6 (x.tdiv y - 1) := by rw [← hwc]; exact (y6.ext hx7).upd (by omega) (Upd.two _ _)
        have t9 : Zr wc wb.heap.size s9 A9 n9 c9 (x.tmod y + y) := by rw [← hwc]; exact z9.upd (by omega) (Upd.two _ _)
        have ec : Ext w wc := by rw [← hwc]; exact (Upd.two _ _).ext (eb.trans hx7) (by omega)
        clear hwc q7 q8 q2 q3 q4
        obtain ⟨f1, f2, f3, f4⟩ := u7.two
        obtain ⟨h1, h2, h3, h4⟩ := u8.two
        obtain ⟨i1, i2, i3, i4⟩ := u3.two
        obtain ⟨k1, k2, k3, k4⟩ := u4.two
        go_region_held3 (fun w' => w'.cell? ⟨g7, 0, none⟩ = some (.bool s6) ∧ w'.cell? ⟨g7, 1, none⟩ = some (.slice A6 n6 c6) ∧ w'.cell? ⟨g8, 0, none⟩ = some (.bool s9) ∧ w'.cell? ⟨g8, 1, none⟩ = some (.slice A9 n9 c9)) (go_keep) (fail)
        all_goals
          go_wp2_with fail
          first
          | (refine bodyPost_ret (res_iie rfl rfl rfl rfl (((u3.drew).two_set _ _).two_far n34 _ _) (((u4.drew).two_far n43 _ _).two_set _ _)) rfl ?_
             exact ⟨x.tdiv y - 1, x.tmod y + y, HF, _, _, _, _, _, _, _, _, rfl, (((t6.ext (Ext.refl _).drew).upd (by omega) (Upd.two _ _)).upd (by omega) (Upd.two _ _)).mono (by omega), (((t9.ext (Ext.refl _).drew).upd (by omega) (Upd.two _ _)).upd (by omega) (Upd.two _ _)).mono (by omega), (Upd.two _ _).ext ((Upd.two _ _).ext ec.drew (by omega)) (by omega)⟩)
          | (refine bodyPost_ret (res_iie rfl rfl rfl rfl (((u3.drew).two_far n34 _ _).two_set _ _) (((u4.drew).two_set _ _).two_far n43 _ _)) rfl ?_
             exact ⟨x.tdiv y - 1, x.tmod y + y, HF, _, _, _, _, _, _, _, _, rfl, (((t6.ext (Ext.refl _).drew).upd (by omega) (Upd.two _ _)).upd (by omega) (Upd.two _ _)).mono (by omega), (((t9.ext (Ext.refl _).drew).upd (by omega) (Upd.two _ _)).upd (by omega) (Upd.two _ _)).mono (by omega), (Upd.two _ _).ext ((Upd.two _ _).ext ec.drew (by omega)) (by omega)⟩)
end Go.Proofs.Ythbogoecoebefaa
