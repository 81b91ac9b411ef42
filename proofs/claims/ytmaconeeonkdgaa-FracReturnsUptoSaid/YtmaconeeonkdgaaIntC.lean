/- integers: exact division, greatest common divisor, an int64 as an integer -/
import Derived.Test.YtmaconeeonkdgaaIntB
namespace Go.Proofs.Ytmaconeeonkdgaa
open Go.RowKit

theorem zint_Exact {w : World} {s t : Bool} {A B : Option Addr} {n cap m cap' : Nat} {x y : Int} (hx : Zi w s A n cap x) (hl : n ≤ 68719476736) (hy : Zi w t B m cap' y) (hl' : m ≤ 68719476736) (h0 : y ≠ 0) (h1 : y ∣ x) :
    Calls Try.prog 60 #[.agg #[.bool s, .slice A n cap], .agg #[.bool t, .slice B m cap']] w (RetZE w (x.tdiv y) 0) := by
  obtain ⟨xs, hr, rfl⟩ := hx
  obtain ⟨ys, hq, rfl⟩ := hy
  have hz : nv ys ≠ 0 := fun e => h0 (sg_eq_zero.2 e)
  have hd : nv xs % nv ys = 0 := by
    have := Int.natAbs_dvd_natAbs.2 h1
    rw [sg_abs, sg_abs] at this
    exact Nat.mod_eq_zero_of_dvd this
  have HZ := Lib.hid hz
  have HD := Lib.hid hd
  clear hz h0 hd h1
  go_enter Try.func60, Try.ntmps60
  go_upto_region 1 with (fail)
  obtain ⟨g, g2, g3, wa, hg3, hg2, hg, hwa, hb1, hb2, hb3, hea, l12, l23, l3, n12, n21, n13, n31, n23, n32⟩ := boxes3 w 27 27 27 (.bool s) (.slice A n cap) (.bool t) (.slice B m cap') (.bool false) (.slice none 0 0)
  rw [hg3, hg2, hg, hwa]
  have hgw : w.heap.size ≤ g := Nat.le_of_eq hg
  clear hwa hg hg2 hg3
  obtain ⟨f1, f2, f3, f4⟩ := hb1.two
  obtain ⟨h1, h2, h3, h4⟩ := hb2.two
  obtain ⟨k1, k2, k3, k4⟩ := hb3.two
  go_wp2_with fail
  refine (divnat_Exact (hr.ext hea) (by omega) (hq.ext hea) (by omega) HZ.out HD.out).mono ?_
  rintro e w1 ⟨A1, n1, c1, rfl, hn1, hr1, ho1, hx1⟩
  have hb1 := hb1.ext hx1
  have hb2 := hb2.ext hx1
  have hb3 := hb3.ext hx1
  have he1 := hea.trans hx1
  have hsz := hx1.size
  clear f1 f2 f3 f4 h1 h2 h3 h4 k1 k2 k3 k4
  obtain ⟨f1, f2, f3, f4⟩ := hb1.two
  obtain ⟨h1, h2, h3, h4⟩ := hb2.two
  obtain ⟨k1, k2, k3, k4⟩ := hb3.two
  go_wp2_with fail
  refine (zint_of hn1.out).mono ?_
  rintro e w2 ⟨s', rfl, hs', hx2⟩
  have hd3 := hb3.ext hx2
  clear f1 f2 f3 f4 h1 h2 h3 h4 k1 k2 k3 k4
  obtain ⟨k1, k2, k3, k4⟩ := hd3.two
  go_wp2_with fail
  refine bodyPost_ret (res_ie rfl rfl rfl (hd3.two_set _ _)) rfl ?_
  obtain ⟨s4, A4, n4, c4, he, hz, hx⟩ := fin_int (w := w) hd3 ((Zr_of hs'.out hn1.out ho1 (sg_tdiv _ _ _ _)).ext hx2) (by omega) (by omega) (he1.trans hx2)
  cases he
  exact ⟨_, _, _, _, rfl, hz, hx⟩

theorem bezout_Gcd {w : World} {s t : Bool} {A B : Option Addr} {n cap m cap' : Nat} {x y : Int} (hx : Zi w s A n cap x) (hl : n ≤ 68719476736) (hy : Zi w t B m cap' y) (hl' : m ≤ 68719476736) :
    Calls Try.prog 38 #[.agg #[.bool s, .slice A n cap], .agg #[.bool t, .slice B m cap']] w (RetZ w (Int.gcd x y : Int)) := by
  obtain ⟨xs, hr, rfl⟩ := hx
  obtain ⟨ys, hq, rfl⟩ := hy
  go_enter Try.func38, Try.ntmps38
  go_upto_region 1 with (fail)
  obtain ⟨g, g2, g3, wa, hg3, hg2, hg, hwa, hb1, hb2, hb3, hea, l12, l23, l3, n12, n21, n13, n31, n23, n32⟩ := boxes3 w 27 27 27 (.bool s) (.slice A n cap) (.bool t) (.slice B m cap') (.bool false) (.slice none 0 0)
  rw [hg3, hg2, hg, hwa]
  have hgw : w.heap.size ≤ g := Nat.le_of_eq hg
  clear hwa hg hg2 hg3
  obtain ⟨f1, f2, f3, f4⟩ := hb1.two
  obtain ⟨h1, h2, h3, h4⟩ := hb2.two
  obtain ⟨k1, k2, k3, k4⟩ := hb3.two
  go_wp2_with fail
  refine (divnat_Gcd (hr.ext hea) (by omega) (hq.ext hea) (by omega)).mono ?_
  rintro e w1 ⟨A1, n1, c1, rfl, hn1, hr1, ho1, hx1⟩
  have hd3 := hb3.ext hx1
  clear f1 f2 f3 f4 h1 h2 h3 h4 k1 k2 k3 k4
  obtain ⟨k1, k2, k3, k4⟩ := hd3.two
  go_wp2_with fail
  refine bodyPost_ret (res_int rfl rfl (hd3.two_set _ _)) rfl ?_
  refine fin_int hd3 (Zr_of (s := false) (m := Nat.gcd (nv xs) (nv ys)) ?_ hn1.out ho1 ?_) (by omega) (by omega) (hea.trans hx1)
  · rw [sg_false]; simp
  · rw [sg_false, Int.gcd, sg_abs, sg_abs]

theorem zint_Of {w : World} {v : Nat} (hv : v ≤ 9223372036854775807) :
    Calls Try.prog 15 #[.int .i64 (v : Int)] w (RetZ w ((v : Int))) := by
  have hn : ¬ (v : Int) < 0 := by omega
  go_enter Try.func15, Try.ntmps15
  go_upto_region 3 with (fail)
  obtain ⟨g, hg⟩ : ∃ g, w.heap.size = g := ⟨_, rfl⟩
  obtain ⟨wa, hwa⟩ : ∃ wa, w.alloc (.cells #[.bool false, .slice none 0 0] 27) = wa := ⟨_, rfl⟩
  rw [hg, hwa]
  have hb : Bk wa g 27 [.bool false, .slice none 0 0] := by rw [← hwa, ← hg]; exact Bk.new w 27 [.bool false, .slice none 0 0]
  have hea : Ext w wa := by rw [← hwa]; exact (Ext.refl w).alloc _
  have hga : w.heap.size ≤ g := Nat.le_of_eq hg
  have hgl : g < wa.heap.size := hb.lt
  clear hwa hg
  obtain ⟨k1, k2, k3, k4⟩ := hb.two
  have h1 : Rd (wa.alloc (.cells #[.int .u64 (v : Int)] 47)) (some ⟨wa.heap.size, 0, none⟩) 1 1 [v] := Rd.one wa (by omega)
  go_wp2_with fail
  refine (nat_Least (h1.ext (by repeat (first | exact Ext.refl _ | assumption | apply Ext.drewN | apply Ext.drew | apply Ext.alloc))) (by omega)).mono ?_
  rintro e w1 ⟨A1, n1, c1, rfl, hn1, hr1, ho1, hx1⟩
  rw [nv_one] at hn1 ho1
  have hx1' : Ext wa w1 := Ext.trans (by repeat (first | exact Ext.refl _ | assumption | apply Ext.drewN | apply Ext.drew | apply Ext.alloc)) hx1
  have hd := hb.ext hx1'
  have hsz := hx1'.size
  go_wp2_with fail
  refine (zint_of hn1.out).mono ?_
  rintro e w2 ⟨s', rfl, hs', hx2⟩
  have hd := hd.ext hx2
  clear k1 k2 k3 k4
  obtain ⟨k1, k2, k3, k4⟩ := hd.two
  go_wp2_with fail
  refine bodyPost_ret (res_int rfl rfl (hd.two_set _ _)) rfl ?_
  exact fin_int hd ((Zr_of hs'.out hn1.out ho1 (sg_false _)).ext hx2) (by simp; omega) (by omega) (hea.trans (hx1'.trans hx2))
end Go.Proofs.Ytmaconeeonkdgaa
