/- trellislaw08: the helpers of the laws -/
import Derived.Test.YtmaconeeonkdgaaFracB
namespace Go.Proofs.Ytmaconeeonkdgaa
open Go.RowKit

theorem boxesL2 (w : World) (t t' : TypeId) (l l' : List Value) : ∃ g g2 wa, w.heap.size + 1 = g2 ∧ w.heap.size = g ∧ (w.alloc (.cells l.toArray t)).alloc (.cells l'.toArray t') = wa ∧ Bk wa g t l ∧ Bk wa g2 t' l' ∧ Ext w wa ∧ g < g2 ∧ g2 < wa.heap.size ∧ g ≠ g2 ∧ g2 ≠ g :=
  ⟨_, _, _, rfl, rfl, rfl, (Bk.new w t l).alloc _, Bk.fr2, ((Ext.refl w).alloc _).alloc _, by omega, by simp, by omega, by omega⟩
theorem boxesL1 (w : World) (t : TypeId) (l : List Value) : ∃ g wa, w.heap.size = g ∧ w.alloc (.cells l.toArray t) = wa ∧ Bk wa g t l ∧ Ext w wa ∧ g < wa.heap.size :=
  ⟨_, _, rfl, rfl, Bk.new w t l, (Ext.refl w).alloc _, by simp⟩
theorem Zr.eq_iff {w : World} {base base' : Nat} {s t : Bool} {A B : Option Addr} {n cap m cap' : Nat} {x y : Int} (hx : Zr w base s A n cap x) (hy : Zr w base' t B m cap' y) : x = y ↔ (s = t ∧ wd x.natAbs = wd y.natAbs) := by
  constructor
  · intro h; subst h; exact ⟨hx.sgn.trans hy.sgn.symm, rfl⟩
  · rintro ⟨h1, h2⟩
    have h3 := wd_inj h2
    have h4 : decide (x < 0) = decide (y < 0) := by rw [← hx.sgn, ← hy.sgn, h1]
    rw [← sg_self x, ← sg_self y, h3, h4]
theorem law_alike {w : World} {base base' : Nat} {s t : Bool} {A B : Option Addr} {n cap m cap' : Nat} {x y : Int} (hx : Zr w base s A n cap x) (hl : n ≤ 1099511627776) (hy : Zr w base' t B m cap' y) (hl' : m ≤ 1099511627776) {b : Bool} (hb : b = decide (x = y)) :
    Calls Try.prog 18 #[.agg #[.bool s, .slice A n cap], .agg #[.bool t, .slice B m cap']] w (BoolP b w) := by
  have HB : Hid (b = decide (s = t ∧ wd x.natAbs = wd y.natAbs)) := by
    show _ = _
    rw [hb]; congr 1; exact propext (hx.eq_iff hy)
  clear hb
  go_enter Try.func18, Try.ntmps18
  go_upto_region 1 with (fail)
  obtain ⟨g, g2, wa, hg2, hg, hwa, hb1, hb2, hea, l12, l2, n12, n21⟩ := boxesL2 w 27 27 [.bool s, .slice A n cap] [.bool t, .slice B m cap']
  rw [hg2, hg, hwa]
  clear hwa hg hg2
  obtain ⟨f1, f2, f3, f4⟩ := hb1.two
  obtain ⟨h1, h2, h3, h4⟩ := hb2.two
  by_cases hst : s = t
  · have bs : (s == t) = true := by rw [hst]; cases t <;> rfl
    have HST := Lib.hid hst
    clear hst
    go_wp2_with fail
    refine (ref1_Same (hx.rd.ext hea) hl (hy.rd.ext hea) hl').mono ?_
    rintro e w1 ⟨rfl, hx1⟩
    have ed : decide (wd x.natAbs = wd y.natAbs) = b := by
      rw [HB.out]; congr 1; simp [HST.out]
    rw [ed]
    go_wp2_with fail
    go_ret
    exact ⟨rfl, hea.trans hx1⟩
  · have bs : (s == t) = false := by cases s <;> cases t <;> simp_all
    obtain rfl : b = false := by rw [HB.out]; exact decide_eq_false (fun h => hst h.1)
    clear hst HB
    go_wp2_with fail
    go_ret
    exact ⟨rfl, hea⟩
theorem law_like {w : World} {base base' : Nat} {s s' t t' : Bool} {A A' B B' : Option Addr} {n cap n' cap' m dap m' dap' : Nat} {x y u v : Int} (hx : Zr w base s A n cap x) (hl : n ≤ 1099511627776) (hy : Zr w base s' A' n' cap' y) (hl' : n' ≤ 1099511627776)
    (hu : Zr w base' t B m dap u) (hk : m ≤ 1099511627776) (hv : Zr w base' t' B' m' dap' v) (hk' : m' ≤ 1099511627776) (h1 : x = u) (h2 : y = v) :
    Calls Try.prog 26 #[.agg #[.bool s, .slice A n cap, .bool s', .slice A' n' cap'], .agg #[.bool t, .slice B m dap, .bool t', .slice B' m' dap']] w (BoolP true w) := by
  subst h1
  subst h2
  go_enter Try.func26, Try.ntmps26
  go_upto_region 1 with (fail)
  obtain ⟨g, g2, wa, hg2, hg, hwa, hb1, hb2, hea, l12, l2, n12, n21⟩ := boxesL2 w 29 29 [.bool s, .slice A n cap, .bool s', .slice A' n' cap'] [.bool t, .slice B m dap, .bool t', .slice B' m' dap']
  rw [hg2, hg, hwa]
  clear hwa hg hg2
  obtain ⟨⟨a0, a1, a2, a3⟩, a4⟩ := hb1.four
  obtain ⟨⟨b0, b1, b2, b3⟩, b4⟩ := hb2.four
  go_wp2_with fail
  refine (law_alike (hx.ext hea) hl (hu.ext hea) hk (b := true) (by simp)).mono ?_
  rintro e w1 ⟨rfl, hx1⟩
  clear a0 a1 a2 a3 a4 b0 b1 b2 b3 b4
  obtain ⟨⟨a0, a1, a2, a3⟩, a4⟩ := (hb1.ext hx1).four
  obtain ⟨⟨b0, b1, b2, b3⟩, b4⟩ := (hb2.ext hx1).four
  go_wp2_with fail
  refine (law_alike (hy.ext (hea.trans hx1)) hl' (hv.ext (hea.trans hx1)) hk' (b := true) (by simp)).mono ?_
  rintro e w2 ⟨rfl, hx2⟩
  go_wp2_with fail
  go_ret
  exact ⟨rfl, hea.trans (hx1.trans hx2)⟩
theorem law_is {w : World} {s s' : Bool} {A A' : Option Addr} {n cap n' cap' : Nat} {y : Int} (hy : Zi w s' A' n' cap' y) (hl' : n' ≤ 68719476736) {b : Bool} (hb : b = decide (y ≠ 0)) :
    Calls Try.prog 20 #[.agg #[.bool s, .slice A n cap, .bool s', .slice A' n' cap']] w (BoolP b w) := by
  have HB := Lib.hid hb
  clear hb
  go_enter Try.func20, Try.ntmps20
  go_upto_region 1 with (fail)
  obtain ⟨g, wa, hg, hwa, hb1, hea, l2⟩ := boxesL1 w 29 [.bool s, .slice A n cap, .bool s', .slice A' n' cap']
  rw [hg, hwa]
  clear hwa hg
  obtain ⟨⟨a0, a1, a2, a3⟩, a4⟩ := hb1.four
  go_wp2_with fail
  refine (zint_Sign (hy.ext hea) hl').mono ?_
  rintro e w1 ⟨c, hc, hcl, hch, rfl, hx1⟩
  have hc0 : c = 0 ↔ y = 0 := by rw [hc.out]; exact scmp_zero
  by_cases h0 : y = 0
  · obtain rfl : c = 0 := hc0.2 h0
    obtain rfl : b = false := by rw [HB.out, decide_eq_false (fun h => h h0)]
    clear hc hc0 h0 HB
    go_wp2_with fail
    go_ret
    exact ⟨rfl, hea.trans hx1⟩
  · have bc : (c != 0) = true := by simp; exact fun h => h0 (hc0.1 h)
    obtain rfl : b = true := by rw [HB.out, decide_eq_true h0]
    clear hc hc0 h0 HB
    go_wp2_with fail
    go_ret
    exact ⟨rfl, hea.trans hx1⟩
/-- a literal integer of one word -/
theorem Zr.lit (w : World) {s : Bool} {v : Nat} {z : Int} (hv : v ≤ 18446744073709551615) (h0 : v ≠ 0) (hz : z = sg s v) : Zr (w.alloc (.cells #[.int .u64 (v : Int)] 47)) w.heap.size s (some ⟨w.heap.size, 0, none⟩) 1 1 z := by
  have e : z.natAbs = v := by rw [hz, sg_abs]
  have e2 : wd v = [v] := wd_small (by rw [WB_def]; omega) h0
  refine ⟨?_, ?_, ?_⟩
  · rw [hz]
    cases s
    · rw [sg_false]; exact (decide_eq_false (by omega)).symm
    · rw [sg_true]; exact (decide_eq_true (by omega)).symm
  · unfold ln; rw [e, e2]; rfl
  · rw [e, e2]
    exact Own.mk_ (Nat.le_refl _) (Bk.new w 47 [.int .u64 (v : Int)]) (Nat.le_refl _) (by rw [len_maxLen]; omega) rfl rfl
theorem law_whole {w : World} {v : Nat} (hv : v ≤ 18446744073709551615) (h0 : v ≠ 0) :
    Calls Try.prog 52 #[.int .u64 (v : Int)] w (RetZ w (v : Int)) := by
  have bv : ((v : Int) == 0) = false := by simp; omega
  go_enter Try.func52, Try.ntmps52
  go_upto_region 3 with (fail)
  obtain ⟨g, wa, hg, hwa, hb1, hea, l2⟩ := boxesL1 w 27 [.bool false, .slice none 0 0]
  rw [hg, hwa]
  have hgw : w.heap.size ≤ g := Nat.le_of_eq hg
  clear hwa hg
  have hlit : Zr (wa.alloc (.cells #[.int .u64 (v : Int)] 47)) wa.heap.size false (some ⟨wa.heap.size, 0, none⟩) 1 1 (v : Int) := Zr.lit wa hv h0 (sg_false v).symm
  have hb2 := hb1.alloc (.cells #[.int .u64 (v : Int)] 47)
  obtain ⟨wb, hwb⟩ : ∃ wb, wa.alloc (.cells #[.int .u64 (v : Int)] 47) = wb := ⟨_, rfl⟩
  rw [hwb] at hlit hb2
  have heb : Ext w wb := by rw [← hwb]; exact hea.alloc _
  obtain ⟨k1, k2, k3, k4⟩ := hb2.two
  go_wp2_with fail
  refine bodyPost_ret (res_int rfl rfl (hb2.two_set _ _)) rfl ?_
  exact fin_int hb2 hlit (by omega) (by omega) heb
end Go.Proofs.Ytmaconeeonkdgaa
