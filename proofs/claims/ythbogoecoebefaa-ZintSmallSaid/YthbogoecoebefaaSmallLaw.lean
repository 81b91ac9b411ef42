/- trellislaw05: ZintSmall -/
import Derived.Test.YthbogoecoebefaaSmall
import Derived.Test.YthbogoecoebefaaFracB
namespace Go.Proofs.Ythbogoecoebefaa
open Go.RowKit

theorem boxM1 (w : World) (t : TypeId) (l : List Value) : ∃ g wa, w.heap.size = g ∧ w.alloc (.cells l.toArray t) = wa ∧ Bk wa g t l ∧ Ext w wa := ⟨_, _, rfl, rfl, Bk.new w t l, (Ext.refl w).alloc _⟩
theorem boxM2 (w : World) (t t' : TypeId) (l l' : List Value) : ∃ g g2 wa, w.heap.size + 1 = g2 ∧ w.heap.size = g ∧ (w.alloc (.cells l.toArray t)).alloc (.cells l'.toArray t') = wa ∧ Bk wa g t l ∧ Bk wa g2 t' l' ∧ Ext w wa :=
  ⟨_, _, _, rfl, rfl, rfl, (Bk.new w t l).alloc _, Bk.fr2, ((Ext.refl w).alloc _).alloc _⟩
theorem ln_i64 {x : Int} (h1 : -18446744073709551615 ≤ x) (h2 : x ≤ 18446744073709551615) : ln x ≤ 1 := len_wd_le (by rw [WB_def, Nat.pow_one]; omega)
set_option maxRecDepth 20000 in
set_option maxHeartbeats 16000000 in
theorem law_ZintSmall {w : World} {x y : Int} (hx1 : -9223372036854775808 ≤ x) (hx2 : x ≤ 9223372036854775807) (hy1 : -9223372036854775808 ≤ y) (hy2 : y ≤ 9223372036854775807) :
    Calls Try.prog 3 #[.int .i64 x, .int .i64 y] w (BoolP true w) := by
  go_enter Try.func3, Try.ntmps3
  go_wp2_with fail
  refine (zint_OfI hx1 hx2).mono ?_
  rintro e w1 ⟨s5, A5, n5, c5, rfl, z5, hx5⟩
  have b5 : n5 ≤ 1 := z5.le (ln_i64 (by omega) (by omega))
  go_upto_region 2 with (fail)
  obtain ⟨g5, v1, hg, hv, hb5, he⟩ := boxM1 w1 24 [.bool s5, .slice A5 n5 c5]
  rw [hg, hv]
  have e1 := hx5.trans he
  have z5 := z5.ext he
  clear hg hv hx5 he
  go_wp2_with fail
  refine (zint_OfI hy1 hy2).mono ?_
  rintro e w2 ⟨s6, A6, n6, c6, rfl, z6, hx6⟩
  have b6 : n6 ≤ 1 := z6.le (ln_i64 (by omega) (by omega))
  go_upto_region 3 with (fail)
  obtain ⟨g6, v2, hg, hv, hb6, he⟩ := boxM1 w2 24 [.bool s6, .slice A6 n6 c6]
  rw [hg, hv]
  have e12 := hx6.trans he
  have z6 := z6.ext he
  have z5 := z5.ext e12
  have hb5 := hb5.ext e12
  have e2 := e1.trans e12
  clear hg hv hx6 he e12 e1
  obtain ⟨f1, f2, f3, f4⟩ := hb5.two
  go_wp2_with fail
  refine (zint_Small z5.zi (by omega)).mono ?_
  rintro e v3 ⟨sv, er, rfl, hs, e3⟩
  obtain ⟨hv, her⟩ := hs.out.1 ⟨hx1, hx2⟩
  subst hv
  subst her
  clear hs f1 f2 f3 f4
  have bx : (sv != sv) = false := by simp
  go_wp2_with fail
  refine (zint_Of (v := 7) (by omega)).mono ?_
  rintro e v4 ⟨s7, A7, n7, c7, rfl, z7, e4⟩
  have b7 : n7 ≤ 1 := z7.le (by decide +kernel)
  go_wp2_with fail
  refine (zint_Sign z7.zi (by omega)).mono ?_
  rintro e v5 ⟨c, hc, hcl, hch, rfl, e5⟩
  obtain rfl : c = 1 := by rw [hc.out]; rfl
  have e25 : Ext v2 v5 := e3.trans (e4.trans e5)
  have z5 := z5.ext e25
  have z6 := z6.ext e25
  have hb5 := hb5.ext e25
  have hb6 := hb6.ext e25
  have ew := e2.trans e25
  clear hc e25 e3 e4 e5 z7 e2
  obtain ⟨f1, f2, f3, f4⟩ := hb5.two
  obtain ⟨h1, h2, h3, h4⟩ := hb6.two
  go_wp2_with fail
  refine (zint_Add z5.zi (by omega) z6.zi (by omega)).mono ?_
  rintro e v6 ⟨s8, A8, n8, c8, rfl, z8, e6⟩
  have b8 : n8 ≤ 2 := z8.le (Nat.le_trans (ln_add (z5.ln_le b5) (z6.ln_le b6)) (by omega))
  go_wp2_with fail
  refine (zint_Small z8.zi (by omega)).mono ?_
  rintro e v7 ⟨sm, er, rfl, hs, e7⟩
  have e57 : Ext v5 v7 := e6.trans e7
  have z5 := z5.ext e57
  have z6 := z6.ext e57
  have hb5 := hb5.ext e57
  have hb6 := hb6.ext e57
  have ew := ew.trans e57
  clear e57 e6 e7 z8 f1 f2 f3 f4 h1 h2 h3 h4
  have hcases : (0 < y ∧ 9223372036854775807 - y < sv) ∨ (0 < y ∧ ¬ 9223372036854775807 - y < sv) ∨ y = 0 ∨ (y < 0 ∧ sv < -9223372036854775808 - y) ∨ (y < 0 ∧ ¬ sv < -9223372036854775808 - y) := by omega
  rcases hcases with ⟨o1, o2⟩ | ⟨o1, o2⟩ | o1 | ⟨o1, o2⟩ | ⟨o1, o2⟩
  case' inl =>
    obtain ⟨hm, her⟩ := hs.out.2 (by omega)
    subst hm
    subst her
    clear hs
    go_upto_region 10 with (fail)
  case' inr.inl =>
    obtain ⟨hm, her⟩ := hs.out.1 (by omega)
    subst hm
    subst her
    have bs : (sv + y != sv + y) = false := by simp
    clear hs
    go_upto_region 10 with (fail)
  case' inr.inr.inl =>
    obtain ⟨hm, her⟩ := hs.out.1 (by omega)
    subst hm
    subst her
    have o2 : ¬ 0 < y := by omega
    have o3 : ¬ y < 0 := by omega
    have bs : (sv + y != sv + y) = false := by simp
    clear hs
    have O1 := Lib.hid o1
    clear o1
    go_upto_region 10 with (fail)
  case' inr.inr.inr.inl =>
    obtain ⟨hm, her⟩ := hs.out.2 (by omega)
    subst hm
    subst her
    have o3 : ¬ 0 < y := by omega
    clear hs
    go_upto_region 10 with (fail)
  case' inr.inr.inr.inr =>
    obtain ⟨hm, her⟩ := hs.out.1 (by omega)
    subst hm
    subst her
    have o3 : ¬ 0 < y := by omega
    have bs : (sv + y != sv + y) = false := by simp
    clear hs
    go_upto_region 10 with (fail)
  all_goals
    obtain ⟨f1, f2, f3, f4⟩ := hb5.two
    obtain ⟨h1, h2, h3, h4⟩ := hb6.two
    rcases Int.lt_trichotomy sv y with q | q | q
    all_goals
      have Q := Lib.hid q
      clear q
      go_wp2_with fail
      refine (zint_Cmp z5.zi (by omega) z6.zi (by omega)).mono ?_
      rintro e v8 ⟨c, hc, hcl, hch, rfl, e8⟩
      clear f1 f2 f3 f4 h1 h2 h3 h4
      obtain ⟨f1, f2, f3, f4⟩ := (hb5.ext e8).two
      obtain ⟨h1, h2, h3, h4⟩ := (hb6.ext e8).two
      first
      | (obtain rfl : c = -1 := by rw [hc.out, scmp, if_pos Q.out]
         have q2 : (sv == y) = false := by have := Q.out; simp; omega
         have q3 : sv < y := Q.out)
      | (obtain rfl : c = 0 := by rw [hc.out, Q.out, scmp]; simp
         have q2 : (sv == y) = true := by have := Q.out; simp; omega
         have q3 : ¬ sv < y := by have := Q.out; omega)
      | (obtain rfl : c = 1 := by have := Q.out; rw [hc.out, scmp, if_neg (by omega), if_neg (by omega)]
         have q2 : (sv == y) = false := by have := Q.out; simp; omega
         have q3 : ¬ sv < y := by have := Q.out; omega)
      go_wp2_with fail
      refine (zint_Cmp (z5.zi.ext e8) (by omega) (z6.zi.ext e8) (by omega)).mono ?_
      rintro e v9 ⟨c, hc9, hcl9, hch9, rfl, e9⟩
      have e89 : Ext v7 v9 := e8.trans e9
      obtain rfl := hc9.out.trans hc.out.symm
      go_upto_region 12 with (fail)
      clear f1 f2 f3 f4 h1 h2 h3 h4 hc hc9 hcl hch hcl9 hch9 e8 e9 q3 q2 Q
      by_cases hy0 : y = 0
      · go_wp2_with fail
        go_ret
        exact ⟨rfl, ew.trans e89⟩
      · have bz : (y == 0) = false := by simp; omega
        have H0 := Lib.hid hy0
        clear hy0
        obtain ⟨f1, f2, f3, f4⟩ := (hb5.ext e89).two
        obtain ⟨h1, h2, h3, h4⟩ := (hb6.ext e89).two
        go_wp2_with fail
        refine (zint_Trunc (z5.zi.ext e89) (by omega) (z6.zi.ext e89) (by omega) H0.out).mono ?_
        rintro e w10 ⟨sq, Aq, nq, cq, sr, Ar, nr, cr, rfl, zq, zr, hx10⟩
        clear f1 f2 f3 f4 h1 h2 h3 h4
        have ra := tmod_abs (x := sv) H0.out
        have qa : (sv.tdiv y).natAbs ≤ sv.natAbs := by rw [Int.natAbs_tdiv]; exact Nat.div_le_self _ _
        have rb : -9223372036854775808 ≤ sv.tmod y ∧ sv.tmod y ≤ 9223372036854775807 := by omega
        have bq : nq ≤ 1 := zq.le (ln_i64 (by omega) (by omega))
        have br : nr ≤ 1 := zr.le (ln_i64 (by omega) (by omega))
        clear ra qa
        go_upto_region 15 with (fail)
        obtain ⟨g12, g13, v10, hg13, hg12, hv10, hb12, hb13, he⟩ := boxM2 w10 24 24 [.bool sq, .slice Aq nq cq] [.bool sr, .slice Ar nr cr]
        rw [hg13, hg12, hv10]
        have e10 := hx10.trans he
        have zq := zq.ext he
        have zr := zr.ext he
        clear hg13 hg12 hv10 he hx10
        obtain ⟨f1, f2, f3, f4⟩ := hb13.two
        go_wp2_with fail
        refine (zint_Small zr.zi (by omega)).mono ?_
        rintro e v11 ⟨mv, er, rfl, hs, e11⟩
        obtain ⟨hm, her⟩ := hs.out.1 rb
        subst her
        have HM := Lib.hid hm
        clear hm hs f1 f2 f3 f4
        have hb12 := hb12.ext e11
        have zq := zq.ext e11
        have ee := ew.trans (e89.trans (e10.trans e11))
        clear hb13 zr z5 z6 hb5 hb6 e89 e10 e11 ew
        obtain ⟨f1, f2, f3, f4⟩ := hb12.two
        by_cases hy1 : y = -1
        · obtain rfl : mv = 0 := by rw [HM.out, hy1, Int.tmod_neg, Int.tmod_one]
          have q1 : (y == -1) = true := by simp; omega
          have q2 : (y != -1) = false := by simp; omega
          have HY := Lib.hid hy1
          clear hy1
          go_wp2_with fail
          refine (zint_Small zq.zi (by omega)).mono ?_
          rintro e v12 ⟨nv', er, rfl, hs, e12⟩
          have hqv : sv.tdiv y = -sv := by rw [HY.out, Int.tdiv_neg, Int.tdiv_one]
          rw [hqv] at hs
          clear hqv
          by_cases hxb : sv = -9223372036854775808
          · obtain ⟨hm, her⟩ := hs.out.2 (by omega)
            subst her
            have q3 : (sv == -9223372036854775808) = true := by simp; omega
            have HX := Lib.hid hxb
            clear hxb hs hm
            go_wp2_with fail
            go_ret
            exact ⟨rfl, ee.trans e12⟩
          · obtain ⟨hm, her⟩ := hs.out.1 (by omega)
            subst her
            subst hm
            have q3 : (sv == -9223372036854775808) = false := by simp; omega
            have q4 : -9223372036854775807 ≤ sv := by omega
            have q5 : (-sv == -sv) = true := by simp
            clear hxb hs
            go_wp2_with fail
            go_ret
            exact ⟨rfl, ee.trans e12⟩
        · have q1 : (y == -1) = false := by simp; omega
          have q2 : (y != -1) = true := by simp; omega
          have qr : -9223372036854775808 ≤ sv.tdiv y ∧ sv.tdiv y ≤ 9223372036854775807 := by
            by_cases h1 : y = 1
            · rw [h1, Int.tdiv_one]; omega
            · have h2 : (sv.tdiv y).natAbs ≤ sv.natAbs / 2 := by
                rw [Int.natAbs_tdiv]
                exact Nat.div_le_div_left (by have := H0.out; omega) (by omega)
              omega
          have wr : IntKind.i64.wrap (sv.tmod y) = sv.tmod y := IntWalk.i64_in _ (by omega)
          have wq : IntKind.i64.wrap (sv.tdiv y) = sv.tdiv y := IntWalk.i64_in _ (by omega)
          obtain rfl : mv = sv.tmod y := HM.out
          have q5 : (sv.tmod y != sv.tmod y) = false := by simp
          have q6 : (sv.tdiv y == sv.tdiv y) = true := by simp
          clear hy1
          go_wp2_with fail
          all_goals
            refine (zint_Small zq.zi (by omega)).mono ?_
            rintro e v12 ⟨nv', er, rfl, hs, e12⟩
            obtain ⟨hm, her⟩ := hs.out.1 qr
            subst her
            subst hm
            clear hs
            by_cases hxb : sv = -9223372036854775808
            · have q3 : (sv == -9223372036854775808) = true := by simp; omega
              have HX := Lib.hid hxb
              clear hxb
              go_wp2_with fail
              go_ret
              exact ⟨rfl, ee.trans e12⟩
            · have q3 : (sv == -9223372036854775808) = false := by simp; omega
              clear hxb
              go_wp2_with fail
              go_ret
              exact ⟨rfl, ee.trans e12⟩
end Go.Proofs.Ythbogoecoebefaa
