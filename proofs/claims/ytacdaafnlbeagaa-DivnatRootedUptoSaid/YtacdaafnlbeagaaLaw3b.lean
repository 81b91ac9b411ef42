/- trellislaw03: DivnatBuilt -/
import Derived.Test.YtacdaafnlbeagaaLaw3
import Derived.Test.YtacdaafnlbeagaaGcd
namespace Go.Proofs.Ytacdaafnlbeagaa
open Go.RowKit

theorem len_wd_add' {a b n m : Nat} (ha : (wd a).length ≤ n) (hb : (wd b).length ≤ m) : (wd (a + b)).length ≤ max n m + 1 := by
  have := len_wd_add a b
  omega
theorem len_wd_mul' {a b n m : Nat} (ha : (wd a).length ≤ n) (hb : (wd b).length ≤ m) : (wd (a * b)).length ≤ n + m := by
  have := len_wd_mul a b
  omega

set_option maxHeartbeats 4000000 in
theorem law_DivnatBuilt {w : World} {A B C : Option Addr} {n cap n' cap' n'' cap'' : Nat} {qs bs rs : List Nat} (hq : Rd w A n cap qs) (hl : n ≤ 1048576) (hb : Rd w B n' cap' bs) (hl' : n' ≤ 1048576) (hr : Rd w C n'' cap'' rs) (hl'' : n'' ≤ 1048576) :
    Calls Try.prog 4 #[.slice A n cap, .slice B n' cap', .slice C n'' cap''] w (BoolP true w) := by
  have lq := hq.wdlen
  have lb := hb.wdlen
  have lr := hr.wdlen
  have HLQ := Lib.hid (Nat.le_trans lq hl)
  have HLB := Lib.hid (Nat.le_trans lb hl')
  have HLR := Lib.hid (Nat.le_trans lr hl'')
  clear lq lb lr
  go_enter Try.func4, Try.ntmps4
  go_wp2_with fail
  refine (law_wakes w).mono ?_
  rintro e w1 ⟨rfl, hx1⟩
  go_wp2_with fail
  refine (ref1_Add (hb.ext hx1) (by omega) (hr.ext hx1) (by omega)).mono ?_
  rintro e w2 ⟨A2, n2, c2, rfl, hn2, hr2, ho2, hx2⟩
  have b2 : n2 ≤ 1048577 := by rw [hn2.out]; exact Nat.le_trans (len_wd_add' HLB.out HLR.out) (by omega)
  have e2 := hx1.trans hx2
  go_wp2_with fail
  have h1 : Rd (w2.alloc (.cells #[.int .u64 1] 23)) (some ⟨w2.heap.size, 0, none⟩) 1 1 [1] := Rd.one w2 (x := 1) (by omega)
  refine (ref1_Add (hr2.ext (by repeat (first | exact Ext.refl _ | assumption | apply Ext.drewN | apply Ext.drew | apply Ext.alloc))) (by omega) h1 (by omega)).mono ?_
  rintro e w3 ⟨A3, n3, c3, rfl, hn3, hr3, ho3, hx3⟩
  rw [nv_wd, nv_one] at hn3 hr3
  have b3 : n3 ≤ 1048578 := by
    have e1 : (wd 1).length = 1 := by decide +kernel
    rw [hn3.out]
    exact Nat.le_trans (len_wd_add' (Nat.le_trans (len_wd_add' HLB.out HLR.out) (Nat.le_refl _)) (Nat.le_of_eq e1)) (by omega)
  have e3 := e2.trans (((Ext.refl w2).alloc (.cells #[.int .u64 1] 23)).trans hx3)
  obtain ⟨D, hD⟩ : ∃ D, nv bs + nv rs + 1 = D := ⟨_, rfl⟩
  rw [hD] at hn3 hr3
  have hD0 : D ≠ 0 := by omega
  have hRD : Hid (nv rs < D) := (show _ < _ by omega)
  have HLD : Hid ((wd D).length ≤ 1048578) := (show _ ≤ _ by rw [← hn3.out]; exact b3)
  clear hD h1 hr2 ho2 ho3
  go_wp2_with fail
  refine (ref2_Mul (hq.ext e3) (by omega) hr3 (by omega)).mono ?_
  rintro e w4 ⟨A4, n4, c4, rfl, hn4, hr4, ho4, hx4⟩
  rw [nv_wd] at hn4 hr4
  have b4 : n4 ≤ 2097154 := by rw [hn4.out]; exact Nat.le_trans (len_wd_mul' HLQ.out HLD.out) (by omega)
  have e4 := e3.trans hx4
  go_wp2_with fail
  refine (ref1_Add hr4 (by omega) (hr.ext e4) (by omega)).mono ?_
  rintro e w5 ⟨A5, n5, c5, rfl, hn5, hr5, ho5, hx5⟩
  rw [nv_wd] at hn5 hr5
  have b5 : n5 ≤ 2097155 := by rw [hn5.out]; exact Nat.le_trans (len_wd_add' (Nat.le_of_eq hn4.out.symm) HLR.out) (by omega)
  have e5 := e4.trans hx5
  clear ho4 ho5
  go_wp2_with fail
  refine (divnat_DivMod hr5 (by omega) (hr3.ext (hx4.trans hx5)) (by omega) (by rw [nv_wd]; exact hD0)).mono ?_
  rintro e w6 ⟨A6, n6, c6, B6, m6, k6, rfl, hn6, hr6, ho6, hm6, hs6, hp6, hx6⟩
  have eq1 : (nv qs * D + nv rs) / D = nv qs := by rw [Nat.mul_comm, Nat.mul_add_div (by omega), Nat.div_eq_of_lt hRD.out, Nat.add_zero]
  have eq2 : (nv qs * D + nv rs) % D = nv rs := by rw [Nat.mul_comm, Nat.mul_add_mod, Nat.mod_eq_of_lt hRD.out]
  have eq3 : nv qs * D % D = 0 := Nat.mul_mod_left _ _
  have eq4 : nv qs * D / D = nv qs := Nat.mul_div_cancel _ (by omega)
  have eq5 : Nat.gcd (nv qs * D) D = D := by rw [gcd_step, eq3, Nat.gcd_zero_right]
  rw [nv_wd, nv_wd, eq1] at hn6 hr6
  rw [nv_wd, nv_wd, eq2] at hm6 hs6
  have E3 := Lib.hid eq3
  have E4 := Lib.hid eq4
  have E5 := Lib.hid eq5
  clear eq1 eq2 eq3 eq4 eq5 ho6 hp6
  have b6 : n6 ≤ 1048576 := by rw [hn6.out]; exact HLQ.out
  have c6' : m6 ≤ 1048576 := by rw [hm6.out]; exact HLR.out
  have e6 := e5.trans hx6
  go_wp2_with fail
  refine (ref1_Least (hq.ext e6) (by omega)).mono ?_
  rintro e w7 ⟨A7, n7, c7, rfl, hn7, hr7, ho7, hx7⟩
  have b7 : n7 ≤ 1048576 := by rw [hn7.out]; exact HLQ.out
  have e7 := e6.trans hx7
  go_wp2_with fail
  refine (ref1_Same (hr6.ext hx7) (by omega) hr7 (by omega)).mono ?_
  rintro e w8 ⟨rfl, hx8⟩
  have ed : decide (wd (nv qs) = wd (nv qs)) = true := by simp
  rw [ed]
  have e8 := e7.trans hx8
  go_wp2_with fail
  refine (ref1_Least (hr.ext e8) (by omega)).mono ?_
  rintro e w9 ⟨A9, n9, c9, rfl, hn9, hr9, ho9, hx9⟩
  have b9 : n9 ≤ 1048576 := by rw [hn9.out]; exact HLR.out
  have e9 := e8.trans hx9
  go_wp2_with fail
  refine (ref1_Same (hs6.ext (hx7.trans (hx8.trans hx9))) (by omega) hr9 (by omega)).mono ?_
  rintro e w10 ⟨rfl, hx10⟩
  have ed2 : decide (wd (nv rs) = wd (nv rs)) = true := by simp
  rw [ed2]
  have e10 := e9.trans hx10
  have x610 : Ext w6 w10 := hx7.trans (hx8.trans (hx9.trans hx10))
  have x410 : Ext w4 w10 := hx5.trans (hx6.trans x610)
  have x310 : Ext w3 w10 := hx4.trans x410
  clear ed ed2 hr7 ho7 hr9 ho9 hn7 hn9 hs6
  go_wp2_with fail
  refine (divnat_Exact (hr4.ext x410) (by omega) (hr3.ext x310) (by omega) (by rw [nv_wd]; exact hD0) (by rw [nv_wd, nv_wd]; exact E3.out)).mono ?_
  rintro e w11 ⟨A11, n11, c11, rfl, hn11, hr11, ho11, hx11⟩
  rw [nv_wd, nv_wd, E4.out] at hn11 hr11
  have b11 : n11 ≤ 1048576 := by rw [hn11.out]; exact HLQ.out
  go_wp2_with fail
  refine (ref1_Same hr11 (by omega) (hr6.ext (x610.trans hx11)) (by omega)).mono ?_
  rintro e w12 ⟨rfl, hx12⟩
  have ed : decide (wd (nv qs) = wd (nv qs)) = true := by simp
  rw [ed]
  have x12 : Ext w10 w12 := hx11.trans hx12
  go_wp2_with fail
  refine (divnat_Gcd (hr4.ext (x410.trans x12)) (by omega) (hr3.ext (x310.trans x12)) (by omega)).mono ?_
  rintro e w13 ⟨A13, n13, c13, rfl, hn13, hr13, ho13, hx13⟩
  rw [nv_wd, nv_wd, E5.out] at hn13 hr13
  have b13 : n13 ≤ 1048578 := by rw [hn13.out]; exact HLD.out
  go_wp2_with fail
  refine (ref1_Same hr13 (by omega) (hr3.ext (x310.trans (x12.trans hx13))) (by omega)).mono ?_
  rintro e w14 ⟨rfl, hx14⟩
  have ed3 : decide (wd D = wd D) = true := by simp
  rw [ed3]
  go_wp2_with fail
  go_ret
  exact ⟨rfl, (e10.trans x12).trans (hx13.trans hx14)⟩
end Go.Proofs.Ytacdaafnlbeagaa
