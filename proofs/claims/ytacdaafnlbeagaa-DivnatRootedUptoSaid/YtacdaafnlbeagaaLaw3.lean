/- trellislaw03: the helpers of the laws, DivnatBack -/
import Derived.Test.YtacdaafnlbeagaaDivC
import Derived.Test.YtacdaafnlbeagaaRef1b
import Derived.Test.YtacdaafnlbeagaaRef2
namespace Go.Proofs.Ytacdaafnlbeagaa
open Go.RowKit

theorem len_div (a b : Nat) : (wd (a / b)).length ≤ (wd a).length := len_wd_mono (Nat.div_le_self a b)
theorem len_mod (a b : Nat) : (wd (a % b)).length ≤ (wd a).length := len_wd_mono (Nat.mod_le a b)
theorem len_mod2 {a b : Nat} (h : b ≠ 0) : (wd (a % b)).length ≤ (wd b).length := len_wd_mono (Nat.le_of_lt (Nat.mod_lt a (by omega)))
theorem Rd.wdlen {w : World} {A : Option Addr} {n cap : Nat} {xs : List Nat} (h : Rd w A n cap xs) : (wd (nv xs)).length ≤ n := by
  have := len_wd_nv h.wf
  rw [h.len] at this
  exact this

theorem law_wakes (w : World) : Calls Try.prog 11 #[] w (BoolP true w) := by
  go_enter Try.func11, Try.ntmps11
  go_wp2_with fail
  have hone := Rd.one w (x := 7) (by omega)
  refine (divnat_Word hone (by omega) (v := 2) (by omega) (by omega)).mono ?_
  rintro e w2 ⟨A2, n2, c2, r, rfl, hr, hrb, hn2, hr2, ho2, hx2⟩
  have e3 : wd (nv [7] / 2) = [3] := by decide +kernel
  have e1 : nv [7] % 2 = 1 := by decide +kernel
  rw [e3] at hn2 hr2 ho2
  rw [e1] at hr
  obtain rfl : n2 = 1 := hn2.out
  obtain ⟨a, x, rfl, hxk, hxb, hcx⟩ := hr2.get (i := 0) (by omega)
  have hx3 : x = 3 := by rw [← hxk.out]; rfl
  have hr1 : r = 1 := hr.out
  subst hx3
  subst hr1
  have hcx0 : w2.cell? a = some (.int .u64 3) := by simpa [Addr.add] using hcx
  clear hcx hr hrb hn2 ho2 hr2 hxk hxb
  go_wp2_with fail
  go_ret
  exact ⟨rfl, ((Ext.refl w).alloc _).trans hx2⟩

theorem law_least {w : World} {A : Option Addr} {n cap m : Nat} (hx : Rd w A n cap (wd m)) (hl : n ≤ 1099511627776) :
    Calls Try.prog 21 #[.slice A n cap] w (fun e w' => e = .returned (.bool true) ∧ w = w') := by
  go_enter Try.func21, Try.ntmps21
  by_cases h0 : n = 0
  · subst h0
    go_wp2_with fail
    go_ret
    exact ⟨rfl, rfl⟩
  · have b0 : ((n : Int) == 0) = false := by simp; omega
    obtain ⟨a, x, rfl, hxk, hxb, hcx⟩ := hx.get (i := n - 1) (by omega)
    have hx0 : x ≠ 0 := by
      rw [← hxk.out, ← hx.len]
      refine wd_top (fun e => h0 ?_)
      rw [← hx.len, e]; rfl
    have bx : ((x : Int) != 0) = true := by simp; omega
    have hn0 : 0 < (n : Int) := by omega
    go_wp2_with fail
    go_ret
    exact ⟨rfl, rfl⟩

theorem law_rebuilt {w : World} {A B C D : Option Addr} {n cap n' cap' k kcap m mcap : Nat} {xs ys : List Nat} {Q R : Nat} (hx : Rd w A n cap xs) (hl : n ≤ 1073741824) (hy : Rd w B n' cap' ys) (hl' : n' ≤ 1073741824)
    (hq : Rd w C k kcap (wd Q)) (hk : k ≤ 1073741824) (hr : Rd w D m mcap (wd R)) (hm : m ≤ 1073741824) (he : Q * nv ys + R = nv xs) (hlt : R < nv ys) :
    Calls Try.prog 13 #[.slice A n cap, .slice B n' cap', .slice C k kcap, .slice D m mcap] w (BoolP true w) := by
  have HE := Lib.hid he
  have HLT := Lib.hid hlt
  clear he hlt
  go_enter Try.func13, Try.ntmps13
  go_wp2_with fail
  refine (law_least hq (by omega)).mono ?_
  rintro e w' ⟨rfl, rfl⟩
  go_wp2_with fail
  refine (law_least hr (by omega)).mono ?_
  rintro e w' ⟨rfl, rfl⟩
  go_wp2_with fail
  refine (ref1_Cmp hr (by omega) hy (by omega)).mono ?_
  rintro e w1 ⟨c, hc, hcl, hch, rfl, hx1⟩
  rw [nv_wd] at hc
  have hneg : c < 0 := by rw [hc.out]; exact cmp3_neg.2 HLT.out
  go_wp2_with fail
  refine (ref2_Mul (hq.ext hx1) (by omega) (hy.ext hx1) (by omega)).mono ?_
  rintro e w2 ⟨A2, n2, c2, rfl, hn2, hr2, ho2, hx2⟩
  rw [nv_wd] at hn2 hr2
  have hn2b : n2 ≤ 2147483648 := by
    have h1 := len_wd_mul Q (nv ys)
    have h2 := hy.wdlen
    have h3 := hq.len
    rw [hn2.out]; omega
  have hx12 := hx1.trans hx2
  go_wp2_with fail
  refine (ref1_Add hr2 (by omega) (hr.ext hx12) (by omega)).mono ?_
  rintro e w3 ⟨A3, n3, c3, rfl, hn3, hr3, ho3, hx3⟩
  rw [nv_wd, nv_wd, HE.out] at hn3 hr3
  have hn3b : n3 ≤ 1073741824 := by rw [hn3.out]; exact Nat.le_trans hx.wdlen hl
  have hx13 := hx12.trans hx3
  go_wp2_with fail
  refine (ref1_Least (hx.ext hx13) (by omega)).mono ?_
  rintro e w4 ⟨A4, n4, c4, rfl, hn4, hr4, ho4, hx4⟩
  have hn4b : n4 ≤ 1073741824 := by rw [hn4.out]; exact Nat.le_trans hx.wdlen hl
  have hx14 := hx13.trans hx4
  go_wp2_with fail
  refine (ref1_Same (hr3.ext hx4) (by omega) hr4 (by omega)).mono ?_
  rintro e w5 ⟨rfl, hx5⟩
  have ed : decide (wd (nv xs) = wd (nv xs)) = true := by simp
  rw [ed]
  go_wp2_with fail
  go_ret
  exact ⟨rfl, hx14.trans hx5⟩

set_option maxHeartbeats 4000000 in
theorem law_DivnatBack {w : World} {A B : Option Addr} {n cap n' cap' : Nat} {xs ys : List Nat} (hx : Rd w A n cap xs) (hl : n ≤ 1048576) (hy : Rd w B n' cap' ys) (hl' : n' ≤ 1048576) {v : Nat} (hvb : v ≤ 18446744073709551615) :
    Calls Try.prog 3 #[.slice A n cap, .slice B n' cap', .int .u64 (v : Int)] w (BoolP true w) := by
  go_enter Try.func3, Try.ntmps3
  go_wp2_with fail
  refine (law_wakes w).mono ?_
  rintro e w1 ⟨rfl, hx1⟩
  by_cases hv0 : v = 0
  case' pos =>
    subst hv0
    go_wp2_with fail
    refine (divnat_Word_bad (A := A) (n := n) (cap := cap) (w := w1)).mono ?_
    rintro e wm ⟨rfl, rfl⟩
    have hxm : Ext w w1 := hx1
    clear hx1
    go_upto_region 8 with (fail)
    obtain ⟨wm, rfl⟩ : ∃ wm : World, wm = w1 := ⟨_, rfl⟩
  case' neg =>
    have bv : ((v : Int) == 0) = false := by simp; omega
    have bv2 : ((v : Int) != 0) = true := by simp; omega
    go_wp2_with fail
    refine (divnat_Word (hx.ext hx1) (by omega) hv0 hvb).mono ?_
    rintro e w2 ⟨A2, n2, c2, r, rfl, hr, hrb, hn2, hr2, ho2, hx2⟩
    have hx12 := hx1.trans hx2
    have hrv : r < v := by rw [hr.out]; exact Nat.mod_lt _ (by omega)
    have hrvi : ¬ (v : Int) ≤ (r : Int) := by omega
    have hn2b : n2 ≤ 1048576 := by rw [hn2.out]; exact Nat.le_trans (len_div _ _) (Nat.le_trans hx.wdlen hl)
    have eQ : Hid (nv xs / v * v + r = nv xs) := (show _ = _ by rw [hr.out, Nat.mul_comm]; exact Nat.div_add_mod _ _)
    go_wp2_with fail
    have h1v : Rd (w2.alloc (.cells #[.int .u64 (v : Int)] 23)) (some ⟨w2.heap.size, 0, none⟩) 1 1 [v] := Rd.one w2 hvb
    have h1r : Rd ((w2.alloc (.cells #[.int .u64 (v : Int)] 23)).alloc (.cells #[.int .u64 (r : Int)] 23)) (some ⟨w2.heap.size + 1, 0, none⟩) 1 1 [r] := by
      have := Rd.one (w2.alloc (.cells #[.int .u64 (v : Int)] 23)) hrb
      simpa using this
    obtain ⟨wb, hwb⟩ : ∃ wb, (w2.alloc (.cells #[.int .u64 (v : Int)] 23)).alloc (.cells #[.int .u64 (r : Int)] 23) = wb := ⟨_, rfl⟩
    rw [hwb] at h1r ⊢
    have hxb : Ext w2 wb := by rw [← hwb]; exact ((Ext.refl w2).alloc _).alloc _
    have h1v2 : Rd wb (some ⟨w2.heap.size, 0, none⟩) 1 1 [v] := by rw [← hwb]; exact h1v.ext ((Ext.refl _).alloc _)
    clear hwb h1v
    refine (ref1_Least h1r (by omega)).mono ?_
    rintro e w3 ⟨A3, n3, c3, rfl, hn3, hr3, ho3, hx3⟩
    rw [nv_one] at hn3 hr3
    have hn3b : n3 ≤ 1 := by
      have := h1r.wdlen
      rw [nv_one] at this
      rw [hn3.out]; exact this
    have hx13 := hx12.trans (hxb.trans hx3)
    go_wp2_with fail
    refine (law_rebuilt (hx.ext hx13) (by omega) (h1v2.ext hx3) (by omega) (hr2.ext (hxb.trans hx3)) (by omega) hr3 (by omega) (by rw [nv_one]; exact eQ.out) (by rw [nv_one]; exact hrv)).mono ?_
    rintro e wm ⟨rfl, hx4⟩
    have hxm : Ext w wm := hx13.trans hx4
    clear hx1 hr2 ho2 hx2 hx12 h1r hxb h1v2 hr3 ho3 hx3 hx13 hx4 hn2 hn3 eQ hr
    go_upto_region 8 with (fail)
  all_goals
    by_cases h0 : nv ys = 0
    · go_wp2_with fail
      refine (divnat_DivMod_bad (hy.ext hxm) (by omega) h0).mono ?_
      rintro e wa ⟨rfl, hxa⟩
      have hxam := hxm.trans hxa
      go_wp2_with fail
      refine (divnat_Exact_bad (hy.ext hxam) (by omega) h0).mono ?_
      rintro e we ⟨rfl, hxe⟩
      have hxem := hxam.trans hxe
      go_wp2_with fail
      refine (ref1_Least (hy.ext hxem) (by omega)).mono ?_
      rintro e wl ⟨Al, nl, cl, rfl, hnl, hrl, hol, hxl⟩
      obtain rfl : nl = 0 := by rw [hnl.out, h0]; rfl
      go_wp2_with fail
      go_ret
      exact ⟨rfl, hxem.trans hxl⟩
    · have H0 := Lib.hid h0
      go_wp2_with fail
      refine (divnat_DivMod (hx.ext hxm) (by omega) (hy.ext hxm) (by omega) h0).mono ?_
      rintro e wa ⟨Aq, nq, cq, Ar, nr, cr, rfl, hnq, hrq, hoq, hnr, hrr, hor, hxa⟩
      have hxam := hxm.trans hxa
      have hnqb : nq ≤ 1048576 := by rw [hnq.out]; exact Nat.le_trans (len_div _ _) (Nat.le_trans hx.wdlen hl)
      have hnrb : nr ≤ 1048576 := by rw [hnr.out]; exact Nat.le_trans (len_mod _ _) (Nat.le_trans hx.wdlen hl)
      have eQ : Hid (nv xs / nv ys * nv ys + nv xs % nv ys = nv xs) := (show _ = _ by rw [Nat.mul_comm]; exact Nat.div_add_mod _ _)
      have hlt : Hid (nv xs % nv ys < nv ys) := Nat.mod_lt _ (Nat.pos_of_ne_zero h0)
      clear hoq hor
      by_cases hz : nv xs % nv ys = 0
      · obtain rfl : nr = 0 := by rw [hnr.out, hz]; rfl
        have HZ := Lib.hid hz
        clear hz h0
        go_wp2_with fail
        refine (divnat_Exact (hx.ext hxam) (by omega) (hy.ext hxam) (by omega) H0.out HZ.out).mono ?_
        rintro e we ⟨Ae, ne, ce, rfl, hne, hre, hoe, hxe⟩
        have hneb : ne ≤ 1048576 := by rw [hne.out]; exact Nat.le_trans (len_div _ _) (Nat.le_trans hx.wdlen hl)
        have hxem := hxam.trans hxe
        go_wp2_with fail
        refine (ref1_Least (hy.ext hxem) (by omega)).mono ?_
        rintro e wl ⟨Al, nl, cl, rfl, hnl, hrl, hol, hxl⟩
        have hnl0 : 0 < nl := by rw [hnl.out]; exact Nat.pos_of_ne_zero (fun e => H0.out (len_wd_zero.1 e))
        have bl : ((nl : Int) == 0) = false := by simp; omega
        have hxlm := hxem.trans hxl
        go_wp2_with fail
        refine (law_rebuilt (hx.ext hxlm) (by omega) (hy.ext hxlm) (by omega) (hrq.ext (hxe.trans hxl)) (by omega) (hrr.ext (hxe.trans hxl)) (by omega) eQ.out hlt.out).mono ?_
        rintro e wr ⟨rfl, hxr⟩
        go_wp2_with fail
        refine (ref1_Same (hre.ext (hxl.trans hxr)) (by omega) (hrq.ext (hxe.trans (hxl.trans hxr))) (by omega)).mono ?_
        rintro e ws ⟨rfl, hxs⟩
        have ed : decide (wd (nv xs / nv ys) = wd (nv xs / nv ys)) = true := by simp
        rw [ed]
        go_wp2_with fail
        go_ret
        exact ⟨rfl, (hxlm.trans hxr).trans hxs⟩
      · have hnr0 : 0 < nr := by rw [hnr.out]; exact Nat.pos_of_ne_zero (fun e => hz (len_wd_zero.1 e))
        have br : ((nr : Int) == 0) = false := by simp; omega
        have HZ := Lib.hid hz
        clear hz h0
        go_wp2_with fail
        refine (divnat_Exact_not (hx.ext hxam) (by omega) (hy.ext hxam) (by omega) H0.out HZ.out).mono ?_
        rintro e we ⟨rfl, hxe⟩
        have hxem := hxam.trans hxe
        go_wp2_with fail
        refine (ref1_Least (hy.ext hxem) (by omega)).mono ?_
        rintro e wl ⟨Al, nl, cl, rfl, hnl, hrl, hol, hxl⟩
        have hnl0 : 0 < nl := by rw [hnl.out]; exact Nat.pos_of_ne_zero (fun e => H0.out (len_wd_zero.1 e))
        have bl : ((nl : Int) == 0) = false := by simp; omega
        have hxlm := hxem.trans hxl
        go_wp2_with fail
        refine (law_rebuilt (hx.ext hxlm) (by omega) (hy.ext hxlm) (by omega) (hrq.ext (hxe.trans hxl)) (by omega) (hrr.ext (hxe.trans hxl)) (by omega) eQ.out hlt.out).mono ?_
        rintro e wr ⟨rfl, hxr⟩
        go_wp2_with fail
        go_ret
        exact ⟨rfl, hxlm.trans hxr⟩
end Go.Proofs.Ytacdaafnlbeagaa
