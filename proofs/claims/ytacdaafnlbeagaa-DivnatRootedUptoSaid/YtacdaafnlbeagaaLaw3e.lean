/- trellislaw03: DivnatRooted, DivnatStripped -/
import Derived.Test.YtacdaafnlbeagaaLaw3d
namespace Go.Proofs.Ytacdaafnlbeagaa
open Go.RowKit

set_option maxHeartbeats 4000000 in
theorem law_DivnatRooted {w : World} {A : Option Addr} {n cap : Nat} {xs : List Nat} (hx : Rd w A n cap xs) (hl : n ≤ 1048576) {k : Int} (hk1 : -9223372036854775808 ≤ k) (hk2 : k ≤ 9223372036854775807) :
    Calls Try.prog 7 #[.slice A n cap, .int .i64 k] w (BoolP true w) := by
  have HLN : Hid ((wd (nv xs)).length ≤ n) := hx.wdlen
  go_enter Try.func7, Try.ntmps7
  go_wp2_with fail
  refine (law_wakes w).mono ?_
  rintro e w1 ⟨rfl, hx1⟩
  go_wp2_with fail
  refine (divnat_Sqrt (hx.ext hx1) (by omega)).mono ?_
  rintro e w2 ⟨r, hir, A2, n2, c2, A3, n3, c3, rfl, hn2, hr2, ho2, hn3, hr3, ho3, hx2⟩
  have hrr : Hid (r * r ≤ nv xs) := by
    have := hir.out.1
    rw [Nat.pow_two] at this
    exact this
  have hsum : Hid (r * r + (nv xs - r * r) = nv xs) := (show _ = _ by have := hrr.out; omega)
  have hmost : Hid (nv xs - r * r ≤ r + r) := by
    have := hir.out.2
    rw [Nat.pow_two, Nat.add_mul, Nat.mul_add] at this
    show _ ≤ _
    omega
  have b2 : n2 ≤ 1048576 := by rw [hn2.out]; exact Nat.le_trans (len_wd_mono (hir.out.le_self (by omega))) (Nat.le_trans HLN.out hl)
  have b3 : n3 ≤ 1048576 := by rw [hn3.out]; exact Nat.le_trans (len_wd_mono (Nat.sub_le _ _)) (Nat.le_trans HLN.out hl)
  have e2 := hx1.trans hx2
  clear ho2 ho3 hn3
  have HL2 : Hid ((wd r).length ≤ 1048576) := (show _ ≤ _ by rw [← hn2.out]; exact b2)
  go_wp2_with fail
  refine (ref2_Mul hr2 (by omega) hr2 (by omega)).mono ?_
  rintro e w4 ⟨A4, n4, c4, rfl, hn4, hr4, ho4, hx4⟩
  rw [nv_wd] at hn4 hr4
  have b4 : n4 ≤ 2097152 := by rw [hn4.out]; exact Nat.le_trans (len_wd_mul' HL2.out HL2.out) (by omega)
  go_wp2_with fail
  refine (ref1_Add hr4 (by omega) (hr3.ext hx4) (by omega)).mono ?_
  rintro e w5 ⟨A5, n5, c5, rfl, hn5, hr5, ho5, hx5⟩
  rw [nv_wd, nv_wd, hsum.out] at hn5 hr5
  have b5 : n5 ≤ 1048576 := by rw [hn5.out]; exact Nat.le_trans HLN.out hl
  have x25 := hx4.trans hx5
  go_wp2_with fail
  refine (ref1_Add (hr2.ext x25) (by omega) (hr2.ext x25) (by omega)).mono ?_
  rintro e w6 ⟨A6, n6, c6, rfl, hn6, hr6, ho6, hx6⟩
  rw [nv_wd] at hn6 hr6
  have b6 : n6 ≤ 1048577 := by rw [hn6.out]; exact Nat.le_trans (len_wd_add' HL2.out HL2.out) (by omega)
  have x26 := x25.trans hx6
  go_wp2_with fail
  refine (ref1_Cmp (hr3.ext x26) (by omega) hr6 (by omega)).mono ?_
  rintro e w7 ⟨c, hc, hcl, hch, rfl, hx7⟩
  rw [nv_wd, nv_wd] at hc
  have hcn : ¬ 0 < c := by
    intro h
    rw [hc.out] at h
    have h1 := cmp3_pos.1 h
    have h2 := hmost.out
    omega
  have x27 := x26.trans hx7
  have hr2' := hr2.ext x27
  have hr3' := hr3.ext x27
  have hr5' := hr5.ext (hx6.trans hx7)
  have e7 := e2.trans x27
  clear hr2 hr3 hr4 hr5 hr6 ho4 ho5 ho6 hn4 hn5 hn6 hc hmost hsum hrr hir hx4 hx5 hx6 hx7 x25 x26 x27
  go_wp2_with fail
  refine (law_least hr2' (by omega)).mono ?_
  rintro e w' ⟨rfl, rfl⟩
  go_wp2_with fail
  refine (law_least hr3' (by omega)).mono ?_
  rintro e w' ⟨rfl, rfl⟩
  go_wp2_with fail
  refine (ref1_Least (hx.ext e7) (by omega)).mono ?_
  rintro e w8 ⟨A8, n8, c8, rfl, hn8, hr8, ho8, hx8⟩
  have b8 : n8 ≤ 1048576 := by rw [hn8.out]; exact Nat.le_trans HLN.out hl
  go_wp2_with fail
  refine (ref1_Same (hr5'.ext hx8) (by omega) hr8 (by omega)).mono ?_
  rintro e w9 ⟨rfl, hx9⟩
  have ed : decide (wd (nv xs) = wd (nv xs)) = true := by simp
  rw [ed]
  have e9 := e7.trans (hx8.trans hx9)
  clear ed hr2' hr3' hr5' hr8 ho8 hn8 hx8 hx9 e7
  by_cases hk : k < 1
  · go_wp2_with fail
    refine (divnat_Root_bad hk).mono ?_
    rintro e w' ⟨rfl, rfl⟩
    go_wp2_with fail
    go_ret
    exact ⟨rfl, e9⟩
  · obtain ⟨K, rfl⟩ : ∃ K : Nat, k = (K : Int) := ⟨k.toNat, by omega⟩
    have hK1 : 1 ≤ K := by omega
    have hK2 : K ≤ 9223372036854775807 := by omega
    go_wp2_with fail
    refine (divnat_Root (hx.ext e9) (by omega) hK1 hK2).mono ?_
    rintro e w10 ⟨q, hiq, A10, n10, c10, rfl, hn10, hr10, ho10, hx10⟩
    have b10 : n10 ≤ n := by rw [hn10.out]; exact Nat.le_trans (len_wd_mono (hiq.out.le_self hK1)) HLN.out
    have hlen : ¬ (n : Int) < (n10 : Int) := by omega
    have e10 := e9.trans hx10
    clear ho10 hn10
    go_wp2_with fail
    refine (law_least hr10 (by omega)).mono ?_
    rintro e w' ⟨rfl, rfl⟩
    go_wp2_with fail
    refine (law_atMost hr10 (by omega) hK2 (hx.ext e10) (by omega) (t := true) (by rw [nv_wd]; exact (decide_eq_true hiq.out.1).symm)).mono ?_
    rintro e w11 ⟨rfl, hx11⟩
    have e11 := e10.trans hx11
    go_wp2_with fail
    have h1 : Rd (w11.alloc (.cells #[.int .u64 1] 23)) (some ⟨w11.heap.size, 0, none⟩) 1 1 [1] := Rd.one w11 (x := 1) (by omega)
    refine (ref1_Add (hr10.ext (hx11.trans (by repeat (first | exact Ext.refl _ | assumption | apply Ext.drewN | apply Ext.drew | apply Ext.alloc)))) (by omega) h1 (by omega)).mono ?_
    rintro e w12 ⟨A12, n12, c12, rfl, hn12, hr12, ho12, hx12⟩
    rw [nv_wd, nv_one] at hn12 hr12
    have b12 : n12 ≤ 2097152 := by
      have h1 := hr10.wdlen
      rw [nv_wd] at h1
      have h2 : (wd 1).length = 1 := by decide +kernel
      rw [hn12.out]; exact Nat.le_trans (len_wd_add' h1 (Nat.le_of_eq h2)) (by omega)
    have e12 : Ext w w12 := e11.trans (((Ext.refl w11).alloc _).trans hx12)
    clear h1 ho12 hn12
    go_wp2_with fail
    refine (law_atMost hr12 (by omega) hK2 (hx.ext e12) (by omega) (t := false) (by rw [nv_wd]; exact (decide_eq_false (Nat.not_le_of_gt hiq.out.2)).symm)).mono ?_
    rintro e w13 ⟨rfl, hx13⟩
    go_wp2_with fail
    go_ret
    exact ⟨rfl, e12.trans hx13⟩

theorem len_pows {X Y : Nat} (hX : (wd X).length ≤ 1048576) (hY : (wd Y).length ≤ 1048576) : ∀ i, (wd (X * Y ^ i)).length ≤ 1048576 * (i + 1) := by
  intro i
  induction i with
  | zero => rw [Nat.pow_zero, Nat.mul_one]; omega
  | succ i ih =>
    rw [Nat.pow_succ, ← Nat.mul_assoc]
    have := len_wd_mul' ih hY
    omega
set_option maxHeartbeats 8000000 in
theorem law_DivnatStripped {w : World} {A B : Option Addr} {n cap n' cap' : Nat} {xs ys : List Nat} (hx : Rd w A n cap xs) (hl : n ≤ 1048576) (hy : Rd w B n' cap' ys) (hl' : n' ≤ 1048576) {v : Nat} (hvb : v ≤ 18446744073709551615) :
    Calls Try.prog 6 #[.slice A n cap, .slice B n' cap', .int .u64 (v : Int)] w (BoolP true w) := by
  have HLX := Lib.hid (Nat.le_trans hx.wdlen hl)
  have HLY := Lib.hid (Nat.le_trans hy.wdlen hl')
  obtain ⟨X, hX⟩ : ∃ X, nv xs = X := ⟨_, rfl⟩
  obtain ⟨Y, hY⟩ : ∃ Y, nv ys = Y := ⟨_, rfl⟩
  rw [hX] at HLX
  rw [hY] at HLY
  have HX := Lib.hid hX
  have HY := Lib.hid hY
  clear hX hY
  go_enter Try.func6, Try.ntmps6
  go_wp2_with fail
  refine (law_wakes w).mono ?_
  rintro e w1 ⟨rfl, hx1⟩
  by_cases hbad : X = 0 ∨ Y < 2
  · go_wp2_with fail
    refine (divnat_Strip_bad (hx.ext hx1) (by omega) (hy.ext hx1) (by omega) (by rw [HX.out, HY.out]; exact hbad)).mono ?_
    rintro e w2 ⟨rfl, hx2⟩
    have e2 := hx1.trans hx2
    have HBAD := Lib.hid hbad
    clear hbad
    go_wp2_with fail
    refine (ref1_BitLen (hx.ext e2) (by omega)).mono ?_
    rintro e w3 ⟨b, hb, rfl, hx3⟩
    rw [HX.out] at hb
    have e3 := e2.trans hx3
    by_cases hb0 : b = 0
    · subst hb0
      go_wp2_with fail
      go_ret
      exact ⟨rfl, e3⟩
    · have bb : ((b : Int) == 0) = false := by simp; omega
      go_wp2_with fail
      refine (ref1_BitLen (hy.ext e3) (by omega)).mono ?_
      rintro e w4 ⟨b4, hb4, rfl, hx4⟩
      rw [HY.out] at hb4
      have hb42 : (b4 : Int) < 2 := by
        have hY2 : Y < 2 := by
          rcases HBAD.out with h | h
          · exact absurd (by rw [hb.out, h]; rfl) hb0
          · exact h
        have : blen Y ≤ 1 := blen_le (by omega)
        rw [← hb4.out] at this
        omega
      go_wp2_with fail
      go_ret
      exact ⟨rfl, e3.trans hx4⟩
  · have HX0 : Hid (X ≠ 0) := fun h => hbad (Or.inl h)
    have HY2 : Hid (2 ≤ Y) := (show _ ≤ _ by omega)
    clear hbad
    go_wp2_with fail
    refine (divnat_Strip (hx.ext hx1) (by omega) (hy.ext hx1) (by omega) (by rw [HX.out]; exact HX0.out) (by rw [HY.out]; exact HY2.out)).mono ?_
    rintro e w2 ⟨k, L, A2, n2, c2, rfl, hL, hLY, hn2, hr2, ho2, hx2⟩
    rw [HX.out, HY.out] at hL
    rw [HY.out] at hLY
    have e2 := hx1.trans hx2
    have hLX : Hid (L ≤ X) := by
      have := Nat.le_mul_of_pos_right L (pow_pos' (N := k) HY2.out)
      rw [hL.out] at this
      exact this
    have hYX : Hid (Y ^ k ≤ X) := by
      have := Nat.le_mul_of_pos_left (Y ^ k) (strip_pos HX0.out hL.out)
      rw [hL.out] at this
      exact this
    have b2 : n2 ≤ 1048576 := by rw [hn2.out]; exact Nat.le_trans (len_wd_mono hLX.out) HLX.out
    clear ho2 hn2
    go_wp2_with fail
    refine (ref1_BitLen (hx.ext e2) (by omega)).mono ?_
    rintro e w3 ⟨b, hb, rfl, hx3⟩
    rw [HX.out] at hb
    have hkb : k ≤ b := by rw [hb.out]; exact strip_le HX0.out HY2.out hL.out
    have hbb : b ≤ 67108864 := by
      rw [hb.out]
      have := blen_le (n := X) (k := 64 * n) (by rw [Nat.pow_mul, ← WB_pow, ← hx.len, ← HX.out]; exact nv_lt hx.wf)
      omega
    have bb : ((b : Int) == 0) = false := by
      have : b ≠ 0 := fun h => HX0.out (blen_eq_zero.1 (by rw [← hb.out, h]))
      simp; omega
    have e3 := e2.trans hx3
    go_wp2_with fail
    refine (ref1_BitLen (hy.ext e3) (by omega)).mono ?_
    rintro e w4 ⟨b4, hb4, rfl, hx4⟩
    rw [HY.out] at hb4
    have hb42 : ¬ (b4 : Int) < 2 := by
      intro h
      have h1 := lt_blen Y
      have h2 : 2 ^ blen Y ≤ 2 ^ 1 := Nat.pow_le_pow_right (by omega) (by rw [← hb4.out]; omega)
      have := HY2.out
      omega
    have e4 := e3.trans hx4
    have hk0 : ¬ (k : Int) < 0 := by omega
    go_wp2_with fail
    refine (ref1_BitLen (hx.ext e4) (by omega)).mono ?_
    rintro e w5 ⟨b5, hb5, rfl, hx5⟩
    rw [HX.out] at hb5
    obtain rfl : b5 = b := by rw [hb5.out, hb.out]
    have hkb' : ¬ (b5 : Int) < (k : Int) := by omega
    have e5 := e4.trans hx5
    have x25 : Ext w2 w5 := hx3.trans (hx4.trans hx5)
    have hr5 := hr2.ext x25
    clear hr2 x25 hb42 hb4 bb
    go_wp2_with fail
    refine (law_least hr5 (by omega)).mono ?_
    rintro e w' ⟨rfl, rfl⟩
    go_wp2_with fail
    refine (divnat_Exact_not hr5 (by omega) (hy.ext e5) (by omega) (by rw [HY.out]; have := HY2.out; omega) (by rw [nv_wd, HY.out]; exact hLY.out)).mono ?_
    rintro e w6 ⟨rfl, hx6⟩
    have e6 := e5.trans hx6
    go_wp2_with fail
    refine (law_atMost (hy.ext e6) (by omega) (k := k) (by omega) (hx.ext e6) (by omega) (t := true) (by rw [HX.out, HY.out]; exact (decide_eq_true hYX.out).symm)).mono ?_
    rintro e w7 ⟨rfl, hx7⟩
    have e7 := e6.trans hx7
    have hr7 := hr5.ext (hx6.trans hx7)
    clear hr5
    have e1 : wd 1 = [1] := by decide +kernel
    have h1 : Rd (w7.alloc (.cells #[.int .u64 1] 23)) (some ⟨w7.heap.size, 0, none⟩) 1 1 (wd 1) := by rw [e1]; exact Rd.one w7 (x := 1) (by omega)
    obtain ⟨wa, hwa⟩ : ∃ wa, w7.alloc (.cells #[.int .u64 1] 23) = wa := ⟨_, rfl⟩
    have hea : Ext w7 wa := by rw [← hwa]; exact (Ext.refl w7).alloc _
    go_upto_region 16 with (fail)
    rw [hwa] at h1
    have ea : Ext w wa := e7.trans hea
    have hra := hr7.ext hea
    clear hwa hea hr7
    have hk40 : Hid (k / (2 * 1099511627776) = 0) := Nat.div_eq_of_lt (by omega)
    go_loopw [13, 14] (fun u v ws => ∃ (P : Option Addr) (q c β V : Nat), u = .slice P q c ∧ v = .int .i64 (β : Int) ∧ β ≤ 1099511627776 ∧ Hid (β = 0 ∨ ∃ i, β = 2 ^ i) ∧ q ≤ 1048576 ∧ Hid (q = (wd V).length) ∧ Rd ws P q c (wd V) ∧ Hid (V = Y ^ (if β = 0 then k else k / (2 * β))) ∧ Ext wa ws) (fun u v ws => (intOf v).toNat)
    case atStart => exact ⟨_, 1, 1, 1099511627776, 1, rfl, rfl, Nat.le_refl _, Or.inr ⟨40, by decide⟩, by omega, (show _ = _ by rw [e1]; rfl), h1, (show _ = _ by rw [if_neg (by omega), hk40.out, Nat.pow_zero]), Ext.refl _⟩
    case round =>
      obtain ⟨P, q, c, γ, V, rfl, rfl, hγk, hγ, hqb, hq, hrp, hV, hrs⟩ := hrel
      clear h1 hk40
      have esr := ea.trans hrs
      by_cases hγ0 : γ = 0
      · subst hγ0
        have hVk : Hid (V = Y ^ k) := by
          have := hV.out
          rw [if_pos rfl] at this
          exact this
        have hprod : Hid (V * L = X) := (show _ = _ by rw [hVk.out, Nat.mul_comm]; exact hL.out)
        clear hV hγ hγk
        go_wp2_with fail
        refine (ref2_Mul hrp (by omega) (hra.ext hrs) (by omega)).mono ?_
        rintro e w8 ⟨A8, n8, c8, rfl, hn8, hr8, ho8, hx8⟩
        rw [nv_wd, nv_wd, hprod.out] at hn8 hr8
        have b8 : n8 ≤ 1048576 := by rw [hn8.out]; exact HLX.out
        have e8 := esr.trans hx8
        go_wp2_with fail
        refine (ref1_Least (hx.ext e8) (by omega)).mono ?_
        rintro e w9 ⟨A9, n9, c9, rfl, hn9, hr9, ho9, hx9⟩
        rw [HX.out] at hn9 hr9
        have b9 : n9 ≤ 1048576 := by rw [hn9.out]; exact HLX.out
        go_wp2_with fail
        refine (ref1_Same (hr8.ext hx9) (by omega) hr9 (by omega)).mono ?_
        rintro e w10 ⟨rfl, hx10⟩
        have ed : decide (wd X = wd X) = true := by simp
        rw [ed]
        have e10 := e8.trans (hx9.trans hx10)
        have hr10 := hr8.ext (hx9.trans hx10)
        have hrl10 := hra.ext (hrs.trans (hx8.trans (hx9.trans hx10)))
        clear ed hrp hr8 hr9 ho8 ho9 hn9 hq hprod hVk
        obtain ⟨M, hM⟩ : ∃ M : Nat, (v : Int) % 24 = (M : Int) := ⟨v % 24, by omega⟩
        have hMb : M ≤ 23 := by omega
        have HM := Lib.hid hM
        have hm1 := Int.emod_nonneg (v : Int) (b := 24) (by omega)
        have hm2 := Int.emod_lt_of_pos (v : Int) (b := 24) (by omega)
        clear hM
        go_upto_region 26 with (fail)
        clear hm1 hm2
        rw [HM.out]
        clear HM
        go_loopw [13, 16] (fun u v ws => ∃ (P : Option Addr) (q c i : Nat), u = .slice P q c ∧ v = .int .i64 (i : Int) ∧ i ≤ M ∧ q ≤ 25165824 ∧ Hid (q = (wd (X * Y ^ i)).length) ∧ Rd ws P q c (wd (X * Y ^ i)) ∧ Ext w10 ws) (fun u v ws => M - (intOf v).toNat)
        case atStart =>
          have e0 : X * Y ^ 0 = X := by rw [Nat.pow_zero, Nat.mul_one]
          exact ⟨A8, n8, c8, 0, rfl, rfl, Nat.zero_le _, by omega, (show _ = _ by rw [e0]; exact hn8.out), (by rw [e0]; exact hr10), Ext.refl _⟩
        case round =>
          obtain ⟨P, q, c, i, rfl, rfl, hiM, hqb, hq, hrp, hrs2⟩ := hrel
          clear hr10 hn8
          have es2 := e10.trans hrs2
          by_cases hlt : i < M
          · go_wp2_with fail
            refine (ref2_Mul hrp (by omega) (hy.ext es2) (by omega)).mono ?_
            rintro e w11 ⟨A11, n11, c11, rfl, hn11, hr11, ho11, hx11⟩
            have ep : X * Y ^ i * Y = X * Y ^ (i + 1) := by rw [Nat.pow_succ, Nat.mul_assoc]
            rw [nv_wd, HY.out, ep] at hn11 hr11
            have b11 : n11 ≤ 25165824 := by
              rw [hn11.out]; exact Nat.le_trans (len_pows HLX.out HLY.out (i + 1)) (by omega)
            clear ep ho11
            go_wp2_with fail
            go_roundw
            case rel => exact ⟨A11, n11, c11, i + 1, rfl, rfl, by omega, b11, hn11, hr11, hrs2.trans hx11⟩
            case measure => simp [intOf]; omega
          · obtain rfl : i = M := by omega
            have HN0 : Hid (X * Y ^ i ≠ 0) := Nat.ne_of_gt (Nat.mul_pos (Nat.pos_of_ne_zero HX0.out) (pow_pos' HY2.out))
            go_wp2_with fail
            refine (divnat_Strip hrp (by omega) (hy.ext es2) (by omega) (by rw [nv_wd]; exact HN0.out) (by rw [HY.out]; exact HY2.out)).mono ?_
            rintro e w12 ⟨j, L2, A12, n12, c12, rfl, hL2, hLY2, hn12, hr12, ho12, hx12⟩
            rw [nv_wd, HY.out] at hL2
            rw [HY.out] at hLY2
            obtain ⟨hj, hLL⟩ := strip_uniq HY2.out (L := L2) (M := L) (k := j) (j := k + i) (by rw [hL2.out, Nat.pow_add, ← Nat.mul_assoc, hL.out]) hLY2.out hLY.out
            have b12 : n12 ≤ 1048576 := by rw [hn12.out, hLL]; exact Nat.le_trans (len_wd_mono hLX.out) HLX.out
            have bj : ((j : Int) == (k : Int) + (i : Int)) = true := by simp; omega
            have HLL := Lib.hid hLL
            clear hj hLL hn12 ho12
            go_wp2_with fail
            refine (ref1_Same hr12 (by omega) (hrl10.ext (hrs2.trans hx12)) (by omega)).mono ?_
            rintro e w13 ⟨rfl, hx13⟩
            have ed : decide (wd L2 = wd L) = true := by rw [HLL.out]; simp
            rw [ed]
            go_wp2_with fail
            go_ret
            exact ⟨rfl, es2.trans (hx12.trans hx13)⟩
      · have hγ1 : 0 < (γ : Int) := by omega
        obtain ⟨i, hi⟩ : ∃ i, γ = 2 ^ i := by
          rcases hγ.out with h | h
          · exact absurd h hγ0
          · exact h
        have HI := Lib.hid hi
        have hV2 : Hid (Y ^ (k / γ) = V * V * (if k / γ % 2 = 1 then Y else 1)) := by
          show _ = _
          have := hV.out
          rw [if_neg hγ0] at this
          rw [this, hi]
          exact pow_exp
        clear hi hV
        obtain ⟨d, hd⟩ : ∃ d, k / γ = d := ⟨_, rfl⟩
        obtain ⟨d2, hd2⟩ : ∃ d2, d % 2 = d2 := ⟨_, rfl⟩
        obtain ⟨γ', hγ'⟩ : ∃ γ', γ / 2 = γ' := ⟨_, rfl⟩
        have hdk : d ≤ k := by rw [← hd]; exact Nat.div_le_self _ _
        have hg1 : γ' ≤ 1099511627776 := by omega
        have hg2 : γ' < γ := by omega
        have Q49 : ∀ (P : Program) (t' : TypeId) (w : World), (binOp .quo t' (.int .i64 (k : Int)) (.int .i64 (γ : Int))).run P w = .ok (.int .i64 ((d : Nat) : Int)) w := by
          rw [← hd]
          exact i64_quo hγ0 (by omega)
        have Q50 : ∀ (P : Program) (t' : TypeId) (w : World), (binOp .rem t' (.int .i64 (d : Int)) (.int .i64 2)).run P w = .ok (.int .i64 ((d2 : Nat) : Int)) w := by
          rw [← hd2]
          exact i64_rem (x := d) (y := 2) (by omega) (by omega)
        have Q61 : ∀ (P : Program) (t' : TypeId) (w : World), (binOp .quo t' (.int .i64 (γ : Int)) (.int .i64 2)).run P w = .ok (.int .i64 ((γ' : Nat) : Int)) w := by
          rw [← hγ']
          exact i64_quo (x := γ) (y := 2) (by omega) (by omega)
        have HG : Hid (γ' = 0 ∨ ∃ j, γ' = 2 ^ j) := by
          show _ ∨ _
          rw [← hγ', HI.out]; exact half_pow2
        have HG2 : Hid ((if γ' = 0 then k else k / (2 * γ')) = d) := by
          show _ = _
          rw [← hγ', ← hd, HI.out]; exact exp_next
        rw [hd, hd2] at hV2
        have hRd : Hid (Y ^ d ≤ X) := Nat.le_trans (Nat.pow_le_pow_right (Nat.le_trans (by omega) HY2.out) hdk) hYX.out
        have hdl : Hid ((wd (Y ^ d)).length ≤ 1048576) := Nat.le_trans (len_wd_mono hRd.out) HLX.out
        have hd22 : d2 < 2 := by omega
        clear hd hd2 hγ' hγ HI
        go_wp2_with fail
        refine (ref2_Mul hrp (by omega) hrp (by omega)).mono ?_
        rintro e w8 ⟨A8, n8, c8, rfl, hn8, hr8, ho8, hx8⟩
        rw [nv_wd] at hn8 hr8
        have hVl : Hid ((wd V).length ≤ 1048576) := (show _ ≤ _ by rw [← hq.out]; exact hqb)
        have b8 : n8 ≤ 2097152 := by rw [hn8.out]; exact Nat.le_trans (len_wd_mul' hVl.out hVl.out) (by omega)
        clear ho8 hq
        by_cases hodd : d2 = 1
        · subst hodd
          have hV3 : Hid (V * V * Y = Y ^ d) := (show _ = _ by rw [hV2.out]; simp)
          go_wp2_with (first
            | ((with_reducible refine at_slot (some 89) ?_); refine wpl_i64 rfl rfl rfl rfl rfl Q49 ?_; intro r hr; obtain rfl : d = r := hr.out.symm; clear hr)
            | ((with_reducible refine at_slot (some 90) ?_); refine wpl_i64 rfl rfl rfl rfl rfl Q50 ?_; intro r hr; obtain rfl : r = 1 := hr.out; clear hr))
          refine (ref2_Mul hr8 (by omega) (hy.ext (esr.trans hx8)) (by omega)).mono ?_
          rintro e w9 ⟨A9, n9, c9, rfl, hn9, hr9, ho9, hx9⟩
          rw [nv_wd, HY.out, hV3.out] at hn9 hr9
          have b9 : n9 ≤ 1048576 := by rw [hn9.out]; exact hdl.out
          clear ho9
          go_wp2_with (first
            | ((with_reducible refine at_slot (some 83) ?_); refine wpl_i64 rfl rfl rfl rfl rfl Q61 ?_; intro r hr; obtain rfl : γ' = r := hr.out.symm; clear hr))
          go_roundw
          case rel => exact ⟨A9, n9, c9, γ', Y ^ d, rfl, rfl, hg1, HG, b9, hn9, hr9, (show _ = _ by rw [HG2.out]), hrs.trans (hx8.trans hx9)⟩
          case measure => simp [intOf]; omega
        · have bd : ((d2 : Int) == 1) = false := by simp; omega
          have hV3 : Hid (V * V = Y ^ d) := (show _ = _ by rw [hV2.out, if_neg hodd, Nat.mul_one])
          rw [hV3.out] at hr8 hn8
          have b9 : n8 ≤ 1048576 := by rw [hn8.out]; exact hdl.out
          clear hodd
          go_wp2_with (first
            | ((with_reducible refine at_slot (some 89) ?_); refine wpl_i64 rfl rfl rfl rfl rfl Q49 ?_; intro r hr; obtain rfl : d = r := hr.out.symm; clear hr)
            | ((with_reducible refine at_slot (some 90) ?_); refine wpl_i64 rfl rfl rfl rfl rfl Q50 ?_; intro r hr; obtain rfl : d2 = r := hr.out.symm; clear hr)
            | ((with_reducible refine at_slot (some 83) ?_); refine wpl_i64 rfl rfl rfl rfl rfl Q61 ?_; intro r hr; obtain rfl : γ' = r := hr.out.symm; clear hr))
          go_roundw
          case rel => exact ⟨A8, n8, c8, γ', Y ^ d, rfl, rfl, hg1, HG, b9, hn8, hr8, (show _ = _ by rw [HG2.out]), hrs.trans hx8⟩
          case measure => simp [intOf]; omega
end Go.Proofs.Ytacdaafnlbeagaa
