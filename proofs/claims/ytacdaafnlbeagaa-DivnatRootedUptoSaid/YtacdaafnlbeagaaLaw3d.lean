/- trellislaw03: atMost, DivnatRooted, DivnatStripped -/
import Derived.Test.YtacdaafnlbeagaaLaw3b
import Derived.Test.YtacdaafnlbeagaaRoot
import Derived.Test.YtacdaafnlbeagaaStrip
namespace Go.Proofs.Ytacdaafnlbeagaa
open Go.RowKit

theorem exp_next {i k : Nat} : (if 2 ^ i / 2 = 0 then k else k / (2 * (2 ^ i / 2))) = k / 2 ^ i := by
  cases i with
  | zero => simp
  | succ i =>
    have e : 2 ^ (i + 1) / 2 = 2 ^ i := by rw [Nat.pow_succ]; exact Nat.mul_div_cancel _ (by omega)
    have h := Nat.two_pow_pos i
    rw [e, if_neg (by omega), Nat.pow_succ, Nat.mul_comm 2]
theorem half_pow2 {i : Nat} : 2 ^ i / 2 = 0 ∨ ∃ j, 2 ^ i / 2 = 2 ^ j := by
  cases i with
  | zero => exact Or.inl (by decide)
  | succ i => exact Or.inr ⟨i, by rw [Nat.pow_succ]; exact Nat.mul_div_cancel _ (by omega)⟩
theorem pow_exp {S k i : Nat} : S ^ (k / 2 ^ i) = S ^ (k / (2 * 2 ^ i)) * S ^ (k / (2 * 2 ^ i)) * (if k / 2 ^ i % 2 = 1 then S else 1) := by
  have := pow_half (S := S) (n := k) (k := i)
  rw [Nat.pow_succ, Nat.mul_comm (2 ^ i) 2] at this
  exact this

set_option maxHeartbeats 4000000 in
theorem law_atMost {w : World} {A B : Option Addr} {n cap n' cap' : Nat} {rs ys : List Nat} (hx : Rd w A n cap rs) (hl : n ≤ 268435456) {k : Nat} (hk : k ≤ 9223372036854775807) (hy : Rd w B n' cap' ys) (hl' : n' ≤ 268435456) {t : Bool} (ht : t = decide (nv rs ^ k ≤ nv ys)) :
    Calls Try.prog 24 #[.slice A n cap, .int .i64 (k : Int), .slice B n' cap'] w (BoolP t w) := by
  have HT := Lib.hid ht
  have HLR := Lib.hid (Nat.le_trans hx.wdlen hl)
  have HLY := Lib.hid (Nat.le_trans hy.wdlen hl')
  clear ht
  obtain ⟨R, hR⟩ : ∃ R, nv rs = R := ⟨_, rfl⟩
  obtain ⟨Y, hY⟩ : ∃ Y, nv ys = Y := ⟨_, rfl⟩
  rw [hR] at HT HLR
  rw [hY] at HT HLY
  have HR := Lib.hid hR
  have HY := Lib.hid hY
  clear hR hY
  go_enter Try.func24, Try.ntmps24
  go_wp2_with fail
  refine (ref1_BitLen hx (by omega)).mono ?_
  rintro e w1 ⟨b, hb, rfl, hx1⟩
  rw [HR.out] at hb
  go_wp2_with fail
  refine (ref1_BitLen (hy.ext hx1) (by omega)).mono ?_
  rintro e w2 ⟨m, hm, rfl, hx2⟩
  rw [HY.out] at hm
  have e2 := hx1.trans hx2
  have hmb : m ≤ 17179869184 := by
    rw [hm.out]
    have := blen_le (n := Y) (k := 64 * n') (by rw [Nat.pow_mul, ← WB_pow, ← hy.len, ← HY.out]; exact nv_lt hy.wf)
    omega
  have hm0 : m = 0 → Y = 0 := fun h => blen_eq_zero.1 (by rw [← hm.out, h])
  have HM0 := Lib.hid hm0
  clear hm0
  by_cases hzero : b = 0 ∧ 0 < k
  · obtain ⟨rfl, hk0⟩ := hzero
    have hk0' : 0 < (k : Int) := by omega
    have ht : t = true := by
      have hR0 : R = 0 := blen_eq_zero.1 hb.out.symm
      rw [HT.out, hR0, Nat.zero_pow hk0]; simp
    subst ht
    go_wp2_with fail
    go_ret
    exact ⟨rfl, e2⟩
  · by_cases hone : b ≤ 1 ∨ k = 0
    · have hR1 : R ^ k = 1 := by
        rcases Nat.eq_zero_or_pos k with h | h
        · rw [h, Nat.pow_zero]
        · have hb1 : b = 1 := by omega
          have h1 := lt_blen R
          have h2 : R ≠ 0 := fun e => by rw [e] at hb; rw [hb.out] at hb1; exact absurd hb1 (by decide)
          rw [← hb.out, hb1, Nat.pow_one] at h1
          rw [show R = 1 by omega, Nat.one_pow]
      have ht : t = decide (0 < m) := by
        rw [HT.out, hR1]
        have h1 := HM0.out
        have h2 : Y = 0 → m = 0 := fun h => by rw [hm.out, h]; rfl
        by_cases h : m = 0
        · rw [h1 h, h]; rfl
        · have : Y ≠ 0 := fun e => h (h2 e)
          rw [decide_eq_true (show 1 ≤ Y by omega), decide_eq_true (show 0 < m by omega)]
      clear hR1 HT
      by_cases h : m = 0
      · subst h
        obtain rfl : t = false := by rw [ht]; rfl
        clear ht
        by_cases hb0 : b = 0
        · subst hb0
          obtain rfl : k = 0 := by omega
          go_wp2_with fail
          go_ret
          exact ⟨rfl, e2⟩
        · have bb : ((b : Int) == 0) = false := by simp; omega
          by_cases hb1 : b = 1
          · subst hb1
            go_wp2_with fail
            go_ret
            exact ⟨rfl, e2⟩
          · obtain rfl : k = 0 := by omega
            have hb2 : ¬ (b : Int) ≤ 1 := by omega
            go_wp2_with fail
            go_ret
            exact ⟨rfl, e2⟩
      · have hm1 : 0 < (m : Int) := by omega
        obtain rfl : t = true := by rw [ht]; simp; omega
        clear ht
        have hdm : decide (0 < m) = true := by simp; omega
        by_cases hb0 : b = 0
        · subst hb0
          obtain rfl : k = 0 := by omega
          go_wp2_with fail
          go_ret
          exact ⟨rfl, e2⟩
        · have bb : ((b : Int) == 0) = false := by simp; omega
          by_cases hb1 : b = 1
          · subst hb1
            go_wp2_with fail
            go_ret
            exact ⟨rfl, e2⟩
          · obtain rfl : k = 0 := by omega
            have hb2 : ¬ (b : Int) ≤ 1 := by omega
            go_wp2_with fail
            go_ret
            exact ⟨rfl, e2⟩
    · have hb2 : ¬ (b : Int) ≤ 1 := by omega
      have hk0 : ((k : Int) == 0) = false := by simp; omega
      have hk1 : 1 ≤ k := by omega
      have HR2 : Hid (2 ≤ R) := by
        refine Nat.le_of_not_lt (fun h => ?_)
        have : blen R ≤ 1 := blen_le (by omega)
        rw [← hb.out] at this
        omega
      clear hzero hone
      by_cases hkm : m < k
      · have hkm' : (m : Int) < (k : Int) := by omega
        obtain rfl : t = false := by
          rw [HT.out]
          have h1 := lt_blen Y
          have h2 : 2 ^ blen Y ≤ 2 ^ k := Nat.pow_le_pow_right (by omega) (by rw [← hm.out]; omega)
          have h3 : 2 ^ k ≤ R ^ k := Nat.pow_le_pow_left HR2.out k
          exact decide_eq_false (by omega)
        clear HT
        go_wp2_with fail
        go_ret
        exact ⟨rfl, e2⟩
      · have hkm' : ¬ (m : Int) < (k : Int) := by omega
        have hY1 : Hid (1 ≤ Y) := by
          refine Nat.pos_of_ne_zero (fun e => ?_)
          have : m = 0 := by rw [hm.out, e]; rfl
          omega
        obtain ⟨hf, hhf⟩ : ∃ hf, k / 2 = hf := ⟨_, rfl⟩
        have hhf2 : hf ≤ k := by omega
        have hhf3 : 2 * hf ≤ k := by omega
        have hhf4 : k ≤ 2 * hf + 1 := by omega
        have Q37 : ∀ (P : Program) (t' : TypeId) (w : World), (binOp .quo t' (.int .i64 (k : Int)) (.int .i64 2)).run P w = .ok (.int .i64 ((hf : Nat) : Int)) w := by
          rw [← hhf]
          exact i64_quo (x := k) (y := 2) (by omega) (by omega)
        clear hhf
        have e1 : wd 1 = [1] := by decide +kernel
        have h1 : Rd (w2.alloc (.cells #[.int .u64 1] 23)) (some ⟨w2.heap.size, 0, none⟩) 1 1 (wd 1) := by rw [e1]; exact Rd.one w2 (x := 1) (by omega)
        obtain ⟨wa, hwa⟩ : ∃ wa, w2.alloc (.cells #[.int .u64 1] 23) = wa := ⟨_, rfl⟩
        have hea : Ext w2 wa := by rw [← hwa]; exact (Ext.refl w2).alloc _
        go_upto_region 9 with (fail)
        rw [hwa] at h1
        have ea : Ext w wa := e2.trans hea
        clear hwa hea
        go_loopw [10] (fun u wr => ∃ β : Nat, u = .int .i64 (β : Int) ∧ β ≤ k ∧ 1 ≤ β ∧ Hid (∃ i, β = 2 ^ i) ∧ wr = wa) (fun u wr => k - (intOf u).toNat)
        case atStart => exact ⟨1, rfl, hk1, Nat.le_refl _, ⟨0, rfl⟩, rfl⟩
        case round =>
          obtain ⟨β, rfl, hβk, hβ1, hβ, rfl⟩ := hrel
          by_cases hlt : β ≤ hf
          · go_wp2_with (first
              | ((with_reducible refine at_slot (some 37) ?_); refine wpl_i64 rfl rfl rfl rfl rfl Q37 ?_; intro r hr; obtain rfl : hf = r := hr.out.symm; clear hr))
            go_roundw
            case rel => exact ⟨2 * β, val_int (by omega), by omega, by omega, (by obtain ⟨i, hi⟩ := hβ.out; exact ⟨i + 1, by rw [hi, Nat.pow_succ, Nat.mul_comm]⟩), trivial⟩
            case measure => simp [intOf]; omega
          · have hlt' : ¬ (β : Int) ≤ (hf : Int) := by omega
            have hV0 : Hid (k / (2 * β) = 0) := Nat.div_eq_of_lt (by omega)
            go_wp2_with (first
              | ((with_reducible refine at_slot (some 37) ?_); refine wpl_i64 rfl rfl rfl rfl rfl Q37 ?_; intro r hr; obtain rfl : hf = r := hr.out.symm; clear hr))
            clear Q37
            go_loopw [9, 10] (fun u v ws => ∃ (P : Option Addr) (q c β V : Nat), u = .slice P q c ∧ v = .int .i64 (β : Int) ∧ β ≤ k ∧ Hid (β = 0 ∨ ∃ i, β = 2 ^ i) ∧ q ≤ 268435456 ∧ Hid (q = (wd V).length) ∧ Rd ws P q c (wd V) ∧ Hid (V = R ^ (if β = 0 then k else k / (2 * β))) ∧ Hid (V ≤ Y) ∧ Ext w ws) (fun u v ws => (intOf v).toNat)
            case atStart => exact ⟨_, 1, 1, β, 1, rfl, rfl, hβk, Or.inr hβ.out, by omega, (show _ = _ by rw [e1]; rfl), h1, (show _ = _ by rw [if_neg (by omega), hV0.out, Nat.pow_zero]), hY1.out, ea⟩
            case round =>
              obtain ⟨P, q, c, γ, V, rfl, rfl, hγk, hγ, hqb, hq, hrp, hV, hVY, hrs⟩ := hrel
              clear h1 ea hlt hlt' hV0 hβ hβk hβ1
              by_cases hγ0 : γ = 0
              · subst hγ0
                obtain rfl : t = true := by
                  have := hV.out
                  rw [if_pos rfl] at this
                  rw [HT.out, ← this]
                  exact decide_eq_true hVY.out
                go_wp2_with fail
                go_ret
                exact ⟨rfl, hrs⟩
              · have hγ1 : 0 < (γ : Int) := by omega
                obtain ⟨i, hi⟩ : ∃ i, γ = 2 ^ i := by
                  rcases hγ.out with h | h
                  · exact absurd h hγ0
                  · exact h
                have HI := Lib.hid hi
                have hV2 : Hid (R ^ (k / γ) = V * V * (if k / γ % 2 = 1 then R else 1)) := by
                  show _ = _
                  have := hV.out
                  rw [if_neg hγ0] at this
                  rw [this, hi]
                  exact pow_exp
                clear hi hV
                obtain ⟨d, hd⟩ : ∃ d, k / γ = d := ⟨_, rfl⟩
                obtain ⟨d2, hd2⟩ : ∃ d2, d % 2 = d2 := ⟨_, rfl⟩
                obtain ⟨γ', hγ'⟩ : ∃ γ', γ / 2 = γ' := ⟨_, rfl⟩
                have hdk : d ≤ k := by rw [← hd]; exact Nat.div_le_self _ _
                have hg1 : γ' ≤ k := by omega
                have hg2 : γ' < γ := by omega
                have Q49 : ∀ (P : Program) (t' : TypeId) (w : World), (binOp .quo t' (.int .i64 (k : Int)) (.int .i64 (γ : Int))).run P w = .ok (.int .i64 ((d : Nat) : Int)) w := by
                  rw [← hd]
                  exact i64_quo hγ0 (by omega)
                have Q50 : ∀ (P : Program) (t' : TypeId) (w : World), (binOp .rem t' (.int .i64 (d : Int)) (.int .i64 2)).run P w = .ok (.int .i64 ((d2 : Nat) : Int)) w := by
                  rw [← hd2]
                  exact i64_rem (x := d) (y := 2) (by omega) (by omega)
                have Q61 : ∀ (P : Program) (t' : TypeId) (w : World), (binOp .quo t' (.int .i64 (γ : Int)) (.int .i64 2)).run P w = .ok (.int .i64 ((γ' : Nat) : Int)) w := by
                  rw [← hγ']
                  exact i64_quo (x := γ) (y := 2) (by omega) (by omega)
                have HG : Hid (γ' = 0 ∨ ∃ j, γ' = 2 ^ j) := by
                  show _ ∨ _
                  rw [← hγ', HI.out]; exact half_pow2
                have HG2 : Hid ((if γ' = 0 then k else k / (2 * γ')) = d) := by
                  show _ = _
                  rw [← hγ', ← hd, HI.out]; exact exp_next
                rw [hd, hd2] at hV2
                have hRd : Hid (R ^ d ≤ R ^ k) := Nat.pow_le_pow_right (Nat.le_trans (by omega) HR2.out) hdk
                have hd22 : d2 < 2 := by omega
                clear hd hd2 hγ' hγ HI
                go_wp2_with fail
                refine (ref2_Mul hrp (by omega) hrp (by omega)).mono ?_
                rintro e w3 ⟨A3, n3, c3, rfl, hn3, hr3, ho3, hx3⟩
                rw [nv_wd] at hn3 hr3
                have hVl : Hid ((wd V).length ≤ 268435456) := (show _ ≤ _ by rw [← hq.out]; exact hqb)
                have hn3b : n3 ≤ 536870912 := by rw [hn3.out]; exact Nat.le_trans (len_wd_mul' hVl.out hVl.out) (by omega)
                clear ho3 hq
                by_cases hodd : d2 = 1
                case' pos =>
                  subst hodd
                  have hV3 : Hid (V * V * R = R ^ d) := (show _ = _ by rw [hV2.out]; simp)
                  go_wp2_with (first
                    | ((with_reducible refine at_slot (some 49) ?_); refine wpl_i64 rfl rfl rfl rfl rfl Q49 ?_; intro r hr; obtain rfl : d = r := hr.out.symm; clear hr)
                    | ((with_reducible refine at_slot (some 50) ?_); refine wpl_i64 rfl rfl rfl rfl rfl Q50 ?_; intro r hr; obtain rfl : r = 1 := hr.out; clear hr))
                  refine (ref2_Mul hr3 (by omega) (hx.ext (hrs.trans hx3)) (by omega)).mono ?_
                  rintro e w4 ⟨A4, n4, c4, rfl, hn4, hr4, ho4, hx4⟩
                  rw [nv_wd, HR.out] at hn4 hr4
                  have hn4b : n4 ≤ 805306368 := by
                    rw [hn4.out]
                    refine Nat.le_trans (len_wd_mul' (n := 536870912) ?_ HLR.out) (by omega)
                    rw [← hn3.out]; exact hn3b
                  have hx34 := hx3.trans hx4
                  rw [hV3.out] at hr4 hn4
                  clear ho4 hx3 hx4 hr3 hn3 hV3 hV2
                  go_upto_region 15 with (fail)
                case' neg =>
                  have bd : ((d2 : Int) == 1) = false := by simp; omega
                  have hV3 : Hid (V * V = R ^ d) := (show _ = _ by rw [hV2.out, if_neg hodd, Nat.mul_one])
                  go_upto_region 15 with (first
                    | ((with_reducible refine at_slot (some 49) ?_); refine wpl_i64 rfl rfl rfl rfl rfl Q49 ?_; intro r hr; obtain rfl : d = r := hr.out.symm; clear hr)
                    | ((with_reducible refine at_slot (some 50) ?_); refine wpl_i64 rfl rfl rfl rfl rfl Q50 ?_; intro r hr; obtain rfl : d2 = r := hr.out.symm; clear hr))
                  rw [hV3.out] at hr3 hn3
                  have hx34 := hx3
                  have hr4 := hr3
                  have hn4 := hn3
                  obtain ⟨A4, rfl⟩ : ∃ A4, A4 = A3 := ⟨_, rfl⟩
                  obtain ⟨n4, rfl⟩ : ∃ n4, n4 = n3 := ⟨_, rfl⟩
                  obtain ⟨c4, rfl⟩ : ∃ c4, c4 = c3 := ⟨_, rfl⟩
                  obtain ⟨w4, rfl⟩ : ∃ w4, w4 = w3 := ⟨_, rfl⟩
                  have hn4b : n4 ≤ 805306368 := by omega
                  clear hx3 hr3 hn3 hV3 hV2 hodd
                all_goals
                  go_wp2_with fail
                  refine (ref1_Cmp hr4 (by omega) (hy.ext (hrs.trans hx34)) (by omega)).mono ?_
                  rintro e w5 ⟨c5, hc, hcl, hch, rfl, hx5⟩
                  rw [nv_wd, HY.out] at hc
                  by_cases hpos : 0 < c5
                  · have hYR : Y < R ^ d := by rw [hc.out] at hpos; exact cmp3_pos.1 hpos
                    obtain rfl : t = false := by
                      rw [HT.out]
                      exact decide_eq_false (Nat.not_le_of_gt (Nat.lt_of_lt_of_le hYR hRd.out))
                    clear hYR HT
                    go_wp2_with fail
                    go_ret
                    exact ⟨rfl, hrs.trans (hx34.trans hx5)⟩
                  · have hYR : Hid (R ^ d ≤ Y) := by
                      rw [hc.out] at hpos
                      exact Nat.le_of_not_lt (fun h => hpos (cmp3_pos.2 h))
                    have hn4c : n4 ≤ 268435456 := by rw [hn4.out]; exact Nat.le_trans (len_wd_mono hYR.out) HLY.out
                    go_wp2_with (first
                      | ((with_reducible refine at_slot (some 61) ?_); refine wpl_i64 rfl rfl rfl rfl rfl Q61 ?_; intro r hr; obtain rfl : γ' = r := hr.out.symm; clear hr))
                    go_roundw
                    case rel => exact ⟨A4, n4, c4, γ', R ^ d, rfl, rfl, hg1, HG, hn4c, hn4, hr4.ext hx5, (show _ = _ by rw [HG2.out]), hYR, hrs.trans (hx34.trans hx5)⟩
                    case measure => simp [intOf]; omega
end Go.Proofs.Ytacdaafnlbeagaa
