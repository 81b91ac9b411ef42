/- divnat.power, and the plain laws of Newton's steps -/
import Derived.Test.YtmaconeeonkdgaaDivC
namespace Go.Proofs.Ytmaconeeonkdgaa
open Go.RowKit

/-- the mean of k numbers, k - 1 of them alike: without division -/
theorem mean_ge (t s : Nat) : ∀ m : Nat, (m + 1) * t * s ^ m ≤ t ^ (m + 1) + m * s ^ (m + 1) := by
  intro m
  induction m with
  | zero => simp
  | succ m ih =>
    have h1 := Nat.mul_le_mul_left t ih
    have hsq : 2 * (t * s) ≤ t * t + s * s := by
      rcases Nat.le_total t s with h | h
      · obtain ⟨d, rfl⟩ := Nat.exists_eq_add_of_le h
        have e1 : (t + d) * (t + d) = t * t + t * d + (t * d + d * d) := by rw [Nat.add_mul, Nat.mul_add, Nat.mul_add, Nat.mul_comm d t]
        have e2 : t * (t + d) = t * t + t * d := Nat.mul_add _ _ _
        rw [e1, e2]
        omega
      · obtain ⟨d, rfl⟩ := Nat.exists_eq_add_of_le h
        have e1 : (s + d) * (s + d) = s * s + s * d + (s * d + d * d) := by rw [Nat.add_mul, Nat.mul_add, Nat.mul_add, Nat.mul_comm d s]
        have e2 : (s + d) * s = s * s + s * d := by rw [Nat.add_mul, Nat.mul_comm d s]
        rw [e1, e2]
        omega
    have h2 := Nat.mul_le_mul_left ((m + 1) * s ^ m) hsq
    have e1 : t * ((m + 1) * t * s ^ m) = (m + 1) * s ^ m * (t * t) := by
      simp only [Nat.mul_comm, Nat.mul_left_comm, Nat.mul_assoc]
    have e2 : t * (t ^ (m + 1) + m * s ^ (m + 1)) = t ^ (m + 1 + 1) + m * (t * s ^ (m + 1)) := by
      rw [Nat.mul_add, Nat.pow_succ t (m + 1), Nat.mul_comm t (t ^ (m + 1)), Nat.mul_left_comm]
    have e3 : (m + 1) * s ^ m * (2 * (t * s)) = 2 * ((m + 1) * (t * s ^ (m + 1))) := by
      rw [Nat.pow_succ]; simp only [Nat.mul_comm, Nat.mul_left_comm, Nat.mul_assoc]
    have e4 : (m + 1) * s ^ m * (t * t + s * s) = (m + 1) * s ^ m * (t * t) + (m + 1) * s ^ (m + 1 + 1) := by
      rw [Nat.mul_add, Nat.pow_succ, Nat.pow_succ]; simp only [Nat.mul_comm, Nat.mul_assoc]
    rw [e1, e2] at h1
    rw [e3, e4] at h2
    have e5 : (m + 1 + 1) * t * s ^ (m + 1) = m * (t * s ^ (m + 1)) + 2 * (t * s ^ (m + 1)) := by
      rw [Nat.mul_assoc, ← Nat.add_mul]
    have e6 : (m + 1) * (t * s ^ (m + 1)) = m * (t * s ^ (m + 1)) + t * s ^ (m + 1) := Nat.succ_mul _ _
    rw [e5]
    rw [e6] at h2
    omega
/-- one step of Newton's: from above it stays above -/
theorem newton_above {X s q m : Nat} (hq : X < (q + 1) * s ^ m) : X < (((s * m + q) / (m + 1)) + 1) ^ (m + 1) := by
  have h1 := mean_ge (((s * m + q) / (m + 1)) + 1) s m
  have h2 : s * m + q + 1 ≤ (m + 1) * ((s * m + q) / (m + 1) + 1) := by
    have := Nat.lt_mul_div_succ (s * m + q) (show 0 < m + 1 by omega)
    exact this
  have h3 := Nat.mul_le_mul_right (s ^ m) h2
  have e : (s * m + q + 1) * s ^ m = m * s ^ (m + 1) + (q + 1) * s ^ m := by
    rw [Nat.add_assoc, Nat.add_mul, Nat.pow_succ]
    congr 1
    rw [Nat.mul_comm s m, Nat.mul_assoc, Nat.mul_comm s (s ^ m)]
  rw [e] at h3
  omega
/-- where the step does not fall, the root is there -/
theorem newton_stop {X s q m : Nat} (hs : 0 < s) (hq : q = X / s ^ m) (h : s ≤ (s * m + q) / (m + 1)) : s ^ (m + 1) ≤ X := by
  have h1 : s * (m + 1) ≤ s * m + q := (Nat.le_div_iff_mul_le (by omega)).1 h
  have h2 : s ≤ q := by rw [Nat.mul_succ] at h1; omega
  rw [hq] at h2
  have := (Nat.le_div_iff_mul_le (Nat.pow_pos hs)).1 h2
  rw [Nat.pow_succ, Nat.mul_comm]
  exact this
theorem i64_shr {x s : Nat} (hs : s ≤ 63) (P : Program) (t : TypeId) (w : World) : (binOp .shr t (.int .i64 (x : Int)) (.int .i64 (s : Int))).run P w = .ok (.int .i64 ((x / 2 ^ s : Nat) : Int)) w := by
  have e : ((x : Int) / 2 ^ min (s : Int).toNat IntKind.i64.bits) = ((x / 2 ^ s : Nat) : Int) := by
    rw [Int.toNat_natCast, show min s IntKind.i64.bits = s from Nat.min_eq_left (by show s ≤ 64; omega)]; simp
  simp only [binOp]
  rw [shift_shr_any _ _ _ _ (by omega), e]; rfl
theorem i64_and1 {x : Nat} (hx : x ≤ 9223372036854775807) (P : Program) (t : TypeId) (w : World) : (binOp .and t (.int .i64 (x : Int)) (.int .i64 ((1 : Nat) : Int))).run P w = .ok (.int .i64 ((x % 2 : Nat) : Int)) w := by
  have e : IntKind.i64.wrap ((BitVec.ofInt 64 (x : Int) &&& BitVec.ofInt 64 ((1 : Nat) : Int)).toNat : Int) = ((x % 2 : Nat) : Int) := by
    rw [BitVec.toNat_and, ofInt_64 (by omega), ofInt_64 (by omega), Nat.and_one_is_mod, wrap_i64_nat (by omega)]
  rw [← e]; rfl

theorem pow_half {S n k : Nat} : S ^ (n / 2 ^ k) = S ^ (n / 2 ^ (k + 1)) * S ^ (n / 2 ^ (k + 1)) * (if n / 2 ^ k % 2 = 1 then S else 1) := by
  have e : n / 2 ^ (k + 1) = n / 2 ^ k / 2 := by rw [Nat.pow_succ, Nat.div_div_eq_div_mul]
  rw [e, ← Nat.pow_add]
  generalize n / 2 ^ k = a
  split
  · rename_i h
    rw [← Nat.pow_succ]
    congr 1; omega
  · rename_i h
    rw [Nat.mul_one]
    congr 1; omega
theorem pow_le_whole {S n k : Nat} : S ^ (n / 2 ^ k) ≤ S ^ n + 1 := by
  rcases Nat.eq_zero_or_pos S with h | h
  · subst h
    have : (0 : Nat) ^ (n / 2 ^ k) ≤ 1 := by
      rcases Nat.eq_zero_or_pos (n / 2 ^ k) with e | e
      · rw [e]; simp
      · rw [Nat.zero_pow e]; omega
    generalize (0 : Nat) ^ n = z
    omega
  · have := Nat.pow_le_pow_right h (Nat.div_le_self n (2 ^ k))
    omega
set_option maxHeartbeats 1000000 in
theorem divnat_power {w : World} {A : Option Addr} {n cap : Nat} {xs : List Nat} (hx : Rd w A n cap xs) (hl : n ≤ 17179869184) {k : Nat} (hk : k ≤ 4611686018427387904) (hL : (wd (nv xs ^ k)).length ≤ 17179869184) :
    Calls Try.prog 106 #[.slice A n cap, .int .i64 (k : Int)] w (RetW w (nv xs ^ k)) := by
  have HL := Lib.hid hL
  clear hL
  have small : ∀ j, (wd (nv xs ^ (k / 2 ^ j))).length ≤ 17179869185 := by
    intro j
    refine Nat.le_trans (len_wd_mono pow_le_whole) ?_
    have h1 := len_wd_add (nv xs ^ k) 1
    have h2 : (wd 1).length = 1 := by decide +kernel
    have := HL.out
    omega
  have SM := Lib.hid small
  clear small
  go_enter Try.func106, Try.ntmps106
  go_wp2_with fail
  refine (bits_Len k (by omega) _).mono ?_
  rintro e w' ⟨b, hb, hb64, rfl, rfl⟩
  obtain ⟨wa, hwa⟩ : ∃ wa, w.alloc (.cells #[.int .u64 1] 47) = wa := ⟨_, rfl⟩
  rw [hwa]
  have h1 : Own wa w.heap.size 47 1 (some ⟨w.heap.size, 0, none⟩) 1 1 ((wd 1).map W64) := by
    have e1 : wd 1 = [1] := by decide +kernel
    rw [e1, ← hwa]
    exact Own.mk_ (Nat.le_refl _) (Bk.new w 47 [.int .u64 1]) (Nat.le_refl _) (by rw [len_maxLen]; omega) rfl rfl
  have he : Ext w wa := by rw [← hwa]; exact (Ext.refl w).alloc _
  have hstart : Hid (nv xs ^ (k / 2 ^ b) = 1) := by
    show _ = _
    rw [Nat.div_eq_of_lt (by rw [hb.out]; exact lt_blen k)]; rfl
  clear hwa
  go_wp2_with fail
  go_loopw [5, 6] (fun u v wr => ∃ (P : Option Addr) (m c j : Nat), u = .slice P m c ∧ v = .int .i64 ((j : Int) - 1) ∧ j ≤ b ∧ Hid (m = (wd (nv xs ^ (k / 2 ^ j))).length) ∧ Own wr w.heap.size 47 1 P m c ((wd (nv xs ^ (k / 2 ^ j))).map W64) ∧ Ext w wr) (fun u v wr => (intOf v + 1).toNat)
  case atStart => exact ⟨_, 1, 1, b, rfl, rfl, Nat.le_refl _, (show _ = _ by rw [hstart.out]; decide +kernel), by rw [hstart.out]; exact h1, he⟩
  case round =>
    obtain ⟨P, m, c, j, rfl, rfl, hj, hm, ho, hr⟩ := hrel
    clear h1 he hstart
    by_cases hj0 : 0 < j
    · obtain ⟨j, rfl⟩ : ∃ i, j = i + 1 := ⟨j - 1, by omega⟩
      have ek : ((j + 1 : Nat) : Int) - 1 = (j : Int) := by omega
      rw [ek]
      have hmb : m ≤ 17179869185 := by rw [hm.out]; exact SM.out _
      have hph := Lib.hid (@pow_half (nv xs) k j)
      have hrd := ho.rd (Wf_wd _)
      go_wp2_with fail
      refine (mulnat_Square hrd (by omega)).mono ?_
      rintro e w2 ⟨A2, n2, c2, rfl, hn2, hr2, ho2, hx2⟩
      rw [nv_wd] at hn2 hr2 ho2
      have hn2b : n2 ≤ 34359738370 := by
        have := len_wd_mul (nv xs ^ (k / 2 ^ (j + 1))) (nv xs ^ (k / 2 ^ (j + 1)))
        have h3 := SM.out (j + 1)
        rw [hn2.out]; omega
      by_cases hodd : k / 2 ^ j % 2 = 1
      · have HO := Lib.hid hodd
        clear hodd
        go_wp2_with (first
          | ((with_reducible refine at_slot (some 20) ?_); refine wpl_i64 rfl rfl rfl rfl rfl (i64_shr (x := k) (s := j) (by omega)) ?_; intro d hd)
          | ((with_reducible refine at_slot (some 21) ?_); refine wpl_i64 rfl rfl rfl rfl rfl (i64_and1 (x := d) (by rw [hd.out]; exact Nat.le_trans (Nat.div_le_self _ _) (by omega))) ?_; intro b2 hb2; have bt : ((b2 : Int) == 1) = true := (by rw [hb2.out, hd.out, HO.out]; rfl)))
        refine (mulnat_Mul hr2 (hx.ext (hr.trans hx2)) (by omega)).mono ?_
        rintro e w3 ⟨A3, n3, c3, rfl, hn3, hr3, ho3, hx3⟩
        have ep : nv xs ^ (k / 2 ^ (j + 1)) * nv xs ^ (k / 2 ^ (j + 1)) * nv xs = nv xs ^ (k / 2 ^ j) := by
          have := hph.out
          rw [if_pos HO.out] at this
          exact this.symm
        rw [nv_wd, ep] at hn3 hr3 ho3
        have HE := (hr.trans hx2).size
        clear ep
        go_wp2_with fail
        go_roundw
        case rel => exact ⟨A3, n3, c3, j, rfl, rfl, by omega, hn3, ho3.mono HE, (hr.trans hx2).trans hx3⟩
        case measure => simp [intOf]
      · have HO := Lib.hid hodd
        clear hodd
        go_wp2_with (first
          | ((with_reducible refine at_slot (some 20) ?_); refine wpl_i64 rfl rfl rfl rfl rfl (i64_shr (x := k) (s := j) (by omega)) ?_; intro d hd)
          | ((with_reducible refine at_slot (some 21) ?_); refine wpl_i64 rfl rfl rfl rfl rfl (i64_and1 (x := d) (by rw [hd.out]; exact Nat.le_trans (Nat.div_le_self _ _) (by omega))) ?_; intro b2 hb2; have bt : ((b2 : Int) == 1) = false := (by have h1 := hb2.out; have h2 := HO.out; rw [← hd.out] at h2; simp; omega)))
        have ep : nv xs ^ (k / 2 ^ (j + 1)) * nv xs ^ (k / 2 ^ (j + 1)) = nv xs ^ (k / 2 ^ j) := by
          have := hph.out
          rw [if_neg HO.out, Nat.mul_one] at this
          exact this.symm
        rw [ep] at hn2 ho2
        go_roundw
        case rel => exact ⟨A2, n2, c2, j, rfl, rfl, by omega, hn2, ho2.mono hr.size, hr.trans hx2⟩
        case measure => simp [intOf]
    · obtain rfl : j = 0 := by omega
      have ek : ((0 : Nat) : Int) - 1 = -1 := rfl
      rw [ek]
      have e0 : k / 2 ^ 0 = k := by rw [Nat.pow_zero, Nat.div_one]
      rw [e0] at hm ho
      clear e0
      go_wp2_with fail
      go_ret
      exact ⟨P, m, c, rfl, hm, ho.rd (Wf_wd _), ho, hr⟩
end Go.Proofs.Ytmaconeeonkdgaa
