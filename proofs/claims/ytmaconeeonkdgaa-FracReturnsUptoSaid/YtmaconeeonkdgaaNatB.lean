/- Contracts of package nat, the second part. -/
import Derived.Test.YtmaconeeonkdgaaNat
namespace Go.Proofs.Ytmaconeeonkdgaa
open Go.RowKit

/-- a number and an error -/
def RetWE (w : World) (m : Nat) (er : Int) (e : Ending) (w' : World) : Prop :=
  ∃ A n cap, e = .returned (.tuple #[.slice A n cap, .int .i64 er]) ∧ Hid (n = (wd m).length) ∧ Rd w' A n cap (wd m) ∧ Own w' w.heap.size 47 1 A n cap ((wd m).map W64) ∧ Ext w w'
theorem RetWE_of {w w' : World} {m : Nat} {A : Option Addr} {n cap : Nat} {er : Int} (h : RetW w m (.returned (.slice A n cap)) w') : RetWE w m er (.returned (.tuple #[.slice A n cap, .int .i64 er])) w' := by
  obtain ⟨A', n', c', he, r⟩ := h
  cases he
  exact ⟨_, _, _, rfl, r⟩

theorem sub_step {l xs ys : List Nat} {i m c x y s d : Nat} (hli : i < l.length) (hxi : i < xs.length) (hmy : m ≤ ys.length) (h : nv (l.take i) + nv (ys.take (min i m)) = nv (xs.take i) + WB ^ i * c)
    (hx : xs.getD i 0 = x) (hy : (if i < m then ys.getD i 0 else 0) = y) (hs : s + y + c = x + WB * d) :
    nv ((l.set i s).take (i + 1)) + nv (ys.take (min (i + 1) m)) = nv (xs.take (i + 1)) + WB ^ (i + 1) * d := by
  have e1 : (l.set i s).getD i 0 = s := by simp [List.getD_eq_getElem?_getD, hli]
  have e2 : (l.set i s).take i = l.take i := by rw [List.take_set_of_le (Nat.le_refl i)]
  rw [nv_take_snoc _ i (by rw [List.length_set]; exact hli), e1, e2, nv_take_snoc xs i hxi, hx]
  have e3 : nv (ys.take (min (i + 1) m)) = nv (ys.take (min i m)) + WB ^ i * y := by
    by_cases him : i < m
    · rw [if_pos him] at hy
      rw [Nat.min_eq_left (by omega), Nat.min_eq_left (by omega), nv_take_snoc ys i (by omega), hy]
    · rw [if_neg him] at hy
      rw [Nat.min_eq_right (by omega), Nat.min_eq_right (by omega), ← hy, Nat.mul_zero, Nat.add_zero]
  rw [e3, Nat.pow_succ, Nat.mul_assoc]
  have e4 : WB ^ i * (s + y + c) = WB ^ i * (x + WB * d) := by rw [hs]
  simp only [Nat.mul_add] at e4
  omega

theorem nat_Sub_bad {w : World} {A B : Option Addr} {n cap n' cap' : Nat} {xs ys : List Nat} (hx : Rd w A n cap xs) (hl : n ≤ 1099511627775) (hy : Rd w B n' cap' ys) (hl' : n' ≤ 1099511627775) (hlt : nv xs < nv ys) :
    Calls Try.prog 65 #[.slice A n cap, .slice B n' cap'] w (RetWE w 0 3) := by
  go_enter Try.func65, Try.ntmps65
  go_wp2_with fail
  refine (nat_Cmp hx (by omega) hy (by omega)).mono ?_
  rintro e w1 ⟨c, hc, hc1, hc2, rfl, hx1⟩
  have hneg : c < 0 := by rw [hc.out]; exact cmp3_neg.2 hlt
  go_wp2_with fail
  go_ret2
  exact RetWE_of (RetW_nil rfl hx1)
theorem nat_Sub {w : World} {A B : Option Addr} {n cap n' cap' : Nat} {xs ys : List Nat} (hx : Rd w A n cap xs) (hl : n ≤ 1099511627775) (hy : Rd w B n' cap' ys) (hl' : n' ≤ 1099511627775) (hle : nv ys ≤ nv xs) :
    Calls Try.prog 65 #[.slice A n cap, .slice B n' cap'] w (RetWE w (nv xs - nv ys) 0) := by
  go_enter Try.func65, Try.ntmps65
  go_wp2_with fail
  refine (nat_Cmp hx (by omega) hy (by omega)).mono ?_
  rintro e wc ⟨c, hc, hc1, hc2, rfl, hx1⟩
  have hneg : ¬ c < 0 := by rw [hc.out, cmp3_neg]; omega
  go_wp2_with fail
  refine (nat_size (hx.ext hx1) (by omega)).mono ?_
  rintro e w' ⟨m, hm, hmn, rfl, rfl⟩
  go_wp2_with fail
  refine (nat_size (hy.ext hx1) (by omega)).mono ?_
  rintro e w' ⟨k, hk, hkn, rfl, rfl⟩
  have hkm : k ≤ m := by rw [hm.out, hk.out]; exact len_wd_mono hle
  have hlx := Lib.hid hx.len
  have hly := Lib.hid hy.len
  have hmk := run_make1 (P := Try.prog) Try.underlying25 info64 rfl (by decide) (m : Int) (by omega) (by omega)
  rw [Int.toNat_natCast] at hmk
  go_wp2_with fail
  clear hmk
  obtain ⟨g, hg⟩ : ∃ g, wc.heap.size = g := ⟨_, rfl⟩
  rw [hg]
  obtain ⟨wa, hwa⟩ : ∃ wa, wc.alloc (.cells (zc (.int .u64 0) m) 47) = wa := ⟨_, rfl⟩
  rw [hwa]
  have hbk : Bk wa g 47 ((List.replicate m 0).map W64) := by
    rw [← hwa, ← hg, ← replicate_W64]; exact Bk.new' _ _ _
  have hea : Ext wc wa := by rw [← hwa]; exact (Ext.refl wc).alloc _
  have hgs : w.heap.size ≤ g := by rw [← hg]; exact hx1.size
  have hgc : wc.heap.size ≤ g := by rw [hg]; exact Nat.le_refl _
  clear hg hwa hc hneg hc1 hc2
  go_loopw [23, 9] (fun u v wr => ∃ (i c : Nat) (l : List Nat), i ≤ m ∧ c ≤ 1 ∧ u = .int .i64 (i : Int) ∧ v = .int .u64 (c : Int) ∧ Hid (l.length = m) ∧ Wf l ∧ Bk wr g 47 (l.map W64) ∧
    Hid (nv (l.take i) + nv (ys.take (min i k)) = nv (xs.take i) + WB ^ i * c) ∧ Ext wc wr) (fun u v wr => m - (intOf u).toNat)
  case atStart => exact ⟨0, 0, _, Nat.zero_le _, Nat.zero_le _, rfl, rfl, List.length_replicate, Wf_zeros _, hbk, by simp [Hid, nv], hea⟩
  case round =>
    obtain ⟨i, c, l, hi, hc, rfl, rfl, hll, hwl, hb, hv, hr⟩ := hrel
    clear hbk hea
    by_cases him : i < m
    · obtain ⟨a, x, rfl, hxk, hxb, hcx⟩ := ((hx.ext hx1).ext hr).get (i := i) (by omega)
      obtain ⟨o, ho, _, hco⟩ := hb.word hwl (i := i) (by rw [hll.out]; omega)
      have hfr := hb.frozen i
      by_cases hik : i < k
      · obtain ⟨b, y, rfl, hyk, hyb, hcy⟩ := ((hy.ext hx1).ext hr).get (i := i) (by omega)
        go_wp2_with ((with_reducible refine at_slot (some 42) ?_); refine wpl_sub64 rfl (.tmp 39) (.tmp 40) (.tmp 41) rfl x y c rfl rfl rfl hc hxb hyb ?_; intro s d hs hsb hd)
        go_roundw
        case rel => exact ⟨i + 1, d, _, by omega, hd, by go_num, rfl, by show _ = _; rw [List.length_set]; exact hll.out, Wf_set hwl i (by rw [WB_def]; omega), by rw [← map_W64_set]; exact hb.set i _,
          sub_step (by rw [hll.out]; omega) (by rw [hlx.out]; omega) (by rw [hly.out]; omega) hv.out hxk.out (by rw [if_pos hik]; exact hyk.out) hs.out, hr.setCell hgc _⟩
        case measure => simp [intOf]; omega
      · go_wp2_with ((with_reducible refine at_slot (some 42) ?_); refine wpl_sub64 rfl (.tmp 39) (.tmp 40) (.tmp 41) rfl x 0 c rfl rfl rfl hc hxb (by omega) ?_; intro s d hs hsb hd)
        go_roundw
        case rel => exact ⟨i + 1, d, _, by omega, hd, by go_num, rfl, by show _ = _; rw [List.length_set]; exact hll.out, Wf_set hwl i (by rw [WB_def]; omega), by rw [← map_W64_set]; exact hb.set i _,
          sub_step (by rw [hll.out]; omega) (by rw [hlx.out]; omega) (by rw [hly.out]; omega) hv.out hxk.out (by rw [if_neg hik]) hs.out, hr.setCell hgc _⟩
        case measure => simp [intOf]; omega
    · obtain rfl : i = m := by omega
      have hr2 : Rd wr (some ⟨g, 0, none⟩) i i l := by
        have := hb.rd hwl (o := 0) (n := i) (cap := i) (Nat.le_refl _) (by rw [hll.out]; omega) (by rw [len_maxLen]; omega)
        rwa [List.drop_zero, List.take_of_length_le (by rw [hll.out]; omega)] at this
      have hval : Hid (nv l = nv xs - nv ys) := by
        show _ = _
        have e := hv.out
        rw [Nat.min_eq_right hkm, nv_take_len hx.wf hm.out, nv_take_len hy.wf hk.out, List.take_of_length_le (by rw [hll.out]; omega)] at e
        have hlt : nv l < WB ^ i := by have := nv_lt hwl; rwa [hll.out] at this
        by_cases h0 : c = 0
        · rw [h0, Nat.mul_zero] at e; omega
        · have hc1 : c = 1 := by omega
          rw [hc1, Nat.mul_one] at e; omega
      go_wp2_with fail
      refine (nat_size hr2 (by omega)).mono ?_
      rintro e w' ⟨q, hq, hqn, rfl, rfl⟩
      go_wp2_with fail
      go_ret2
      rw [← hval.out]
      exact RetWE_of (RetW_mk (ys := l) hgs hb hll.out hqn (by rw [len_maxLen]; omega) (wd_take_len hwl hq.out).symm (hx1.trans hr))

theorem blen_wd {xs : List Nat} {m x : Nat} (hw : Wf xs) (hm : m = (wd (nv xs)).length) (h0 : 0 < m) (hx : xs.getD (m - 1) 0 = x) : x ≠ 0 ∧ 64 * (m - 1) + blen x = blen (nv xs) := by
  have e := wd_take_len hw hm
  have hne : nv xs ≠ 0 := fun h => by rw [h, wd_zero] at hm; simp at hm; omega
  have hml : m ≤ xs.length := by rw [hm]; exact len_wd_nv hw
  have e2 : nv xs = nv (xs.take (m - 1)) + WB ^ (m - 1) * x := by
    rw [← nv_take_len hw hm, ← hx, ← nv_take_snoc xs (m - 1) (by omega), Nat.sub_add_cancel h0]
  have hlt := nv_take_lt hw (m - 1)
  have hx0 : x ≠ 0 := by
    rintro rfl
    have h1 := pow_len_le hne
    rw [← hm] at h1
    rw [Nat.mul_zero] at e2
    omega
  refine ⟨hx0, (blen_unique ?_ (Or.inr ?_)).symm⟩
  · have h1 := lt_blen x
    rw [Nat.pow_add, Nat.pow_mul, ← WB_pow]
    have h2 : WB ^ (m - 1) * x + WB ^ (m - 1) ≤ WB ^ (m - 1) * 2 ^ blen x := by
      have := Nat.mul_le_mul_left (WB ^ (m - 1)) (Nat.succ_le_of_lt h1)
      rwa [Nat.mul_succ] at this
    omega
  · have h1 := blen_le_self hx0
    have hb : blen x ≠ 0 := fun h => hx0 (blen_eq_zero.1 h)
    rw [Nat.add_sub_assoc (by omega), Nat.pow_add, Nat.pow_mul, ← WB_pow]
    have := Nat.mul_le_mul_left (WB ^ (m - 1)) h1
    omega
def NumP (k : Nat) (w : World) (e : Ending) (w' : World) : Prop := ∃ n : Nat, Hid (n = k) ∧ e = .returned (.int .i64 (n : Int)) ∧ Ext w w'
theorem nat_BitLen {w : World} {A : Option Addr} {n cap : Nat} {xs : List Nat} (hx : Rd w A n cap xs) (hl : n ≤ 1099511627775) :
    Calls Try.prog 70 #[.slice A n cap] w (NumP (blen (nv xs)) w) := by
  go_enter Try.func70, Try.ntmps70
  go_wp2_with fail
  refine (nat_size hx (by omega)).mono ?_
  rintro e w' ⟨m, hm, hmn, rfl, rfl⟩
  by_cases h0 : 0 < m
  · obtain ⟨a, x, rfl, hxk, hxb, hcx⟩ := hx.get (i := m - 1) (by omega)
    have hb := Lib.hid (blen_wd hx.wf hm.out h0 hxk.out)
    have b0 : ((m : Int) == 0) = false := by simp; omega
    go_wp2_with fail
    refine (bits_Len64 x hxb _).mono ?_
    rintro e w' ⟨q, hq, hq64, rfl, rfl⟩
    go_wp2_with fail
    go_ret
    refine ⟨64 * (m - 1) + q, ?_, ?_, Ext.refl w⟩
    · show _ = _
      rw [hq.out]; exact hb.out.2
    · exact ret_int (by omega)
  · obtain rfl : m = 0 := by omega
    go_wp2_with fail
    go_ret
    refine ⟨0, ?_, rfl, Ext.refl w⟩
    show _ = _
    rw [(len_wd_zero.1 hm.out.symm), blen_zero]

end Go.Proofs.Ytmaconeeonkdgaa
