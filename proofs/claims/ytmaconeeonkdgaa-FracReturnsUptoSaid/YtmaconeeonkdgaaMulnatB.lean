/- Contracts of package mulnat, the second part: subFrom, sum, rows. -/
import Derived.Test.YtmaconeeonkdgaaMulnat
namespace Go.Proofs.Ytmaconeeonkdgaa
open Go.RowKit

theorem subfrom_step {l : List Nat} {i c z y s d V Y Y' : Nat} (hi : i < l.length) (h : nv l + Y = V + WB ^ i * c) (hz : l.getD i 0 = z) (hY : Y' = Y + WB ^ i * y)
    (hs : s + y + c = z + WB * d) : nv (l.set i s) + Y' = V + WB ^ (i + 1) * d := by
  have e1 := nv_set hi s
  rw [hz] at e1
  rw [Nat.pow_succ, Nat.mul_assoc, hY]
  have e2 : WB ^ i * (s + y + c) = WB ^ i * (z + WB * d) := by rw [hs]
  simp only [Nat.mul_add] at e2
  omega
theorem mul_subFrom {w : World} {g n cap : Nat} {B : Option Addr} {m cap' : Nat} {zs ys : List Nat} (hz : Bk w g 47 (zs.map W64)) (hwz : Wf zs) (hzl : zs.length = n) (hy : Rd w B m cap' ys) (hne : ∀ a, B = some a → 0 < m → a.block ≠ g)
    (hmn : m ≤ n) (hn : n ≤ 1099511627776) (hv : nv ys ≤ nv zs) :
    Calls Try.prog 114 #[.slice (some ⟨g, 0, none⟩) n cap, .slice B m cap'] w (AddP g zs (nv zs - nv ys) w) := by
  have hly := Lib.hid hy.len
  have hlz := Lib.hid hzl
  have HV := Lib.hid hv
  clear hzl hv
  go_enter Try.func114, Try.ntmps114
  go_wp2_with fail
  go_loopw [9, 4] (fun u v wr => ∃ (i c : Nat) (l : List Nat), i ≤ n ∧ c ≤ 1 ∧ u = .int .i64 (i : Int) ∧ v = .int .u64 (c : Int) ∧ Hid (l.length = n) ∧ Wf l ∧ Bk wr g 47 (l.map W64) ∧
    Hid (nv l + nv (ys.take i) = nv zs + WB ^ i * c) ∧ Upd g w wr) (fun u v wr => n - (intOf u).toNat)
  case atStart => exact ⟨0, 0, zs, Nat.zero_le _, Nat.zero_le _, rfl, rfl, hlz.out, hwz, hz, by simp [Hid, nv], Upd.refl _ _⟩
  case round =>
    obtain ⟨i, c, l, hi, hc, rfl, rfl, hll, hwl, hb, hv, hr⟩ := hrel
    have fin : i = n ∨ (m ≤ i ∧ c = 0) → AddP g zs (nv zs - nv ys) w (.returned (.tuple #[])) wr := by
      intro h
      have e := hv.out
      rw [List.take_of_length_le (by rw [hly.out]; omega)] at e
      have hlt : nv l < WB ^ n := by have := nv_lt hwl; rwa [hll.out] at this
      refine ⟨l, rfl, hb, hwl, (show _ = _ by rw [hll.out, hlz.out]), ?_, hr⟩
      show _ = _
      have h2 := HV.out
      by_cases h0 : c = 0
      · rw [h0, Nat.mul_zero] at e; omega
      · have hc1 : c = 1 := by omega
        have hin : i = n := by omega
        rw [hc1, Nat.mul_one, hin] at e; omega
    have FIN := Lib.hid fin
    clear fin
    by_cases him : i < n
    · obtain ⟨z, hzk, hzb, hcz⟩ := hb.word hwl (i := i) (by rw [hll.out]; omega)
      have hfr := hb.frozen i
      by_cases hiy : i < m
      · obtain ⟨a, y, rfl, hyk, hyb, hcy⟩ := (hy.upd hr (fun a ha => hne a ha (by omega))).get (i := i) (by omega)
        obtain ⟨s, d, hs, hsb, hd, hsub⟩ := sub64_run hc hzb hyb
        go_wp2_with fail
        go_roundw
        case rel => exact ⟨i + 1, d, l.set i s, by omega, hd, by go_num, rfl, by show _ = _; rw [List.length_set]; exact hll.out, Wf_set hwl _ (by rw [WB_def]; omega), by rw [← map_W64_set]; exact (hb.set _ _),
          subfrom_step (by rw [hll.out]; omega) hv.out hzk.out (by rw [nv_take_snoc ys i (by rw [hly.out]; omega), hyk.out]) hs.out, hr.setCell _ _⟩
        case measure => simp [intOf]; omega
      · by_cases hc0 : c = 0
        · subst hc0
          go_wp2_with fail
          refine bodyPost_ret (results_none rfl _ _ _) rfl ?_
          exact FIN.out (Or.inr ⟨by omega, by simp⟩)
        · obtain rfl : c = 1 := by omega
          obtain ⟨s, d, hs, hsb, hd, hsub⟩ := sub64_runz1 hzb
          go_wp2_with fail
          go_roundw
          case rel => exact ⟨i + 1, d, l.set i s, by omega, hd, by go_num, rfl, by show _ = _; rw [List.length_set]; exact hll.out, Wf_set hwl _ (by rw [WB_def]; omega), by rw [← map_W64_set]; exact (hb.set _ _),
            subfrom_step (y := 0) (c := 1) (by rw [hll.out]; omega) hv.out hzk.out (by rw [List.take_of_length_le (by rw [hly.out]; omega), List.take_of_length_le (by rw [hly.out]; omega), Nat.mul_zero, Nat.add_zero]) hs.out, hr.setCell _ _⟩
          case measure => simp [intOf]; omega
    · go_wp2_with fail
      go_end0
      exact FIN.out (Or.inl (by omega))

/-- a new block of n words that stand for v -/
def NewP (w : World) (v n : Nat) (e : Ending) (w' : World) : Prop :=
  ∃ g zs, e = .returned (.slice (some ⟨g, 0, none⟩) n n) ∧ w.heap.size ≤ g ∧ Bk w' g 47 (zs.map W64) ∧ Wf zs ∧ Hid (zs.length = n) ∧ Hid (nv zs = v) ∧ Ext w w'

theorem nv_splice_front {xs : List Nat} {n : Nat} (h : xs.length ≤ n) : nv (splice (List.replicate n 0) 0 xs) = nv xs ∧ (splice (List.replicate n 0) 0 xs).length = n := by
  unfold splice
  constructor
  · rw [List.take_zero, List.nil_append, List.drop_replicate, nv_append, nv_zeros, Nat.mul_zero, Nat.add_zero]
  · simp; omega
theorem Wf_splice {xs ys : List Nat} (hx : Wf xs) (hy : Wf ys) (o : Nat) : Wf (splice xs o ys) := Wf_append (Wf_take hx _) (Wf_append hy (Wf_drop hx _))
theorem mul_sum {w : World} {A B : Option Addr} {n cap m cap' : Nat} {xs ys : List Nat} (hx : Rd w A n cap xs) (hl : n ≤ 549755813888) (hy : Rd w B m cap' ys) (hl' : m ≤ 549755813888) :
    Calls Try.prog 113 #[.slice A n cap, .slice B m cap'] w (NewP w (nv xs + nv ys) (max n m + 1)) := by
  have hlx := Lib.hid hx.len
  have hly := Lib.hid hy.len
  obtain ⟨k, hk⟩ : ∃ k, max n m = k := ⟨_, rfl⟩
  rw [hk]
  have hnk : n ≤ k := by omega
  have hmk' : m ≤ k := by omega
  have hkb : k ≤ 549755813888 := by omega
  have hmax : max (n : Int) (m : Int) = (k : Int) := by omega
  have hmk := run_make1 (P := Try.prog) Try.underlying25 info64 rfl (by decide) ((k : Int) + 1) (by omega) (by omega)
  have et : ((k : Int) + 1).toNat = k + 1 := by omega
  rw [et] at hmk
  clear et hk
  go_enter Try.func113, Try.ntmps113
  go_upto_region 2 with (fail)
  clear hmk
  obtain ⟨g, hg⟩ : ∃ g, w.heap.size = g := ⟨_, rfl⟩
  rw [hg]
  obtain ⟨wa, hwa⟩ : ∃ wa, w.alloc (.cells (zc (.int .u64 0) (k + 1)) 47) = wa := ⟨_, rfl⟩
  rw [hwa]
  have hbk : Bk wa g 47 ((List.replicate (k + 1) 0).map W64) := by
    rw [← hwa, ← hg, ← replicate_W64]; exact Bk.new' _ _ _
  have hea : Ext w wa := by rw [← hwa]; exact (Ext.refl w).alloc _
  have hgs : w.heap.size ≤ g := by rw [hg]; exact Nat.le_refl _
  clear hg hwa
  have hr1 : n ≤ k + 1 := by omega
  go_wp2_with ((with_reducible refine at_slot (some 15) ?_); refine wpc_copy rfl (.tmp 13) (.tmp 14) 25 25 rfl rfl rfl Try.underlying25 size64 hbk (hx.rv.ext hea) (fun _ => rfl) (by rw [List.length_map, List.length_replicate]; omega) (W64_oneCell xs) ?_; intro w1 hb1 hu1)
  rw [← List.map_take, splice_W64, List.take_of_length_le (l := xs) (by rw [hlx.out]; omega)] at hb1
  obtain ⟨zs, hzs⟩ : ∃ zs, zs = splice (List.replicate (k + 1) 0) 0 xs := ⟨_, rfl⟩
  have hz2 := nv_splice_front (xs := xs) (n := k + 1) (by rw [hlx.out]; omega)
  have hwz : Wf zs := by rw [hzs]; exact Wf_splice (Wf_zeros _) hx.wf _
  rw [← hzs] at hb1 hz2
  clear hzs
  obtain ⟨hzv, hzl⟩ := hz2
  have HZV := Lib.hid hzv
  have HZL := Lib.hid hzl
  clear hzv hzl
  have he1 : Ext w w1 := hu1.ext hea hgs
  refine (mul_addTo (o := 0) (n := k + 1) hb1 hwz (by rw [HZL.out]; omega) (hy.ext he1) (fun a ha hp => by have := hy.rv.blk a ha (by have := hy.rv.le; omega); omega) (by omega) (by omega) (by omega) ?_).mono ?_
  · have h1 := nv_lt hx.wf
    have h2 := nv_lt hy.wf
    rw [hlx.out] at h1
    rw [hly.out] at h2
    have h3 : WB ^ n ≤ WB ^ k := Nat.pow_le_pow_right WB_pos hnk
    have h4 : WB ^ m ≤ WB ^ k := Nat.pow_le_pow_right WB_pos hmk'
    have h5 : WB ^ k * 2 ≤ WB ^ k * WB := Nat.mul_le_mul_left _ WB_two
    rw [HZV.out, Nat.pow_zero, Nat.one_mul, Nat.zero_add, Nat.pow_succ]
    omega
  rintro e w2 ⟨zs', rfl, hb2, hw2, hl2, hv2, hu2⟩
  go_wp2_with fail
  go_ret
  refine ⟨g, zs', rfl, hgs, hb2, hw2, (show _ = _ by rw [hl2.out, HZL.out]), ?_, hu2.ext he1 hgs⟩
  show _ = _
  rw [hv2.out, HZV.out, Nat.pow_zero, Nat.one_mul]

theorem mulw_step {l ys : List Nat} {m k c o x y P j i s d : Nat} (hk : k = i + j) (hkm : k < m) (hml : m ≤ l.length) (h : nv (l.take m) + WB ^ k * c = P + x * (WB ^ i * nv (ys.take j)))
    (ho : l.getD k 0 = o) (hj : j < ys.length) (hy : ys.getD j 0 = y) (hs : s + WB * d = o + x * y + c) :
    nv ((l.set k s).take m) + WB ^ (k + 1) * d = P + x * (WB ^ i * nv (ys.take (j + 1))) := by
  have e1 := nv_set (l := l.take m) (k := k) (by rw [List.length_take]; omega) s
  rw [getD_take hkm, ho] at e1
  rw [List.take_set, nv_take_snoc ys j hj, hy, Nat.mul_add (WB ^ i), Nat.mul_add x, ← Nat.add_assoc, ← h, ← Nat.mul_assoc (WB ^ i), ← Nat.pow_add, ← hk, Nat.pow_succ, Nat.mul_assoc (WB ^ k)]
  have e2 : WB ^ k * (s + WB * d) = WB ^ k * (o + x * y + c) := by rw [hs]
  simp only [Nat.mul_add] at e2
  have e3 : WB ^ k * (x * y) = x * (WB ^ k * y) := by rw [← Nat.mul_assoc, Nat.mul_comm (WB ^ k) x, Nat.mul_assoc]
  rw [e3] at e2
  omega
theorem mul_rows {w : World} {g N cap : Nat} {A B : Option Addr} {n capa m capb : Nat} {zs xs ys : List Nat} (hz : Bk w g 47 (zs.map W64)) (hzz : zs = List.replicate N 0) (hN : N = n + m)
    (hx : Rd w A n capa xs) (hy : Rd w B m capb ys) (hna : ∀ a, A = some a → 0 < n → a.block ≠ g) (hnb : ∀ a, B = some a → 0 < m → a.block ≠ g) (hn : n ≤ 549755813888) (hm : m ≤ 549755813888) :
    Calls Try.prog 101 #[.slice (some ⟨g, 0, none⟩) N cap, .slice A n capa, .slice B m capb] w (AddP g zs (nv xs * nv ys) w) := by
  have hlx := Lib.hid hx.len
  have hly := Lib.hid hy.len
  have hlz := Lib.hid (show zs.length = n + m by rw [hzz, List.length_replicate, hN])
  have hwz : Wf zs := by rw [hzz]; exact Wf_zeros _
  have hz0 := Lib.hid (show ∀ t, zs.getD t 0 = 0 by intro t; rw [hzz]; simp [List.getD_eq_getElem?_getD, List.getElem?_replicate]; split <;> rfl)
  have hzv := Lib.hid (show nv (zs.take m) = 0 by rw [hzz, List.take_replicate, nv_zeros])
  subst hN
  clear hzz
  go_enter Try.func101, Try.ntmps101
  go_wp2_with fail
  go_loopw [16] (fun u wr => ∃ (i : Nat) (l : List Nat), i ≤ n ∧ u = .int .i64 (i : Int) ∧ Hid (l.length = n + m) ∧ Wf l ∧ Bk wr g 47 (l.map W64) ∧
    Hid (nv (l.take (i + m)) = nv (xs.take i) * nv ys) ∧ Hid (∀ t, i + m ≤ t → l.getD t 0 = 0) ∧ Upd g w wr) (fun u wr => n - (intOf u).toNat)
  case atStart => exact ⟨0, zs, Nat.zero_le _, rfl, hlz.out, hwz, hz, by simp [Hid, nv]; exact hzv.out, fun t _ => hz0.out t, Upd.refl _ _⟩
  case round =>
    obtain ⟨i, l, hi, rfl, hll, hwl, hb, hv, h0, hr⟩ := hrel
    by_cases hip : i < n
    · obtain ⟨a, x, rfl, hxk, hxb, hcx⟩ := (hx.upd hr (fun a ha => hna a ha (by omega))).get (i := i) (by omega)
      by_cases hx0 : x = 0
      · subst hx0
        have hstay : Hid (nv (l.take (i + 1 + m)) = nv (xs.take (i + 1)) * nv ys) := by
          show _ = _
          rw [show i + 1 + m = i + m + 1 from by omega, nv_take_zero l (i + m) (by rw [hll.out]; omega) (h0.out _ (by omega)), hv.out, nv_take_zero xs i (by rw [hlx.out]; omega) hxk.out]
        go_wp2_with fail
        go_roundw
        case rel => exact ⟨i + 1, l, by omega, by go_num, hll.out, hwl, hb, hstay.out, fun t ht => h0.out t (by omega), hr⟩
        case measure => simp [intOf]; omega
      · have hxz : ((x : Int) == 0) = false := by simp; omega
        go_wp2_with fail
        obtain ⟨wo, rfl⟩ : ∃ wo : World, wo = wr := ⟨_, rfl⟩
        go_loopw [25, 8] (fun u v wr => ∃ (j c : Nat) (l : List Nat), j ≤ m ∧ c ≤ 18446744073709551615 ∧ u = .int .i64 (j : Int) ∧ v = .int .u64 (c : Int) ∧ Hid (l.length = n + m) ∧ Wf l ∧ Bk wr g 47 (l.map W64) ∧
          Hid (nv (l.take (i + m)) + WB ^ (i + j) * c = nv (xs.take i) * nv ys + x * (WB ^ i * nv (ys.take j))) ∧ Hid (∀ t, i + m ≤ t → l.getD t 0 = 0) ∧ Upd g w wr) (fun u v wr => m - (intOf u).toNat)
        case atStart => exact ⟨0, 0, l, Nat.zero_le _, by omega, rfl, rfl, hll.out, hwl, hb, (show _ = _ by rw [hv.out]; simp [nv]), h0.out, hr⟩
        case round =>
          obtain ⟨j, c, l2, hj, hc, rfl, rfl, hl2, hw2, hb2, hv2, h02, hr2⟩ := hrel
          clear hll hwl hb hv h0 hr hcx
          by_cases hjq : j < m
          · obtain ⟨b, y, rfl, hyk, hyb, hcy⟩ := (hy.upd hr2 (fun a ha => hnb a ha (by omega))).get (i := j) (by omega)
            obtain ⟨o, hok, hob, hco⟩ := hb2.word hw2 (i := i + j) (by rw [hl2.out]; omega)
            have hfr := hb2.frozen (i + j)
            go_wp2_with fail
            refine (bits_Mul64 x y hxb hyb _).mono ?_
            rintro e w' ⟨hi', lo, hp, hhb, hlb, rfl, rfl⟩
            obtain ⟨s1, d1, hs1, hsb1, hd1, hadd1⟩ := add64_run0 hlb hc
            obtain ⟨s2, d2, hs2, hsb2, hd2, hadd2⟩ := add64_run0 hob hsb1
            have hP : x * y ≤ 340282366920938463426481119284349108225 := Nat.mul_le_mul hxb hyb
            have hk1 : hi' + d1 + d2 ≤ 18446744073709551615 ∧ hi' + d1 ≤ 18446744073709551615 := by
              have e1 := hp.out
              have e2 := hs1.out
              have e3 := hs2.out
              rw [WB_def] at e1 e2 e3
              omega
            obtain ⟨hk1, hk2⟩ := hk1
            clear hP
            go_wp2_with fail
            go_roundw
            case rel =>
              refine ⟨j + 1, hi' + d1 + d2, l2.set (i + j) s2, by omega, by omega, by go_num, val_int (by omega), by show _ = _; rw [List.length_set]; exact hl2.out, Wf_set hw2 _ (by rw [WB_def]; omega), by rw [← map_W64_set]; exact hb2.set _ _,
                mulw_step (k := i + j) (m := i + m) rfl (by omega) (by rw [hl2.out]; omega) hv2.out hok.out (by rw [hly.out]; omega) hyk.out ?_, fun t ht => ?_, hr2.setCell _ _⟩
              · have e1 := hp.out
                have e2 := hs1.out
                have e3 := hs2.out
                rw [Nat.mul_add, Nat.mul_add, ← e1]; omega
              · rw [getD_set_ne (by omega)]; exact h02.out t ht
            case measure => simp [intOf]; omega
          · obtain rfl : j = m := by omega
            obtain ⟨o, hok, hob, hco⟩ := hb2.word hw2 (i := i + j) (by rw [hl2.out]; omega)
            have hfr := hb2.frozen (i + j)
            go_wp2_with fail
            go_roundw
            case rel =>
              refine ⟨i + 1, l2.set (i + j) c, by omega, by go_num, by show _ = _; rw [List.length_set]; exact hl2.out, Wf_set hw2 _ (by rw [WB_def]; omega), by rw [← map_W64_set]; exact hb2.set _ _, ?_, fun t ht => ?_, hr2.setCell _ _⟩
              · show _ = _
                rw [show i + 1 + j = i + j + 1 from by omega, nv_set_snoc (by rw [hl2.out]; omega), hv2.out, List.take_of_length_le (l := ys) (i := j) (by rw [hly.out]; omega), nv_take_snoc xs i (by rw [hlx.out]; omega), hxk.out, Nat.add_mul, ← Nat.mul_assoc, Nat.mul_comm x]
              · rw [getD_set_ne (by omega)]; exact h02.out t (by omega)
            case measure => simp [intOf]; omega
    · obtain rfl : i = n := by omega
      go_wp2_with fail
      go_end0
      have h := hv.out
      rw [List.take_of_length_le (by rw [hll.out]; omega), List.take_of_length_le (by rw [hlx.out]; omega)] at h
      exact ⟨l, rfl, hb, hwl, (show _ = _ by rw [hll.out, hlz.out]), h, hr⟩
end Go.Proofs.Ytmaconeeonkdgaa
