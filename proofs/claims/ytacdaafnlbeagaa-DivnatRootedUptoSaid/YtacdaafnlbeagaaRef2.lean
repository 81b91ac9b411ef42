/- Contracts of package trellisref02: Mul by digits to the base 65536. -/
import Derived.Test.YtacdaafnlbeagaaRef1b
namespace Go.Proofs.Ytacdaafnlbeagaa
open Go.RowKit

theorem digits_step {l : List Nat} {n x q : Nat} (hl : n < l.length) (h : nb 65536 (l.take n) + 65536 ^ n * q = x) : nb 65536 ((l.set n (q % 65536)).take (n + 1)) + 65536 ^ (n + 1) * (q / 65536) = x := by
  rw [nb_set_snoc 65536 hl, Nat.pow_succ, Nat.mul_assoc, Nat.add_assoc, ← Nat.mul_add, Nat.mod_add_div]
  exact h
theorem ref2_digits {w : World} {A : Option Addr} {n cap : Nat} {xs : List Nat} (hx : Rd w A n cap xs) (hl : n ≤ 274877906943) :
    Calls Try.prog 37 #[.slice A n cap] w (RetI w (nv xs)) := by
  have hlx := Lib.hid hx.len
  have hmk := run_make1 (P := Try.prog) Try.underlying56 infoInt rfl (by decide) (4 * (n : Int)) (by omega) (by omega)
  have et : (4 * (n : Int)).toNat = 4 * n := by omega
  rw [et] at hmk
  clear et
  go_enter Try.func37, Try.ntmps37
  go_wp2_with fail
  clear hmk
  obtain ⟨g, hg⟩ : ∃ g, w.heap.size = g := ⟨_, rfl⟩
  rw [hg]
  obtain ⟨wa, hwa⟩ : ∃ wa, w.alloc (.cells (zc (.int .i64 0) (4 * n)) 3) = wa := ⟨_, rfl⟩
  rw [hwa]
  have hbk : Bk wa g 3 ((List.replicate (4 * n) 0).map I6) := by
    rw [← hwa, ← hg, ← replicate_I6]; exact Bk.new' _ _ _
  have hea : Ext w wa := by rw [← hwa]; exact (Ext.refl w).alloc _
  have hgs : w.heap.size ≤ g := by rw [hg]; exact Nat.le_refl _
  clear hg hwa
  go_loopw [4] (fun u wr => ∃ (i : Nat) (l : List Nat), i ≤ n ∧ u = .int .i64 (i : Int) ∧ Bk wr g 3 (l.map I6) ∧ Wfb 65536 l ∧ Hid (l.length = 4 * n) ∧ Hid (nb 65536 (l.take (4 * i)) = nv (xs.take i)) ∧ Ext w wr) (fun u wr => n - (intOf u).toNat)
  case atStart => exact ⟨0, _, Nat.zero_le _, rfl, hbk, Wfb_zeros (by omega) _, List.length_replicate, rfl, hea⟩
  case round =>
    obtain ⟨i, l, hi, rfl, hb, hw, hll, hv, hr⟩ := hrel
    clear hbk hea
    by_cases him : i < n
    · obtain ⟨a, x, rfl, hxk, hxb, hcx⟩ := (hx.ext hr).get (i := i) (by omega)
      go_wp2_with fail
      obtain ⟨wo, rfl⟩ : ∃ wo : World, wo = wr := ⟨_, rfl⟩
      go_loopw [6, 5] (fun u y wr => ∃ (k : Nat) (l : List Nat) (q : Nat), k ≤ 4 ∧ u = .int .i64 (k : Int) ∧ y = .int .u64 (q : Int) ∧ q ≤ 18446744073709551615 ∧ Bk wr g 3 (l.map I6) ∧ Wfb 65536 l ∧
        Hid (l.length = 4 * n) ∧ Hid (nb 65536 (l.take (4 * i + k)) + 65536 ^ (4 * i + k) * q = nv (xs.take (i + 1))) ∧ Hid (q * 65536 ^ k < WB) ∧ Ext w wr) (fun u y wr => 4 - (intOf u).toNat)
      case atStart =>
        refine ⟨0, l, x, Nat.zero_le _, rfl, rfl, hxb, hb, hw, hll, ?_, ?_, hr⟩
        · show _ = _
          rw [show 4 * i + 0 = 4 * i from rfl, hv.out, nv_take_snoc xs i (by rw [hlx.out]; omega), hxk.out, WB_16, ← Nat.pow_mul]
        · show _ < _
          rw [WB_def]; omega
      case round =>
        obtain ⟨k, l2, q, hk, rfl, rfl, hqb, hb2, hw2, hl2, hev, hq, hr2⟩ := hrel
        clear hb hw hll hv
        by_cases hk4 : k < 4
        · obtain ⟨o, ho, _, hco⟩ := hb2.digit (by omega) hw2 (i := 4 * i + k) (by rw [hl2.out]; omega)
          have hfr := hb2.frozen (4 * i + k)
          go_wp2_with fail
          go_roundw
          case rel =>
            refine ⟨k + 1, l2.set (4 * i + k) (q % 65536), q / 65536, by omega, by go_num, by go_num, by omega, ?_, Wfb_set hw2 _ (Nat.mod_lt q (by omega)), by show _ = _; rw [List.length_set]; exact hl2.out, digits_step (n := 4 * i + k) (by rw [hl2.out]; omega) hev.out, ?_, hr2.setCell hgs _⟩
            · have e : ((q : Int) % 65536) = ((q % 65536 : Nat) : Int) := by omega
              rw [← map_I6_set, e]; exact hb2.set _ _
            · show _ < _
              have h2 : q / 65536 * 65536 ≤ q := Nat.div_mul_le_self q 65536
              calc q / 65536 * 65536 ^ (k + 1) = (q / 65536 * 65536) * 65536 ^ k := by rw [Nat.pow_succ, Nat.mul_comm (65536 ^ k), Nat.mul_assoc]
                _ ≤ q * 65536 ^ k := Nat.mul_le_mul_right _ h2
                _ < WB := hq.out
          case measure => simp [intOf]; omega
        · obtain rfl : k = 4 := by omega
          have hq0 : q = 0 := by
            have h := hq.out
            rw [WB_def] at h
            omega
          go_wp2_with fail
          go_roundw
          case rel =>
            refine ⟨i + 1, l2, by omega, by go_num, hb2, hw2, hl2.out, ?_, hr2⟩
            show _ = _
            have h := hev.out
            rw [hq0, Nat.mul_zero, Nat.add_zero] at h
            exact h
          case measure => simp [intOf]; omega
    · obtain rfl : i = n := by omega
      have hval : Hid (nb 65536 l = nv xs) := by
        show _ = _
        have h := hv.out
        rwa [List.take_of_length_le (by rw [hll.out]; omega), List.take_of_length_le (by rw [hlx.out]; omega)] at h
      clear hv
      go_wp2_with fail
      go_loop [7] (fun u => ∃ k : Nat, k ≤ 4 * i ∧ u = .int .i64 (k : Int) ∧ Hid (nb 65536 (l.take k) = nb 65536 l)) (fun u => (intOf u).toNat)
      case atStart => exact ⟨4 * i, Nat.le_refl _, by go_num, (show _ = _ by rw [List.take_of_length_le (by rw [hll.out]; omega)])⟩
      case round =>
        obtain ⟨k, hk, rfl, hv⟩ := hrel
        have fin : k = 0 ∨ l.getD (k - 1) 0 ≠ 0 → RetI w (nv xs) (.returned (.slice (some ⟨g, 0, none⟩) k (4 * i))) wr := by
          intro h
          have e := db_take b16 (k := k) hw (by rw [hll.out]; exact hk) hv.out h
          rw [hval.out] at e
          have ho : Own wr w.heap.size 3 1 (some ⟨g, 0, none⟩) k (4 * i) ((db 65536 (nv xs)).map I6) :=
            Own.mk_ hgs hb hk (by rw [len_maxLen]; omega) (by rw [List.length_map, hll.out, Nat.mul_one]) (by rw [Nat.mul_one, ← List.map_take, e])
          refine ⟨_, _, _, rfl, ?_, ⟨ho.rv, Wfb_db b16 _⟩, ho, hr⟩
          show _ = _
          rw [e, List.length_take, hll.out]; omega
        have FIN := Lib.hid fin
        clear fin
        by_cases h0 : 0 < k
        · obtain ⟨x, hxk, hxb, hc⟩ := hb.digit (by omega) hw (i := k - 1) (by rw [hll.out]; omega)
          by_cases hz : x = 0
          · subst hz
            go_wp2_with fail
            go_round
            case rel =>
              refine ⟨k - 1, by omega, val_int (by omega), ?_⟩
              show _ = _
              rw [← hv.out, ← nb_take_zero 65536 l (k - 1) (by rw [hll.out]; omega) hxk.out, Nat.sub_add_cancel h0]
            case measure => simp [intOf]; omega
          · have hzb : ((x : Int) == 0) = false := by simp; omega
            go_wp2_with fail
            go_ret
            exact FIN.out (Or.inr (by rw [hxk.out]; exact hz))
        · go_wp2_with fail
          go_ret
          exact FIN.out (Or.inl (by omega))

theorem ref2_words {w : World} {A : Option Addr} {n cap : Nat} {ds : List Nat} (hx : Ri 65536 w A n cap ds) (hl : n ≤ 1099511627775) :
    Calls Try.prog 38 #[.slice A n cap] w (RetW w (nb 65536 ds)) := by
  have hlx := Lib.hid hx.len
  obtain ⟨m, hm⟩ : ∃ m, m = (n + 3) / 4 := ⟨_, rfl⟩
  have hm1 : n ≤ 4 * m := by omega
  have hm2 : 4 * m < n + 4 := by omega
  have hmk := run_make1 (P := Try.prog) Try.underlying22 info64 rfl (by decide) (((n : Int) + 3) / 4) (by omega) (by omega)
  have et : (((n : Int) + 3) / 4).toNat = m := by omega
  rw [et] at hmk
  clear et hm
  go_enter Try.func38, Try.ntmps38
  go_wp2_with fail
  clear hmk
  obtain ⟨g, hg⟩ : ∃ g, w.heap.size = g := ⟨_, rfl⟩
  rw [hg]
  obtain ⟨wa, hwa⟩ : ∃ wa, w.alloc (.cells (zc (.int .u64 0) m) 23) = wa := ⟨_, rfl⟩
  rw [hwa]
  have hbk : Bk wa g 23 ((List.replicate m 0).map W64) := by
    rw [← hwa, ← hg, ← replicate_W64]; exact Bk.new' _ _ _
  have hea : Ext w wa := by rw [← hwa]; exact (Ext.refl w).alloc _
  have hgs : w.heap.size ≤ g := by rw [hg]; exact Nat.le_refl _
  clear hg hwa
  go_loopw [4] (fun u wr => ∃ (i : Nat) (l : List Nat), i ≤ n ∧ u = .int .i64 ((i : Int) - 1) ∧ Bk wr g 23 (l.map W64) ∧ Hid (l.length = m) ∧ Hid (∀ t, t < m → l.getD t 0 = wval ds i t) ∧ Ext w wr) (fun u wr => (intOf u + 1).toNat)
  case atStart =>
    refine ⟨n, _, Nat.le_refl _, rfl, hbk, List.length_replicate, ?_, hea⟩
    intro t ht
    have e1 : (List.replicate m 0).getD t 0 = 0 := by simp [List.getD_eq_getElem?_getD, ht]
    unfold wval
    rw [e1, List.drop_eq_nil_of_le (by rw [hlx.out]; omega)]; simp [nb]
  case round =>
    obtain ⟨i, l, hi, rfl, hb, hll, hv, hr⟩ := hrel
    clear hbk hea
    have hwl : Wf l := by
      intro x hx'
      obtain ⟨t, ht, rfl⟩ := List.getElem_of_mem hx'
      have := hv.out t (by rw [← hll.out]; exact ht)
      rw [List.getD_eq_getElem?_getD, List.getElem?_eq_getElem ht, Option.getD_some] at this
      rw [this]; exact wval_lt hx.wf _ _
    by_cases h0 : 0 < i
    · obtain ⟨j, rfl⟩ : ∃ j, i = j + 1 := ⟨i - 1, by omega⟩
      obtain ⟨a, d, rfl, hdk, hdb, hcd⟩ := (hx.ext hr).get (by omega) (i := j) (by omega)
      obtain ⟨x, hxk, hxb, hcx⟩ := hb.word hwl (i := j / 4) (by rw [hll.out]; omega)
      have hfr := hb.frozen (j / 4)
      have hval : Hid (d + 65536 * x = wval ds j (j / 4)) := by
        show _ = _
        rw [wval_step, hdk.out, ← hv.out (j / 4) (by omega), hxk.out]
      have hbd : d + 65536 * x ≤ 18446744073709551615 := by
        rw [hval.out]
        have := wval_lt hx.wf j (j / 4)
        rw [WB_def] at this; omega
      have hj : ((j + 1 : Nat) : Int) - 1 = (j : Int) := by omega
      rw [hj]
      clear hj h0
      have c1 : (j : Int) / 4 < (m : Int) := by omega
      have c2 : (0 : Int) ≤ (j : Int) / 4 := by omega
      go_wp2_with fail
      go_region
      go_wp2_with fail
      go_roundw
      case rel =>
        have ev : (x : Int) * 65536 + (d : Int) = ((d + 65536 * x : Nat) : Int) := by omega
        refine ⟨j, l.set (j / 4) (d + 65536 * x), by omega, val_int (by omega), ?_, by show _ = _; rw [List.length_set]; exact hll.out, ?_, (hr.setCell hgs _).drew⟩
        · rw [← map_W64_set, ev]; exact (hb.set _ _).drew
        · intro t ht
          by_cases htj : t = j / 4
          · subst htj
            rw [getD_set_eq (by rw [hll.out]; omega), hval.out]
          · rw [getD_set_ne (fun e => htj e.symm), hv.out t ht, wval_other htj]
      case measure => simp [intOf]
    · obtain rfl : i = 0 := by omega
      have hval : Hid (nv l = nb 65536 ds) := wval_end (fun t ht => hv.out t (by rw [← hll.out]; exact ht)) (by rw [hll.out, hlx.out]; exact hm1) (by rw [hll.out, hlx.out]; exact hm2)
      clear hv
      go_wp2_with fail
      go_loop [5] (fun u => ∃ k : Nat, k ≤ m ∧ u = .int .i64 (k : Int) ∧ Hid (nv (l.take k) = nv l)) (fun u => (intOf u).toNat)
      case atStart => exact ⟨m, Nat.le_refl _, rfl, (show _ = _ by rw [List.take_of_length_le (by rw [hll.out]; omega)])⟩
      case round =>
        obtain ⟨k, hk, rfl, hv⟩ := hrel
        have fin : k = 0 ∨ l.getD (k - 1) 0 ≠ 0 → RetW w (nb 65536 ds) (.returned (.slice (some ⟨g, 0, none⟩) k m)) wr := by
          intro h
          have e := wd_take (k := k) hwl (by rw [hll.out]; exact hk) hv.out h
          rw [← hval.out]
          exact RetW_mk (ys := l) hgs hb hll.out hk (by rw [len_maxLen]; omega) e.symm hr
        have FIN := Lib.hid fin
        clear fin
        by_cases h0 : 0 < k
        · obtain ⟨x, hxk, hxb, hc⟩ := hb.word hwl (i := k - 1) (by rw [hll.out]; omega)
          by_cases hz : x = 0
          · subst hz
            go_wp2_with fail
            go_round
            case rel =>
              refine ⟨k - 1, by omega, val_int (by omega), ?_⟩
              show _ = _
              rw [← hv.out, ← nv_take_zero l (k - 1) (by rw [hll.out]; omega) hxk.out, Nat.sub_add_cancel h0]
            case measure => simp [intOf]; omega
          · have hzb : ((x : Int) == 0) = false := by simp; omega
            go_wp2_with fail
            go_ret
            exact FIN.out (Or.inr (by rw [hxk.out]; exact hz))
        · go_wp2_with fail
          go_ret
          exact FIN.out (Or.inl (by omega))

theorem mulb_step {b : Nat} {l ys : List Nat} {m k c o x y P j i d s : Nat} (hk : k = i + j) (hkm : k < m) (hml : m ≤ l.length) (h : nb b (l.take m) + b ^ k * c = P + x * (b ^ i * nb b (ys.take j)))
    (ho : l.getD k 0 = o) (hj : j < ys.length) (hy : ys.getD j 0 = y) (hs : s + b * d = o + x * y + c) :
    nb b ((l.set k s).take m) + b ^ (k + 1) * d = P + x * (b ^ i * nb b (ys.take (j + 1))) := by
  have e1 := nb_set b (l := l.take m) (k := k) (by rw [List.length_take]; omega) s
  rw [getD_take hkm, ho] at e1
  rw [List.take_set, nb_take_snoc b ys j hj, hy, Nat.mul_add (b ^ i), Nat.mul_add x, ← Nat.add_assoc, ← h, ← Nat.mul_assoc (b ^ i), ← Nat.pow_add, ← hk, Nat.pow_succ, Nat.mul_assoc (b ^ k)]
  have e2 : b ^ k * (s + b * d) = b ^ k * (o + x * y + c) := by rw [hs]
  simp only [Nat.mul_add] at e2
  have e3 : b ^ k * (x * y) = x * (b ^ k * y) := by rw [← Nat.mul_assoc, Nat.mul_comm (b ^ k) x, Nat.mul_assoc]
  rw [e3] at e2
  omega
theorem mul_bound {x y B : Nat} (hx : x ≤ B) (hy : y ≤ B) : ((x : Int) * (y : Int)) ≤ ((B * B : Nat) : Int) ∧ 0 ≤ ((x : Int) * (y : Int)) ∧ ((x : Int) * (y : Int)) = ((x * y : Nat) : Int) := by
  have h : x * y ≤ B * B := Nat.mul_le_mul hx hy
  rw [← Int.natCast_mul]
  omega

theorem ref2_Mul {w : World} {A B : Option Addr} {n cap n' cap' : Nat} {xs ys : List Nat} (hx : Rd w A n cap xs) (hl : n ≤ 68719476735) (hy : Rd w B n' cap' ys) (hl' : n' ≤ 68719476735) :
    Calls Try.prog 19 #[.slice A n cap, .slice B n' cap'] w (RetW w (nv xs * nv ys)) := by
  go_enter Try.func19, Try.ntmps19
  go_wp2_with fail
  refine (ref2_digits hx (by omega)).mono ?_
  rintro e w1 ⟨A1, p, c1, rfl, hp, hr1, _, hx1⟩
  have hbp : p ≤ 274877906944 := by have := len_db16_nv hx.wf; rw [hp.out]; rw [hx.len] at this; omega
  go_wp2_with fail
  refine (ref2_digits (hy.ext hx1) (by omega)).mono ?_
  rintro e w2 ⟨A2, q, c2, rfl, hq, hr2, _, hx2⟩
  have hbq : q ≤ 274877906944 := by have := len_db16_nv hy.wf; rw [hq.out]; rw [hy.len] at this; omega
  have hr1' := hr1.ext hx2
  have hx12 := hx1.trans hx2
  clear hr1 hx1 hx2
  obtain ⟨ds, hds⟩ : ∃ ds, ds = db 65536 (nv xs) := ⟨_, rfl⟩
  obtain ⟨es, hes⟩ : ∃ es, es = db 65536 (nv ys) := ⟨_, rfl⟩
  have hvx := Lib.hid (show nb 65536 ds = nv xs by rw [hds, nb_db b16])
  have hvy := Lib.hid (show nb 65536 es = nv ys by rw [hes, nb_db b16])
  have hdl := Lib.hid hr1'.len
  have hel := Lib.hid hr2.len
  rw [← hds] at hr1' hdl
  rw [← hes] at hr2 hel
  clear hds hes hp hq hx hy
  have hmk := run_make1 (P := Try.prog) Try.underlying56 infoInt rfl (by decide) ((p : Int) + (q : Int)) (by omega) (by omega)
  have et : ((p : Int) + (q : Int)).toNat = p + q := by omega
  rw [et] at hmk
  clear et
  go_wp2_with fail
  clear hmk
  obtain ⟨g, hg⟩ : ∃ g, w2.heap.size = g := ⟨_, rfl⟩
  rw [hg]
  obtain ⟨wa, hwa⟩ : ∃ wa, w2.alloc (.cells (zc (.int .i64 0) (p + q)) 3) = wa := ⟨_, rfl⟩
  rw [hwa]
  have hbk : Bk wa g 3 ((List.replicate (p + q) 0).map I6) := by
    rw [← hwa, ← hg, ← replicate_I6]; exact Bk.new' _ _ _
  have hea : Ext w2 wa := by rw [← hwa]; exact (Ext.refl w2).alloc _
  have hgs : w.heap.size ≤ g := by rw [← hg]; exact hx12.size
  have hgc : w2.heap.size ≤ g := by rw [hg]; exact Nat.le_refl _
  clear hg hwa
  go_loopw [8] (fun u wr => ∃ (i : Nat) (l : List Nat), i ≤ p ∧ u = .int .i64 (i : Int) ∧ Hid (l.length = p + q) ∧ Wfb 65536 l ∧ Bk wr g 3 (l.map I6) ∧
    Hid (nb 65536 (l.take (i + q)) = nb 65536 (ds.take i) * nb 65536 es) ∧ Ext w2 wr) (fun u wr => p - (intOf u).toNat)
  case atStart =>
    refine ⟨0, _, Nat.zero_le _, rfl, List.length_replicate, Wfb_zeros (by omega) _, hbk, ?_, hea⟩
    show _ = _
    rw [List.take_replicate, nb_zeros]; simp [nb]
  case round =>
    obtain ⟨i, l, hi, rfl, hll, hwl, hb, hv, hr⟩ := hrel
    clear hbk hea
    by_cases hip : i < p
    · obtain ⟨a, x, rfl, hxk, hxb, hcx⟩ := (hr1'.ext hr).get (by omega) (i := i) (by omega)
      go_wp2_with fail
      obtain ⟨wo, rfl⟩ : ∃ wo : World, wo = wr := ⟨_, rfl⟩
      go_loopw [10, 9] (fun u v wr => ∃ (j c : Nat) (l : List Nat), j ≤ q ∧ c ≤ 65535 ∧ u = .int .i64 (j : Int) ∧ v = .int .i64 (c : Int) ∧ Hid (l.length = p + q) ∧ Wfb 65536 l ∧ Bk wr g 3 (l.map I6) ∧
        Hid (nb 65536 (l.take (i + q)) + 65536 ^ (i + j) * c = nb 65536 (ds.take i) * nb 65536 es + x * (65536 ^ i * nb 65536 (es.take j))) ∧ Ext w2 wr) (fun u v wr => q - (intOf u).toNat)
      case atStart => exact ⟨0, 0, l, Nat.zero_le _, Nat.zero_le _, rfl, rfl, hll.out, hwl, hb, (show _ = _ by rw [hv.out]; simp [nb]), hr⟩
      case round =>
        obtain ⟨j, c, l2, hj, hc, rfl, rfl, hl2, hw2, hb2, hv2, hr2'⟩ := hrel
        clear hll hwl hb hv
        by_cases hjq : j < q
        · have hcx2 := (hr1'.ext hr2').get (by omega) (i := i) (by omega)
          obtain ⟨a', x', ha', hxk', _, hcx'⟩ := hcx2
          cases ha'
          obtain rfl : x' = x := by rw [← hxk'.out, hxk.out]
          obtain ⟨b, y, rfl, hyk, hyb, hcy⟩ := (hr2.ext hr2').get (by omega) (i := j) (by omega)
          obtain ⟨o, hok, hob, hco⟩ := hb2.digit (by omega) hw2 (i := i + j) (by rw [hl2.out]; omega)
          have hfr := hb2.frozen (i + j)
          obtain ⟨m1, m2, m3⟩ := mul_bound (B := 65535) (x := x') (y := y) (by omega) (by omega)
          have M3 := Lib.hid m3
          clear m3 hcx hxk'
          have m1' : (x' : Int) * (y : Int) ≤ 4294836225 := by simpa using m1
          clear m1
          go_wp2_with fail
          go_quiet (fail)
          go_wp2_with fail
          go_roundw
          case rel =>
            have hs : o + x' * y + c ≤ 4294967295 := by
              have h := M3.out
              have : x' * y ≤ 4294836225 := by omega
              omega
            have ev : ((o : Int) + (x' : Int) * (y : Int) + (c : Int)) = ((o + x' * y + c : Nat) : Int) := by rw [M3.out]; omega
            refine ⟨j + 1, (o + x' * y + c) / 65536, l2.set (i + j) ((o + x' * y + c) % 65536), by omega, by omega, by go_num, by rw [ev]; exact val_int (by omega), by show _ = _; rw [List.length_set]; exact hl2.out, Wfb_set hw2 _ (Nat.mod_lt _ (by omega)), ?_,
              mulb_step (k := i + j) (m := i + q) rfl (by omega) (by rw [hl2.out]; omega) hv2.out hok.out (by rw [hel.out]; omega) hyk.out (Nat.mod_add_div _ _), (by first | exact (hr2'.drewN _).setCell hgc _ | exact (hr2'.setCell hgc _).drewN _)⟩
            have ev2 : ((o : Int) + (x' : Int) * (y : Int) + (c : Int)) % 65536 = (((o + x' * y + c) % 65536 : Nat) : Int) := by rw [ev]; omega
            rw [← map_I6_set, ← ev2]; exact (hb2.drewN _).set _ _
          case measure => simp [intOf]; omega
        · obtain rfl : j = q := by omega
          obtain ⟨o, hok, hob, hco⟩ := hb2.digit (by omega) hw2 (i := i + j) (by rw [hl2.out]; omega)
          have hfr := hb2.frozen (i + j)
          go_wp2_with fail
          go_roundw
          case rel =>
            refine ⟨i + 1, l2.set (i + j) c, by omega, by go_num, by show _ = _; rw [List.length_set]; exact hl2.out, Wfb_set hw2 _ (by omega), by rw [← map_I6_set]; exact hb2.set _ _, ?_, hr2'.setCell hgc _⟩
            show _ = _
            rw [show i + 1 + j = i + j + 1 from by omega, nb_set_snoc 65536 (by rw [hl2.out]; omega), hv2.out, List.take_of_length_le (l := es) (i := j) (by rw [hel.out]; omega), nb_take_snoc 65536 ds i (by rw [hdl.out]; omega), hxk.out, Nat.add_mul, ← Nat.mul_assoc, Nat.mul_comm x]
          case measure => simp [intOf]; omega
    · obtain rfl : i = p := by omega
      have hr3 : Ri 65536 wr (some ⟨g, 0, none⟩) (i + q) (i + q) l := by
        have := hb.ri hwl (o := 0) (n := i + q) (cap := i + q) (Nat.le_refl _) (by rw [hll.out]; omega) (by rw [len_maxLen]; omega)
        rwa [List.drop_zero, List.take_of_length_le (by rw [hll.out]; omega)] at this
      have hval : Hid (nb 65536 l = nv xs * nv ys) := by
        show _ = _
        have h := hv.out
        rwa [List.take_of_length_le (by rw [hll.out]; omega), List.take_of_length_le (by rw [hdl.out]; omega), hvx.out, hvy.out] at h
      go_wp2_with fail
      refine (ref2_words hr3 (by omega)).mono ?_
      rintro e w3 ⟨A3, n3, c3, rfl, hn3, hr4, ho4, hx3⟩
      go_wp2_with fail
      go_ret
      rw [hval.out] at hn3 hr4 ho4
      exact ⟨A3, n3, c3, rfl, hn3, hr4, ho4.mono (hx12.trans hr).size, (hx12.trans hr).trans hx3⟩
end Go.Proofs.Ytacdaafnlbeagaa
