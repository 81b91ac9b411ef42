/- Contracts of package trellisref01, the second part: order, Least, Cmp, Add, BitLen, Same. -/
import Derived.Test.YtacdaafnlbeagaaRef1
namespace Go.Proofs.Ytacdaafnlbeagaa
open Go.RowKit

theorem ref1_order {w : World} {A B : Option Addr} {n cap n' cap' x y : Nat} (hx : Ri 65536 w A n cap (db 65536 x)) (hl : n ≤ 1099511627776) (hy : Ri 65536 w B n' cap' (db 65536 y)) (hl' : n' ≤ 1099511627776) :
    Calls Try.prog 43 #[.slice A n cap, .slice B n' cap'] w (CmpP x y w) := by
  have hlx := Lib.hid hx.len
  have hly := Lib.hid hy.len
  rcases Nat.lt_trichotomy n n' with hlt | rfl | hgt
  · have h1 : ((n : Int) != (n' : Int)) = true := by simp; omega
    go_enter Try.func43, Try.ntmps43
    go_wp2_with fail
    go_ret
    exact CmpP_mk (cmp3_lt (lt_of_len_db_lt b16 (by rw [hlx.out, hly.out]; exact hlt))) (Ext.refl w)
  · have h1 : ((n : Int) != (n : Int)) = false := by simp
    obtain ⟨ds, hds⟩ : ∃ ds, ds = db 65536 x := ⟨_, rfl⟩
    obtain ⟨es, hes⟩ : ∃ es, es = db 65536 y := ⟨_, rfl⟩
    have hvx := Lib.hid (show nb 65536 ds = x by rw [hds, nb_db b16])
    have hvy := Lib.hid (show nb 65536 es = y by rw [hes, nb_db b16])
    rw [← hds] at hx hlx
    rw [← hes] at hy hly
    clear hds hes
    go_enter Try.func43, Try.ntmps43
    go_wp2_with fail
    go_loopw [5] (fun u wr => ∃ i : Nat, i ≤ n ∧ u = .int .i64 ((i : Int) - 1) ∧ Hid (cmp3 (nb 65536 (ds.take i)) (nb 65536 (es.take i)) = cmp3 x y) ∧ Ext w wr) (fun u wr => (intOf u + 1).toNat)
    case atStart => exact ⟨n, Nat.le_refl _, rfl, (show _ = _ by rw [List.take_of_length_le (by rw [hlx.out]; omega), List.take_of_length_le (by rw [hly.out]; omega), hvx.out, hvy.out]), Ext.refl w⟩
    case round =>
      obtain ⟨i, hi, rfl, hv, hext⟩ := hrel
      by_cases h0 : 0 < i
      · obtain ⟨a, p, rfl, hxk, hxb, hc⟩ := (hx.ext hext).get (by omega) (i := i - 1) (by omega)
        obtain ⟨b, q, rfl, hyk, hyb, hd⟩ := (hy.ext hext).get (by omega) (i := i - 1) (by omega)
        have hi' : i - 1 + 1 = i := by omega
        have hcast : ((i - 1 : Nat) : Int) = (i : Int) - 1 := by omega
        have b1 : (0 : Int) ≤ (i : Int) - 1 := by omega
        rcases Nat.lt_trichotomy p q with hlt | rfl | hgt
        · go_wp2_with fail
          go_quiet (fail)
          go_wp2_with fail
          go_ret
          refine CmpP_mk ?_ (by repeat (first | exact Ext.refl _ | assumption | apply Ext.drewN | apply Ext.drew | apply Ext.alloc))
          rw [← hv.out, ← hi']
          exact cmp3_lt (nb_take_succ_lt (by omega) hx.wf (by rw [hlx.out]; omega) (by rw [hly.out]; omega) (by rw [hxk.out, hyk.out]; exact hlt))
        · go_wp2_with fail
          go_quiet (fail)
          go_wp2_with fail
          go_quiet (fail)
          go_wp2_with fail
          go_roundw
          case rel =>
            refine ⟨i - 1, by omega, by congr 1; omega, ?_, (by repeat (first | exact Ext.refl _ | assumption | apply Ext.drewN | apply Ext.drew | apply Ext.alloc))⟩
            show _ = _
            rw [← hv.out, ← cmp3_takeb_eq (k := i - 1) (by rw [hlx.out]; omega) (by rw [hly.out]; omega) (by rw [hxk.out, hyk.out]), hi']
          case measure => simp [intOf]; omega
        · go_wp2_with fail
          go_quiet (fail)
          go_wp2_with fail
          go_quiet (fail)
          go_wp2_with fail
          go_ret
          refine CmpP_mk ?_ (by repeat (first | exact Ext.refl _ | assumption | apply Ext.drewN | apply Ext.drew | apply Ext.alloc))
          rw [← hv.out, ← hi']
          exact cmp3_gt (nb_take_succ_lt (by omega) hy.wf (by rw [hly.out]; omega) (by rw [hlx.out]; omega) (by rw [hxk.out, hyk.out]; exact hgt))
      · go_wp2_with fail
        go_ret
        refine CmpP_mk ?_ hext
        rw [← hv.out, show i = 0 from by omega]
        simp [cmp3_eq]
  · have h1 : ((n : Int) != (n' : Int)) = true := by simp; omega
    go_enter Try.func43, Try.ntmps43
    go_wp2_with fail
    go_ret
    exact CmpP_mk (cmp3_gt (lt_of_len_db_lt b16 (by rw [hlx.out, hly.out]; exact hgt))) (Ext.refl w)

theorem len_db16_nv {xs : List Nat} (hw : Wf xs) : (db 65536 (nv xs)).length ≤ 4 * xs.length := by
  refine len_db_le b16 ?_
  have := nv_lt hw
  rwa [WB_16, ← Nat.pow_mul] at this

theorem ref1_Least {w : World} {A : Option Addr} {n cap : Nat} {xs : List Nat} (hx : Rd w A n cap xs) (hl : n ≤ 274877906943) :
    Calls Try.prog 14 #[.slice A n cap] w (RetW w (nv xs)) := by
  go_enter Try.func14, Try.ntmps14
  go_wp2_with fail
  refine (ref1_Split hx hl).mono ?_
  rintro e w1 ⟨A1, n1, c1, rfl, hn1, hr1, _, hx1⟩
  have hb : n1 ≤ 1099511627775 := by have := len_db16_nv hx.wf; rw [hn1.out]; rw [hx.len] at this; omega
  go_wp2_with fail
  refine (ref1_Join hr1 hb).mono ?_
  rintro e w2 ⟨A2, n2, c2, rfl, hn2, hr2, ho2, hx2⟩
  go_wp2_with fail
  go_ret
  rw [nb_db b16] at hn2 hr2 ho2
  exact ⟨A2, n2, c2, rfl, hn2, hr2, ho2.mono hx1.size, hx1.trans hx2⟩

theorem ref1_Cmp {w : World} {A B : Option Addr} {n cap n' cap' : Nat} {xs ys : List Nat} (hx : Rd w A n cap xs) (hl : n ≤ 274877906943) (hy : Rd w B n' cap' ys) (hl' : n' ≤ 274877906943) :
    Calls Try.prog 26 #[.slice A n cap, .slice B n' cap'] w (CmpP (nv xs) (nv ys) w) := by
  go_enter Try.func26, Try.ntmps26
  go_wp2_with fail
  refine (ref1_Split hx hl).mono ?_
  rintro e w1 ⟨A1, n1, c1, rfl, hn1, hr1, _, hx1⟩
  have hb1 : n1 ≤ 1099511627775 := by have := len_db16_nv hx.wf; rw [hn1.out]; rw [hx.len] at this; omega
  go_wp2_with fail
  refine (ref1_Split (hy.ext hx1) hl').mono ?_
  rintro e w2 ⟨A2, n2, c2, rfl, hn2, hr2, _, hx2⟩
  have hb2 : n2 ≤ 1099511627775 := by have := len_db16_nv hy.wf; rw [hn2.out]; rw [hy.len] at this; omega
  go_wp2_with fail
  refine (ref1_order (hr1.ext hx2) (by omega) hr2 (by omega)).mono ?_
  rintro e w3 ⟨c, hc, hc1, hc2, rfl, hx3⟩
  go_wp2_with fail
  go_ret
  exact ⟨c, hc, hc1, hc2, rfl, (hx1.trans hx2).trans hx3⟩

theorem ref1_at {w : World} {A : Option Addr} {n cap : Nat} {ds : List Nat} (hx : Ri 65536 w A n cap ds) (hl : n ≤ 1099511627776) {i : Int} (h0 : 0 ≤ i) (hi : i ≤ 4398046511104) :
    Calls Try.prog 36 #[.slice A n cap, .int .i64 i] w fun e w' => ∃ x : Nat, Hid (x = ds.getD i.toNat 0) ∧ x ≤ 65535 ∧ e = .returned (.int .i64 (x : Int)) ∧ w = w' := by
  obtain ⟨k, rfl⟩ := Int.eq_ofNat_of_zero_le h0
  rw [Int.toNat_natCast]
  have hlx := Lib.hid hx.len
  by_cases hk : k < n
  · obtain ⟨a, x, rfl, hxk, hxb, hc⟩ := hx.get (by omega) (i := k) hk
    go_enter Try.func36, Try.ntmps36
    go_wp2_with fail
    go_ret
    exact ⟨x, hxk.out.symm, by omega, rfl, rfl⟩
  · go_enter Try.func36, Try.ntmps36
    go_wp2_with fail
    go_ret
    refine ⟨0, ?_, by omega, rfl, rfl⟩
    show _ = _
    rw [List.getD_eq_getElem?_getD, List.getElem?_eq_none (by rw [hlx.out]; omega)]; rfl

def BoolP (b : Bool) (w : World) (e : Ending) (w' : World) : Prop := e = .returned (.bool b) ∧ Ext w w'
theorem ref1_Same {w : World} {A B : Option Addr} {n cap n' cap' : Nat} {xs ys : List Nat} (hx : Rd w A n cap xs) (hl : n ≤ 1099511627776) (hy : Rd w B n' cap' ys) (hl' : n' ≤ 1099511627776) :
    Calls Try.prog 17 #[.slice A n cap, .slice B n' cap'] w (BoolP (decide (xs = ys)) w) := by
  have hlx := Lib.hid hx.len
  have hly := Lib.hid hy.len
  by_cases hn : n = n'
  · subst hn
    have h1 : ((n : Int) != (n : Int)) = false := by simp
    go_enter Try.func17, Try.ntmps17
    go_wp2_with fail
    go_loopw [5] (fun u wr => ∃ i : Nat, i ≤ n ∧ u = .int .i64 (i : Int) ∧ Hid (xs.take i = ys.take i) ∧ Ext w wr) (fun u wr => n - (intOf u).toNat)
    case atStart => exact ⟨0, Nat.zero_le _, rfl, rfl, Ext.refl w⟩
    case round =>
      obtain ⟨i, hi, rfl, hv, hext⟩ := hrel
      by_cases h0 : i < n
      · obtain ⟨a, p, rfl, hxk, hxb, hc⟩ := (hx.ext hext).get (i := i) (by omega)
        obtain ⟨b, q, rfl, hyk, hyb, hd⟩ := (hy.ext hext).get (i := i) (by omega)
        by_cases hpq : p = q
        · subst hpq
          have h2 : ((p : Int) != (p : Int)) = false := by simp
          go_wp2_with fail
          go_quiet (fail)
          go_wp2_with fail
          go_roundw
          case rel =>
            refine ⟨i + 1, by omega, by go_num, ?_, (by repeat (first | exact Ext.refl _ | assumption | apply Ext.drewN | apply Ext.drew | apply Ext.alloc))⟩
            show _ = _
            rw [take_snoc xs i (by rw [hlx.out]; omega) 0, take_snoc ys i (by rw [hly.out]; omega) 0, hv.out, hxk.out, hyk.out]
          case measure => simp [intOf]; omega
        · have h2 : ((p : Int) != (q : Int)) = true := by simp; omega
          go_wp2_with fail
          go_quiet (fail)
          go_wp2_with fail
          go_ret
          have hne : decide (xs = ys) = false := by
            refine decide_eq_false (fun e => hpq ?_)
            rw [← hxk.out, ← hyk.out, e]
          rw [hne]
          exact ⟨rfl, (by repeat (first | exact Ext.refl _ | assumption | apply Ext.drewN | apply Ext.drew | apply Ext.alloc))⟩
      · go_wp2_with fail
        go_ret
        have he : decide (xs = ys) = true := by
          refine decide_eq_true ?_
          have h := hv.out
          rwa [List.take_of_length_le (by rw [hlx.out]; omega), List.take_of_length_le (by rw [hly.out]; omega)] at h
        rw [he]
        exact ⟨rfl, hext⟩
  · have h1 : ((n : Int) != (n' : Int)) = true := by simp; omega
    go_enter Try.func17, Try.ntmps17
    go_wp2_with fail
    go_ret
    have hne : decide (xs = ys) = false := decide_eq_false (fun e => hn (by rw [← hlx.out, ← hly.out, e]))
    rw [hne]
    exact ⟨rfl, Ext.refl w⟩

theorem blen_half {q : Nat} (h : q ≠ 0) : blen q = blen (q / 2) + 1 := by
  refine blen_unique ?_ (Or.inr ?_)
  · have := lt_blen (q / 2)
    rw [Nat.pow_succ]; omega
  · rw [Nat.add_sub_cancel]
    by_cases h0 : q / 2 = 0
    · rw [h0, blen_zero]; omega
    · have h1 := blen_le_self h0
      have h2 : blen (q / 2) ≠ 0 := fun e => h0 (blen_eq_zero.1 e)
      have h3 : 2 ^ blen (q / 2) = 2 * 2 ^ (blen (q / 2) - 1) := by
        conv => lhs; rw [show blen (q / 2) = (blen (q / 2) - 1) + 1 from by omega]
        rw [Nat.pow_succ, Nat.mul_comm]
      omega
theorem blen_db {b k : Nat} (hb : 2 ≤ b) (hbk : b = 2 ^ k) {v m x : Nat} (hm : m = (db b v).length) (h0 : 0 < m) (hx : (db b v).getD (m - 1) 0 = x) : x ≠ 0 ∧ k * (m - 1) + blen x = blen v := by
  have hw := Wfb_db hb v
  have ht := db_top hb v
  rw [← hm, hx] at ht
  have hx0 : x ≠ 0 := by rcases ht with h | h
                         · omega
                         · exact h
  have e2 : v = nb b ((db b v).take (m - 1)) + b ^ (m - 1) * x := by
    have := nb_take_snoc b (db b v) (m - 1) (by omega)
    rw [Nat.sub_add_cancel h0, List.take_of_length_le (by omega), nb_db hb, hx] at this
    exact this
  have hlt := nb_take_lt (by omega) hw (m - 1)
  generalize nb b ((db b v).take (m - 1)) = lo at *
  refine ⟨hx0, (blen_unique ?_ (Or.inr ?_)).symm⟩
  · have h1 := lt_blen x
    rw [Nat.pow_add, Nat.pow_mul, ← hbk]
    have h2 : b ^ (m - 1) * x + b ^ (m - 1) ≤ b ^ (m - 1) * 2 ^ blen x := by
      have := Nat.mul_le_mul_left (b ^ (m - 1)) (Nat.succ_le_of_lt h1)
      rwa [Nat.mul_succ] at this
    omega
  · have h1 := blen_le_self hx0
    have hb' : blen x ≠ 0 := fun h => hx0 (blen_eq_zero.1 h)
    rw [Nat.add_sub_assoc (by omega), Nat.pow_add, Nat.pow_mul, ← hbk]
    have := Nat.mul_le_mul_left (b ^ (m - 1)) h1
    omega
theorem ref1_BitLen {w : World} {A : Option Addr} {n cap : Nat} {xs : List Nat} (hx : Rd w A n cap xs) (hl : n ≤ 274877906943) :
    Calls Try.prog 23 #[.slice A n cap] w (NumP (blen (nv xs)) w) := by
  go_enter Try.func23, Try.ntmps23
  go_wp2_with fail
  refine (ref1_Split hx hl).mono ?_
  rintro e w1 ⟨A1, m, c1, rfl, hm, hr1, _, hx1⟩
  have hb1 : m ≤ 1099511627775 := by have := len_db16_nv hx.wf; rw [hm.out]; rw [hx.len] at this; omega
  by_cases h0 : 0 < m
  · obtain ⟨a, x, rfl, hxk, hxb, hcx⟩ := hr1.get (by omega) (i := m - 1) (by omega)
    have hb := Lib.hid (blen_db (k := 16) b16 (by decide) hm.out h0 hxk.out)
    have b0 : ((m : Int) == 0) = false := by simp; omega
    go_wp2_with fail
    go_loop [4, 5] (fun u v => ∃ k q t : Nat, u = .int .i64 (k : Int) ∧ v = .int .i64 (q : Int) ∧ q < 65536 ∧ k + t ≤ 17592186044416 ∧ Hid (t = blen q) ∧ Hid (k + t = blen (nv xs))) (fun u v => (intOf v).toNat)
    case atStart => exact ⟨16 * (m - 1), x, blen x, val_int (by omega), rfl, hxb, by have := blen_le (k := 16) hxb; omega, rfl, hb.out.2⟩
    case round =>
      obtain ⟨k, q, t, rfl, rfl, hq, hkb, ht, hv⟩ := hrel
      by_cases hq0 : 0 < q
      · have hh := Lib.hid (blen_half (q := q) (by omega))
        have ht1 : 1 ≤ t := by rw [ht.out, hh.out]; omega
        go_wp2_with fail
        go_round
        case rel => exact ⟨k + 1, q / 2, t - 1, by go_num, val_int (by omega), by omega, by omega, by show _ = _; rw [ht.out, hh.out]; omega, by show _ = _; rw [← hv.out]; omega⟩
        case measure => simp [intOf]; omega
      · obtain rfl : q = 0 := by omega
        have ht0 : t = 0 := by rw [ht.out, blen_zero]
        subst ht0
        go_wp2_with fail
        go_ret
        exact ⟨k, hv.out, rfl, hx1⟩
  · obtain rfl : m = 0 := by omega
    go_wp2_with fail
    go_ret
    refine ⟨0, ?_, rfl, hx1⟩
    show _ = _
    rw [(len_db_zero b16).1 hm.out.symm, blen_zero]

theorem getD_db_lt (m i : Nat) : (db 65536 m).getD i 0 < 65536 := Wfb_getD (by omega) (Wfb_db b16 m) i

theorem nb_take_getD (b : Nat) (xs : List Nat) (k : Nat) : nb b (xs.take (k + 1)) = nb b (xs.take k) + b ^ k * xs.getD k 0 := by
  by_cases h : k < xs.length
  · exact nb_take_snoc b xs k h
  · rw [List.take_of_length_le (by omega), List.take_of_length_le (by omega), List.getD_eq_getElem?_getD, List.getElem?_eq_none (by omega)]; simp
theorem addb_step {b : Nat} {l xs ys : List Nat} {i c x y d : Nat} (hli : i < l.length) (h : nb b (l.take i) + b ^ i * c = nb b (xs.take i) + nb b (ys.take i))
    (hx : x = xs.getD i 0) (hy : y = ys.getD i 0) {s : Nat} (hs : s + b * d = x + y + c) :
    nb b ((l.set i s).take (i + 1)) + b ^ (i + 1) * d = nb b (xs.take (i + 1)) + nb b (ys.take (i + 1)) := by
  have e1 : (l.set i s).getD i 0 = s := by simp [List.getD_eq_getElem?_getD, hli]
  have e2 : (l.set i s).take i = l.take i := by rw [List.take_set_of_le (Nat.le_refl i)]
  rw [nb_take_snoc b _ i (by rw [List.length_set]; exact hli), e1, e2, nb_take_getD b xs i, nb_take_getD b ys i, ← hx, ← hy, Nat.pow_succ, Nat.mul_assoc]
  have e4 : b ^ i * (s + b * d) = b ^ i * (x + y + c) := by rw [hs]
  simp only [Nat.mul_add] at e4
  omega

theorem ref1_Add {w : World} {A B : Option Addr} {n cap n' cap' : Nat} {xs ys : List Nat} (hx : Rd w A n cap xs) (hl : n ≤ 137438953471) (hy : Rd w B n' cap' ys) (hl' : n' ≤ 137438953471) :
    Calls Try.prog 18 #[.slice A n cap, .slice B n' cap'] w (RetW w (nv xs + nv ys)) := by
  go_enter Try.func18, Try.ntmps18
  go_wp2_with fail
  refine (ref1_Split hx (by omega)).mono ?_
  rintro e w1 ⟨A1, p, c1, rfl, hp, hr1, _, hx1⟩
  have hb1 : p ≤ 549755813888 := by have := len_db16_nv hx.wf; rw [hp.out]; rw [hx.len] at this; omega
  go_wp2_with fail
  refine (ref1_Split (hy.ext hx1) (by omega)).mono ?_
  rintro e w2 ⟨A2, q, c2, rfl, hq, hr2, _, hx2⟩
  have hb2 : q ≤ 549755813888 := by have := len_db16_nv hy.wf; rw [hq.out]; rw [hy.len] at this; omega
  have hr1' := hr1.ext hx2
  have hx12 := hx1.trans hx2
  clear hr1 hx1 hx2
  obtain ⟨ds, hds⟩ : ∃ ds, ds = db 65536 (nv xs) := ⟨_, rfl⟩
  obtain ⟨es, hes⟩ : ∃ es, es = db 65536 (nv ys) := ⟨_, rfl⟩
  have hvx := Lib.hid (show nb 65536 ds = nv xs by rw [hds, nb_db b16])
  have hvy := Lib.hid (show nb 65536 es = nv ys by rw [hes, nb_db b16])
  have hdl := Lib.hid hr1'.len
  have hel := Lib.hid hr2.len
  rw [← hds] at hr1' hdl
  rw [← hes] at hr2 hel
  clear hds hes hp hq hx hy
  go_upto_if 21 with (fail)
  go_cut [7] (fun u wc => ∃ m : Nat, u = .int .i64 (m : Int) ∧ p ≤ m ∧ q ≤ m ∧ m ≤ 549755813888 ∧ w2 = wc)
  case first =>
    by_cases hlt : p < q
    · go_wp2_with fail
      go_meet
      case rel => exact ⟨q, rfl, by omega, by omega, hb2, rfl⟩
    · go_wp2_with fail
      go_meet
      case rel => exact ⟨p, rfl, by omega, by omega, hb1, rfl⟩
  case rest =>
    obtain ⟨m, rfl, hpm, hqm, hmb, rfl⟩ := hcut
    have hmk := run_make1 (P := Try.prog) Try.underlying56 infoInt rfl (by decide) ((m : Int) + 1) (by omega) (by omega)
    have et : ((m : Int) + 1).toNat = m + 1 := by omega
    rw [et] at hmk
    clear et
    go_wp2_with fail
    clear hmk
    obtain ⟨g, hg⟩ : ∃ g, w2.heap.size = g := ⟨_, rfl⟩
    rw [hg]
    obtain ⟨wa, hwa⟩ : ∃ wa, w2.alloc (.cells (zc (.int .i64 0) (m + 1)) 3) = wa := ⟨_, rfl⟩
    rw [hwa]
    have hbk : Bk wa g 3 ((List.replicate (m + 1) 0).map I6) := by
      rw [← hwa, ← hg, ← replicate_I6]; exact Bk.new' _ _ _
    have hea : Ext w2 wa := by rw [← hwa]; exact (Ext.refl w2).alloc _
    have hgs : w.heap.size ≤ g := by rw [← hg]; exact hx12.size
    have hgc : w2.heap.size ≤ g := by rw [hg]; exact Nat.le_refl _
    clear hg hwa
    go_loopw [10, 9] (fun u v wr => ∃ (i c : Nat) (l : List Nat), i ≤ m ∧ c ≤ 1 ∧ u = .int .i64 (i : Int) ∧ v = .int .i64 (c : Int) ∧ Hid (l.length = m + 1) ∧ Wfb 65536 l ∧ Bk wr g 3 (l.map I6) ∧
      Hid (nb 65536 (l.take i) + 65536 ^ i * c = nb 65536 (ds.take i) + nb 65536 (es.take i)) ∧ Ext w2 wr) (fun u v wr => m - (intOf u).toNat)
    case atStart => exact ⟨0, 0, _, Nat.zero_le _, Nat.zero_le _, rfl, rfl, List.length_replicate, Wfb_zeros (by omega) _, hbk, by simp [Hid, nb], hea⟩
    case round =>
      obtain ⟨i, c, l, hi, hc, rfl, rfl, hll, hwl, hb, hv, hr⟩ := hrel
      clear hbk hea
      by_cases him : i < m
      · obtain ⟨o, ho, _, hco⟩ := hb.digit (by omega) hwl (i := i) (by rw [hll.out]; omega)
        have hfr := hb.frozen i
        go_wp2_with fail
        refine (ref1_at (hr1'.ext hr) (by omega) (i := (i : Int)) (by omega) (by omega)).mono ?_
        rintro e w' ⟨x, hx, hxb, rfl, rfl⟩
        go_wp2_with fail
        refine (ref1_at (hr2.ext hr) (by omega) (i := (i : Int)) (by omega) (by omega)).mono ?_
        rintro e w' ⟨y, hy, hyb, rfl, rfl⟩
        rw [Int.toNat_natCast] at hx hy
        go_wp2_with fail
        go_roundw
        case rel =>
          have ec : ((x : Int) + (y : Int) + (c : Int)) % 65536 = (((x + y + c) % 65536 : Nat) : Int) := by omega
          refine ⟨i + 1, (x + y + c) / 65536, l.set i ((x + y + c) % 65536), by omega, by omega, by go_num, val_int (by omega), by show _ = _; rw [List.length_set]; exact hll.out, Wfb_set hwl i (by omega), ?_,
            addb_step (by rw [hll.out]; omega) hv.out hx.out hy.out (Nat.mod_add_div _ _), hr.setCell hgc _⟩
          rw [← map_I6_set, ec]; exact hb.set i _
        case measure => simp [intOf]; omega
      · obtain rfl : i = m := by omega
        obtain ⟨o, ho, _, hco⟩ := hb.digit (by omega) hwl (i := i) (by rw [hll.out]; omega)
        have hfr := hb.frozen i
        have hb2 := hb.set i (.int .i64 (c : Int))
        rw [map_I6_set] at hb2
        have hll2 : Hid ((l.set i c).length = i + 1) := by show _ = _; rw [List.length_set]; exact hll.out
        have hwl2 : Wfb 65536 (l.set i c) := Wfb_set hwl i (by omega)
        have hr3 : Ri 65536 (wr.setCell ⟨g, i, none⟩ (.int .i64 (c : Int))) (some ⟨g, 0, none⟩) (i + 1) (i + 1) (l.set i c) := by
          have := hb2.ri hwl2 (o := 0) (n := i + 1) (cap := i + 1) (Nat.le_refl _) (by rw [hll2.out]; omega) (by rw [len_maxLen]; omega)
          rwa [List.drop_zero, List.take_of_length_le (by rw [hll2.out]; omega)] at this
        have hval : Hid (nb 65536 (l.set i c) = nv xs + nv ys) := by
          show _ = _
          have e1 : (l.set i c).getD i 0 = c := by
            have := hll.out
            simp [List.getD_eq_getElem?_getD, this]
          have e2 : (l.set i c).take i = l.take i := by rw [List.take_set_of_le (Nat.le_refl i)]
          have e3 := nb_take_snoc 65536 (l.set i c) i (by rw [hll2.out]; omega)
          rw [e1, e2, List.take_of_length_le (by rw [hll2.out]; omega), hv.out, List.take_of_length_le (by rw [hdl.out]; omega), List.take_of_length_le (by rw [hel.out]; omega)] at e3
          rw [e3, hvx.out, hvy.out]
        go_wp2_with fail
        refine (ref1_Join hr3 (by omega)).mono ?_
        rintro e w3 ⟨A3, n3, c3, rfl, hn3, hr4, ho4, hx3⟩
        go_wp2_with fail
        go_ret
        rw [hval.out] at hn3 hr4 ho4
        exact ⟨A3, n3, c3, rfl, hn3, hr4, ho4.mono (by have := hx12.size; have := hr.size; simp; omega), ((hx12.trans hr).setCell hgs _).trans hx3⟩

end Go.Proofs.Ytacdaafnlbeagaa
