/- Contracts of package nat: what each call answers, by the numbers that lists of words stand for. -/
import Derived.Test.YtmaconeeonkdgaaProg
import Derived.Test.YtmaconeeonkdgaaBits
namespace Go.Proofs.Ytmaconeeonkdgaa
open Go.RowKit

theorem info64 : (Try.prog.info? 47).map (fun i => (i.zero, i.size, i.bytes)) = some (some (.int .u64 0), 1, 8) := by kernel_rfl
theorem size64 : (Try.prog.info? 47).map (·.size) = some 1 := by kernel_rfl

/-- the answer is the least form of m, in memory of its own; what lay there lies there still -/
def RetW (w : World) (m : Nat) (e : Ending) (w' : World) : Prop :=
  ∃ A n cap, e = .returned (.slice A n cap) ∧ Hid (n = (wd m).length) ∧ Rd w' A n cap (wd m) ∧ Own w' w.heap.size 47 1 A n cap ((wd m).map W64) ∧ Ext w w'

theorem RetW_mk {w w' : World} {m g n cap : Nat} {ys : List Nat} (hg : w.heap.size ≤ g) (hb : Bk w' g 47 (ys.map W64)) (hl : ys.length = cap) (hn : n ≤ cap) (hc : cap ≤ maxLen) (hy : ys.take n = wd m) (hx : Ext w w') :
    RetW w m (.returned (.slice (some ⟨g, 0, none⟩) n cap)) w' := by
  have hlen : n = (wd m).length := by rw [← hy, List.length_take]; omega
  have ho : Own w' w.heap.size 47 1 (some ⟨g, 0, none⟩) n cap ((wd m).map W64) :=
    Own.mk_ hg hb hn hc (by simpa using hl) (by rw [Nat.mul_one, ← List.map_take, hy])
  exact ⟨_, _, _, rfl, hlen, ho.rd (Wf_wd m), ho, hx⟩
theorem RetW_nil {w w' : World} {m : Nat} (hm : m = 0) (hx : Ext w w') : RetW w m (.returned (.slice none 0 0)) w' := by
  subst hm
  exact ⟨none, 0, 0, rfl, rfl, Rd.nil w', Own.nil w' _ _ _, hx⟩

def SizeP (xs : List Nat) (n : Nat) (w : World) (e : Ending) (w' : World) : Prop :=
  ∃ m : Nat, Hid (m = (wd (nv xs)).length) ∧ m ≤ n ∧ e = .returned (.int .i64 (m : Int)) ∧ w = w'

theorem nat_size {w : World} {A : Option Addr} {n cap : Nat} {xs : List Nat} (hx : Rd w A n cap xs) (hl : n ≤ 1099511627776) :
    Calls Try.prog 83 #[.slice A n cap] w (SizeP xs n w) := by
  have hlen := Lib.hid hx.len
  go_enter Try.func83, Try.ntmps83
  go_wp2_with fail
  go_loop [3] (fun u => ∃ k : Nat, k ≤ n ∧ u = .int .i64 (k : Int) ∧ nv (xs.take k) = nv xs) (fun u => (intOf u).toNat)
  case atStart => exact ⟨n, Nat.le_refl _, rfl, by rw [← hlen.out, List.take_length]⟩
  case round =>
    obtain ⟨k, hk, rfl, hv⟩ := hrel
    have HV := Lib.hid hv
    clear hv
    by_cases h0 : 0 < k
    · obtain ⟨a, x, rfl, hxk, hxb, hc⟩ := hx.get (i := k - 1) (by omega)
      by_cases hz : x = 0
      · subst hz
        go_wp2_with fail
        go_round
        case rel =>
          refine ⟨k - 1, by omega, by congr 1; omega, ?_⟩
          rw [← HV.out, ← nv_take_zero xs (k - 1) (by rw [hlen.out]; omega) hxk.out, Nat.sub_add_cancel h0]
        case measure => simp [intOf]; omega
      · have hzb : ((x : Int) == 0) = false := by simp; omega
        go_wp2_with fail
        go_ret
        refine ⟨k, ?_, hk, rfl, rfl⟩
        have := wd_take (k := k) hx.wf (by rw [hlen.out]; exact hk) HV.out (Or.inr (by rw [hxk.out]; exact hz))
        show k = _
        rw [this, List.length_take, hlen.out]; omega
    · go_wp2_with fail
      go_ret
      refine ⟨k, ?_, hk, rfl, rfl⟩
      have := wd_take (k := k) hx.wf (by rw [hlen.out]; exact hk) HV.out (Or.inl (by omega))
      show k = _
      rw [this, List.length_take, hlen.out]; omega

theorem nat_own {w : World} {A : Option Addr} {n cap : Nat} {xs : List Nat} (hx : Rd w A n cap xs) (hl : n ≤ 1099511627776) :
    Calls Try.prog 80 #[.slice A n cap] w (RetW w (nv xs)) := by
  have hlen := Lib.hid hx.len
  go_enter Try.func80, Try.ntmps80
  go_wp2_with fail
  refine (nat_size hx hl).mono ?_
  rintro e w' ⟨m, hm, hmn, rfl, rfl⟩
  have hmk := run_make1 (P := Try.prog) Try.underlying25 info64 rfl (by decide) (m : Int) (by omega) (by omega)
  simp only [Int.toNat_natCast] at hmk
  go_wp2_with ((with_reducible refine at_slot (some 11) ?_); refine wpc_copy rfl (.tmp 9) (.tmp 10) 25 25 rfl rfl rfl Try.underlying25 size64 (Bk.new' _ _ _) (hx.rv.ext ((Ext.refl _).alloc _)) (fun _ => rfl) ?fit (W64_oneCell xs) ?_; rotate_left; intro w1 hb1 hu1)
  case fit => simp [zc_list]
  go_ret
  have e : wd (nv xs) = xs.take m := by
    have h1 := hx.wf
    have h2 : m ≤ xs.length := by rw [hlen.out]; exact hmn
    exact wd_take_len h1 hm.out
  refine RetW_mk (g := w.heap.size) (ys := xs.take m) (Nat.le_refl _) ?_ ?_ (Nat.le_refl _) (by rw [len_maxLen]; omega) ?_ (hu1.ext ((Ext.refl w).alloc _) (Nat.le_refl _))
  · have h := hb1
    rw [zc_list, replicate_W64, ← List.map_take, splice_W64, splice_all _ _ (by rw [List.length_replicate, List.length_take, hlen.out]; omega)] at h
    exact h
  · rw [List.length_take, hlen.out]; omega
  · rw [List.take_take, Nat.min_self, e]

theorem nat_Least {w : World} {A : Option Addr} {n cap : Nat} {xs : List Nat} (hx : Rd w A n cap xs) (hl : n ≤ 1099511627776) :
    Calls Try.prog 56 #[.slice A n cap] w (RetW w (nv xs)) := by
  go_enter Try.func56, Try.ntmps56
  go_wp2_with fail
  refine (nat_own hx hl).mono ?_
  rintro e w' ⟨A1, n1, c1, rfl, h⟩
  go_wp2_with fail
  go_ret
  exact ⟨A1, n1, c1, rfl, h⟩

def CmpP (a b : Nat) (w : World) (e : Ending) (w' : World) : Prop :=
  ∃ c : Int, Hid (c = cmp3 a b) ∧ -1 ≤ c ∧ c ≤ 1 ∧ e = .returned (.int .i64 c) ∧ Ext w w'
theorem CmpP_mk {a b : Nat} {w w' : World} {c : Int} (h : cmp3 a b = c) (hx : Ext w w') : CmpP a b w (.returned (.int .i64 c)) w' := by
  subst h
  exact ⟨_, rfl, (cmp3_bd a b).1, (cmp3_bd a b).2, rfl, hx⟩

theorem nat_Cmp {w : World} {A B : Option Addr} {n cap n' cap' : Nat} {xs ys : List Nat} (hx : Rd w A n cap xs) (hl : n ≤ 1099511627776) (hy : Rd w B n' cap' ys) (hl' : n' ≤ 1099511627776) :
    Calls Try.prog 63 #[.slice A n cap, .slice B n' cap'] w (CmpP (nv xs) (nv ys) w) := by
  have hlx := Lib.hid hx.len
  have hly := Lib.hid hy.len
  go_enter Try.func63, Try.ntmps63
  go_wp2_with fail
  refine (nat_size hx hl).mono ?_
  rintro e w' ⟨m, hm, hmn, rfl, rfl⟩
  go_wp2_with fail
  refine (nat_size hy hl').mono ?_
  rintro e w' ⟨k, hk, hkn, rfl, rfl⟩
  rcases Nat.lt_trichotomy m k with hlt | rfl | hgt
  · have h1 : ((m : Int) != (k : Int)) = true := by simp; omega
    go_wp2_with fail
    go_ret
    exact CmpP_mk (cmp3_lt (lt_of_len_lt (by rw [← hm.out, ← hk.out]; exact hlt))) (Ext.refl w)
  · have h1 : ((m : Int) != (m : Int)) = false := by simp
    go_wp2_with fail
    go_loopw [7] (fun u wr => ∃ i : Nat, i ≤ m ∧ u = .int .i64 ((i : Int) - 1) ∧ Hid (cmp3 (nv (xs.take i)) (nv (ys.take i)) = cmp3 (nv xs) (nv ys)) ∧ Ext w wr) (fun u wr => (intOf u + 1).toNat)
    case atStart => exact ⟨m, Nat.le_refl _, rfl, (show _ = _ by rw [nv_take_len hx.wf hm.out, nv_take_len hy.wf hk.out]), Ext.refl w⟩
    case round =>
      obtain ⟨i, hi, rfl, hv, hext⟩ := hrel
      by_cases h0 : 0 < i
      · obtain ⟨a, x, rfl, hxk, hxb, hc⟩ := (hx.ext hext).get (i := i - 1) (by omega)
        obtain ⟨b, y, rfl, hyk, hyb, hd⟩ := (hy.ext hext).get (i := i - 1) (by omega)
        have hi' : i - 1 + 1 = i := by omega
        have hcast : ((i - 1 : Nat) : Int) = (i : Int) - 1 := by omega
        have b1 : (0 : Int) ≤ (i : Int) - 1 := by omega
        rcases Nat.lt_trichotomy x y with hlt | rfl | hgt
        · go_wp2_with fail
          go_quiet (fail)
          go_wp2_with fail
          go_ret
          refine CmpP_mk ?_ (by repeat (first | exact Ext.refl _ | assumption | apply Ext.drewN | apply Ext.drew | apply Ext.alloc))
          rw [← hv.out, ← hi']
          exact cmp3_lt (nv_take_succ_lt hx.wf (by rw [hlx.out]; omega) (by rw [hly.out]; omega) (by rw [hxk.out, hyk.out]; exact hlt))
        · go_wp2_with fail
          go_quiet (fail)
          go_wp2_with fail
          go_quiet (fail)
          go_wp2_with fail
          go_roundw
          case rel =>
            refine ⟨i - 1, by omega, by congr 1; omega, ?_, (by repeat (first | exact Ext.refl _ | assumption | apply Ext.drewN | apply Ext.drew | apply Ext.alloc))⟩
            show _ = _
            rw [← hv.out, ← cmp3_take_eq (k := i - 1) (by rw [hlx.out]; omega) (by rw [hly.out]; omega) (by rw [hxk.out, hyk.out]), hi']
          case measure => simp [intOf]; omega
        · go_wp2_with fail
          go_quiet (fail)
          go_wp2_with fail
          go_quiet (fail)
          go_wp2_with fail
          go_ret
          refine CmpP_mk ?_ (by repeat (first | exact Ext.refl _ | assumption | apply Ext.drewN | apply Ext.drew | apply Ext.alloc))
          rw [← hv.out, ← hi']
          exact cmp3_gt (nv_take_succ_lt hy.wf (by rw [hly.out]; omega) (by rw [hlx.out]; omega) (by rw [hxk.out, hyk.out]; exact hgt))
      · go_wp2_with fail
        go_ret
        refine CmpP_mk ?_ hext
        rw [← hv.out, show i = 0 from by omega]
        simp [cmp3_eq]
  · have h1 : ((m : Int) != (k : Int)) = true := by simp; omega
    go_wp2_with fail
    go_ret
    exact CmpP_mk (cmp3_gt (lt_of_len_lt (by rw [← hm.out, ← hk.out]; exact hgt))) (Ext.refl w)

/-- the list that sums: word by word -/
theorem add_step {l xs ys : List Nat} {i m c x y s d : Nat} (hli : i < l.length) (hxi : i < xs.length) (hmy : m ≤ ys.length) (h : nv (l.take i) + WB ^ i * c = nv (xs.take i) + nv (ys.take (min i m)))
    (hx : xs.getD i 0 = x) (hy : (if i < m then ys.getD i 0 else 0) = y) (hs : s + WB * d = x + y + c) :
    nv ((l.set i s).take (i + 1)) + WB ^ (i + 1) * d = nv (xs.take (i + 1)) + nv (ys.take (min (i + 1) m)) := by
  have e1 : (l.set i s).getD i 0 = s := by simp [List.getD_eq_getElem?_getD, hli]
  have e2 : (l.set i s).take i = l.take i := by rw [List.take_set_of_le (Nat.le_refl i)]
  rw [nv_take_snoc _ i (by rw [List.length_set]; exact hli), e1, e2, nv_take_snoc xs i hxi, hx]
  have e3 : nv (ys.take (min (i + 1) m)) = nv (ys.take (min i m)) + WB ^ i * y := by
    by_cases him : i < m
    · rw [if_pos him] at hy
      rw [Nat.min_eq_left (by omega), Nat.min_eq_left (by omega), nv_take_snoc ys i (by omega), hy]
    · rw [if_neg him] at hy
      rw [Nat.min_eq_right (by omega), Nat.min_eq_right (by omega), ← hy, Nat.mul_zero, Nat.add_zero]
  rw [e3, Nat.pow_succ, Nat.mul_assoc]
  have e4 : WB ^ i * (s + WB * d) = WB ^ i * (x + y + c) := by rw [hs]
  simp only [Nat.mul_add] at e4
  omega

def AddR (w : World) (S : Nat) (u v : Value) (wc : World) : Prop :=
  ∃ A n cap xs B n' cap' ys, u = .slice A n cap ∧ v = .slice B n' cap' ∧ Rd wc A n cap xs ∧ Rd wc B n' cap' ys ∧ n ≤ 1099511627775 ∧ n' ≤ 1099511627775 ∧ Hid (nv xs + nv ys = S) ∧ (wd (nv ys)).length ≤ (wd (nv xs)).length ∧ Ext w wc

theorem nat_Add {w : World} {A B : Option Addr} {n cap n' cap' : Nat} {xs ys : List Nat} (hx : Rd w A n cap xs) (hl : n ≤ 1099511627775) (hy : Rd w B n' cap' ys) (hl' : n' ≤ 1099511627775) :
    Calls Try.prog 64 #[.slice A n cap, .slice B n' cap'] w (RetW w (nv xs + nv ys)) := by
  go_enter Try.func64, Try.ntmps64
  go_upto_if 15 with (fail)
  refine (nat_size hx (by omega)).mono ?_
  rintro e w' ⟨m, hm, hmn, rfl, rfl⟩
  go_upto_if 15 with (fail)
  refine (nat_size hy (by omega)).mono ?_
  rintro e w' ⟨k, hk, hkn, rfl, rfl⟩
  go_upto_if 15 with (fail)
  go_cut [0, 1] (fun u v wc => AddR w (nv xs + nv ys) u v wc)
  case first =>
    by_cases hlt : m < k
    · go_wp2_with fail
      go_meet
      case rel => exact ⟨B, n', cap', ys, A, n, cap, xs, rfl, rfl, hy, hx, hl', hl, Nat.add_comm _ _, by rw [← hm.out, ← hk.out]; omega, Ext.refl w⟩
    · go_wp2_with fail
      go_meet
      case rel => exact ⟨A, n, cap, xs, B, n', cap', ys, rfl, rfl, hx, hy, hl, hl', rfl, by rw [← hm.out, ← hk.out]; omega, Ext.refl w⟩
  case rest =>
    clear hm hk hmn hkn hx hy hl hl'
    obtain ⟨A, n, cap, xs, B, n', cap', ys, rfl, rfl, hx, hy, hl, hl', hS, hle, hext⟩ := hcut
    go_wp2_with fail
    refine (nat_size hx (by omega)).mono ?_
    rintro e w' ⟨m, hm, hmn, rfl, rfl⟩
    go_wp2_with fail
    refine (nat_size hy (by omega)).mono ?_
    rintro e w' ⟨k, hk, hkn, rfl, rfl⟩
    have hkm : k ≤ m := by rw [hm.out, hk.out]; exact hle
    have hlx := Lib.hid hx.len
    have hly := Lib.hid hy.len
    have hmk := run_make1 (P := Try.prog) Try.underlying25 info64 rfl (by decide) ((m : Int) + 1) (by omega) (by omega)
    have et : ((m : Int) + 1).toNat = m + 1 := by omega
    rw [et] at hmk
    clear et
    go_wp2_with fail
    clear hmk
    obtain ⟨g, hg⟩ : ∃ g, wc.heap.size = g := ⟨_, rfl⟩
    rw [hg]
    obtain ⟨wa, hwa⟩ : ∃ wa, wc.alloc (.cells (zc (.int .u64 0) (m + 1)) 47) = wa := ⟨_, rfl⟩
    rw [hwa]
    have hbk : Bk wa g 47 ((List.replicate (m + 1) 0).map W64) := by
      rw [← hwa, ← hg, ← replicate_W64]; exact Bk.new' _ _ _
    have hea : Ext wc wa := by rw [← hwa]; exact (Ext.refl wc).alloc _
    have hgs : w.heap.size ≤ g := by rw [← hg]; exact hext.size
    have hgc : wc.heap.size ≤ g := by rw [hg]; exact Nat.le_refl _
    clear hg hwa
    go_loopw [26, 8] (fun u v wr => ∃ (i c : Nat) (l : List Nat), i ≤ m ∧ c ≤ 1 ∧ u = .int .i64 (i : Int) ∧ v = .int .u64 (c : Int) ∧ Hid (l.length = m + 1) ∧ Wf l ∧ Bk wr g 47 (l.map W64) ∧
      Hid (nv (l.take i) + WB ^ i * c = nv (xs.take i) + nv (ys.take (min i k))) ∧ Ext wc wr) (fun u v wr => m - (intOf u).toNat)
    case atStart => exact ⟨0, 0, _, Nat.zero_le _, Nat.zero_le _, rfl, rfl, List.length_replicate, Wf_zeros _, hbk, by simp [Hid, nv], hea⟩
    case round =>
      obtain ⟨i, c, l, hi, hc, rfl, rfl, hll, hwl, hb, hv, hr⟩ := hrel
      clear hbk hea
      by_cases him : i < m
      · obtain ⟨a, x, rfl, hxk, hxb, hcx⟩ := (hx.ext hr).get (i := i) (by omega)
        obtain ⟨o, ho, _, hco⟩ := hb.word hwl (i := i) (by rw [hll.out]; omega)
        have hfr := hb.frozen i
        by_cases hik : i < k
        · obtain ⟨b, y, rfl, hyk, hyb, hcy⟩ := (hy.ext hr).get (i := i) (by omega)
          go_wp2_with ((with_reducible refine at_slot (some 45) ?_); refine wpl_add64 rfl (.tmp 42) (.tmp 43) (.tmp 44) rfl x y c rfl rfl rfl hc hxb hyb ?_; intro s d hs hsb hd)
          go_roundw
          case rel => exact ⟨i + 1, d, _, by omega, hd, by go_num, rfl, by show _ = _; rw [List.length_set]; exact hll.out, Wf_set hwl i (by rw [WB_def]; omega), by rw [← map_W64_set]; exact hb.set i _,
            add_step (by rw [hll.out]; omega) (by rw [hlx.out]; omega) (by rw [hly.out]; omega) hv.out hxk.out (by rw [if_pos hik]; exact hyk.out) hs.out, hr.setCell hgc _⟩
          case measure => simp [intOf]; omega
        · go_wp2_with ((with_reducible refine at_slot (some 45) ?_); refine wpl_add64 rfl (.tmp 42) (.tmp 43) (.tmp 44) rfl x 0 c rfl rfl rfl hc hxb (by omega) ?_; intro s d hs hsb hd)
          go_roundw
          case rel => exact ⟨i + 1, d, _, by omega, hd, by go_num, rfl, by show _ = _; rw [List.length_set]; exact hll.out, Wf_set hwl i (by rw [WB_def]; omega), by rw [← map_W64_set]; exact hb.set i _,
            add_step (by rw [hll.out]; omega) (by rw [hlx.out]; omega) (by rw [hly.out]; omega) hv.out hxk.out (by rw [if_neg hik]) hs.out, hr.setCell hgc _⟩
          case measure => simp [intOf]; omega
      · obtain rfl : i = m := by omega
        obtain ⟨o, ho, _, hco⟩ := hb.word hwl (i := i) (by rw [hll.out]; omega)
        have hfr := hb.frozen i
        have hb2 := hb.set i (.int .u64 (c : Int))
        rw [map_W64_set] at hb2
        have hll2 : Hid ((l.set i c).length = i + 1) := by show _ = _; rw [List.length_set]; exact hll.out
        have hwl2 : Wf (l.set i c) := Wf_set hwl i (by rw [WB_def]; omega)
        have hr2 : Rd (wr.setCell ⟨g, i, none⟩ (.int .u64 (c : Int))) (some ⟨g, 0, none⟩) (i + 1) (i + 1) (l.set i c) := by
          have := hb2.rd hwl2 (o := 0) (n := i + 1) (cap := i + 1) (Nat.le_refl _) (by rw [hll2.out]; omega) (by rw [len_maxLen]; omega)
          rwa [List.drop_zero, List.take_of_length_le (by rw [hll2.out]; omega)] at this
        have hval : Hid (nv (l.set i c) = nv xs + nv ys) := by
          show _ = _
          have e1 : (l.set i c).getD i 0 = c := by
            have := hll.out
            simp [List.getD_eq_getElem?_getD, this]
          have e2 : (l.set i c).take i = l.take i := by rw [List.take_set_of_le (Nat.le_refl i)]
          have e3 := nv_take_snoc (l.set i c) i (by rw [hll2.out]; omega)
          rw [e1, e2, List.take_of_length_le (by rw [hll2.out]; omega), hv.out, Nat.min_eq_right hkm] at e3
          rw [e3, nv_take_len hx.wf hm.out, nv_take_len hy.wf hk.out]
        go_wp2_with fail
        refine (nat_size hr2 (by omega)).mono ?_
        rintro e w' ⟨q, hq, hqn, rfl, rfl⟩
        go_wp2_with fail
        go_ret
        rw [← hS.out, ← hval.out]
        exact RetW_mk (ys := l.set i c) hgs hb2 hll2.out hqn (by rw [len_maxLen]; omega) (wd_take_len hwl2 hq.out).symm ((hext.trans hr).setCell hgs _)

end Go.Proofs.Ytmaconeeonkdgaa
