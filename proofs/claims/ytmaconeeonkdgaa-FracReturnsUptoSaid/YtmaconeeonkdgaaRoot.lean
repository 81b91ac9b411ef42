/- divnat.root, Sqrt, Root -/
import Derived.Test.YtmaconeeonkdgaaPower
import Derived.Test.YtmaconeeonkdgaaGcd
namespace Go.Proofs.Ytmaconeeonkdgaa
open Go.RowKit

theorem i64_quo' {a b : Int} {x y : Nat} (ha : a = (x : Int)) (hb : b = (y : Int)) (hy : y ≠ 0) (hx : x ≤ 9223372036854775807) (P : Program) (t : TypeId) (w : World) : (binOp .quo t (.int .i64 a) (.int .i64 b)).run P w = .ok (.int .i64 ((x / y : Nat) : Int)) w := by
  subst ha; subst hb
  exact i64_quo hy hx P t w
theorem u64_shl_i {x s : Nat} (hs : s ≤ 64) (P : Program) (t : TypeId) (w : World) : (binOp .shl t (.int .u64 (x : Int)) (.int .i64 (s : Int))).run P w = .ok (.int .u64 ((x * 2 ^ s % 18446744073709551616 : Nat) : Int)) w := by
  have e : ((x : Int) * 2 ^ min (s : Int).toNat IntKind.u64.bits) = ((x * 2 ^ s : Nat) : Int) := by
    rw [Int.toNat_natCast, show min s IntKind.u64.bits = s from Nat.min_eq_left hs]; simp
  simp only [binOp]
  rw [shift_shl_any _ _ _ _ (by omega), e, wrap_u64_nat]; rfl
theorem len_two_pow {m L : Nat} (h : m < 64 * L) {x : Nat} (hx : x ≤ 2 ^ m) : (wd x).length ≤ L := by
  refine len_wd_le ?_
  rw [WB_pow, ← Nat.pow_mul]
  exact Nat.lt_of_le_of_lt hx (Nat.pow_lt_pow_right (by omega) h)

/-- r is X's root to the power k, rounded down -/
def IsRoot (X k r : Nat) : Prop := r ^ k ≤ X ∧ X < (r + 1) ^ k
theorem IsRoot.le {X k r s : Nat} (h : IsRoot X k r) (hs : X < (s + 1) ^ k) : r ≤ s := by
  refine Nat.le_of_not_lt (fun hlt => ?_)
  have h1 := Nat.pow_le_pow_left (Nat.succ_le_of_lt hlt) k
  have := h.1
  rw [Nat.succ_eq_add_one] at h1
  omega
theorem IsRoot.uniq {X k r s : Nat} (h : IsRoot X k r) (g : IsRoot X k s) : r = s := Nat.le_antisymm (h.le g.2) (g.le h.2)
def RootP (w : World) (X k : Nat) (e : Ending) (w' : World) : Prop := ∃ r, Hid (IsRoot X k r) ∧ RetW w r e w'

theorem root_start {X T k : Nat} (hk : 1 ≤ k) (hT : T = (blen X + k - 1) / k) : X < (2 ^ T + 1) ^ k := by
  have h1 := lt_blen X
  have h3 : blen X ≤ T * k := by
    have h2 := Nat.lt_mul_div_succ (blen X + k - 1) (show 0 < k by omega)
    rw [← hT, Nat.mul_add, Nat.mul_one, Nat.mul_comm k] at h2
    omega
  refine Nat.lt_of_lt_of_le h1 (Nat.le_trans (Nat.pow_le_pow_right (by omega) h3) ?_)
  rw [Nat.pow_mul]
  exact Nat.pow_le_pow_left (by omega) k
theorem divnat_root_zero {w : World} {A : Option Addr} {n cap : Nat} {xs : List Nat} (hx : Rd w A n cap xs) (hl : n ≤ 1099511627775) (h0 : nv xs = 0) {k : Int} :
    Calls Try.prog 87 #[.slice A n cap, .int .i64 k] w (RetW w 0) := by
  go_enter Try.func87, Try.ntmps87
  go_wp2_with fail
  refine (nat_BitLen hx hl).mono ?_
  rintro e w1 ⟨b, hb, rfl, hx1⟩
  obtain rfl : b = 0 := by rw [hb.out, h0]; rfl
  go_wp2_with fail
  go_ret
  exact RetW_nil rfl hx1
theorem set_pow {q s : Nat} : nv ((List.replicate (q + 1) 0).set q (2 ^ s)) = 2 ^ (64 * q + s) := by
  have h := nv_set (l := List.replicate (q + 1) 0) (k := q) (by rw [List.length_replicate]; omega) (2 ^ s)
  have e : (List.replicate (q + 1) 0).getD q 0 = 0 := by
    simp [List.getD_eq_getElem?_getD]
  rw [nv_zeros, e, Nat.mul_zero, Nat.add_zero, Nat.zero_add] at h
  rw [h, WB_pow, ← Nat.pow_mul, ← Nat.pow_add]
set_option maxHeartbeats 8000000 in
theorem divnat_root {w : World} {A : Option Addr} {n cap : Nat} {xs : List Nat} (hx : Rd w A n cap xs) (hl : n ≤ 67108864) (h0 : nv xs ≠ 0) {m K : Nat} (hm : 1 ≤ m) (hm2 : m ≤ blen (nv xs)) (hK1 : m + 1 ≤ K) (hK2 : K ≤ m + 1) :
    Calls Try.prog 87 #[.slice A n cap, .int .i64 (K : Int)] w (RootP w (nv xs) K) := by
  have hbl : blen (nv xs) ≤ 64 * n := blen_le (by rw [Nat.pow_mul, ← WB_pow, ← hx.len]; exact nv_lt hx.wf)
  have H0 := Lib.hid h0
  have HK : Hid (K = m + 1) := Nat.le_antisymm hK2 hK1
  clear h0
  go_enter Try.func87, Try.ntmps87
  go_wp2_with fail
  refine (nat_BitLen hx (by omega)).mono ?_
  rintro e w1 ⟨b, hb, rfl, hx1⟩
  have hb1 : b ≤ 64 * n := by rw [hb.out]; exact hbl
  have hb2 : m ≤ b := by rw [hb.out]; exact hm2
  have bz : ((b : Int) == 0) = false := by simp; omega
  clear hbl hm2
  obtain ⟨t, ht⟩ : ∃ t, (b + m) / K = t := ⟨_, rfl⟩
  have htb : t ≤ b := by
    rw [← ht, HK.out]
    refine Nat.le_of_lt_succ ((Nat.div_lt_iff_lt_mul (by omega)).2 ?_)
    have h3 : (b + 1) * (m + 1) = b * m + b + m + 1 := by rw [Nat.add_mul, Nat.mul_add]; omega
    rw [Nat.succ_eq_add_one, h3]
    generalize b * m = z
    omega
  obtain ⟨q, hq⟩ : ∃ q, t / 64 = q := ⟨_, rfl⟩
  obtain ⟨s, hs⟩ : ∃ s, t % 64 = s := ⟨_, rfl⟩
  have hqb : q ≤ n := by omega
  have hqt : t = 64 * q + s := by omega
  have hs64 : s < 64 := by omega
  have Q24 : ∀ (P : Program) (t' : TypeId) (w : World), (binOp .quo t' (.int .i64 ((b : Int) + (K : Int) - 1)) (.int .i64 (K : Int))).run P w = .ok (.int .i64 ((t : Nat) : Int)) w := by
    rw [← ht]
    exact i64_quo' (a := (b : Int) + (K : Int) - 1) (b := (K : Int)) (x := b + m) (y := K) (by omega) rfl (by omega) (by omega)
  have Q25 : ∀ (P : Program) (t' : TypeId) (w : World), (binOp .quo t' (.int .i64 (t : Int)) (.int .i64 64)).run P w = .ok (.int .i64 ((q : Nat) : Int)) w := by
    rw [← hq]
    exact i64_quo (x := t) (y := 64) (by omega) (by omega)
  have Q38 : ∀ (P : Program) (t' : TypeId) (w : World), (binOp .rem t' (.int .i64 (t : Int)) (.int .i64 64)).run P w = .ok (.int .i64 ((s : Nat) : Int)) w := by
    rw [← hs]
    exact i64_rem (x := t) (y := 64) (by omega) (by omega)
  have hp : 2 ^ s ≤ 2 ^ 63 := Nat.pow_le_pow_right (by omega) (by omega)
  obtain ⟨z, hz⟩ : ∃ z, 2 ^ s = z := ⟨_, rfl⟩
  have hzb : z ≤ 18446744073709551615 := by omega
  have Q39 : ∀ (P : Program) (t' : TypeId) (w : World), (binOp .shl t' (.int .u64 1) (.int .i64 (s : Int))).run P w = .ok (.int .u64 ((z : Nat) : Int)) w := by
    have := u64_shl_i (x := 1) (s := s) (by omega)
    rw [Nat.one_mul, Nat.mod_eq_of_lt (by omega), hz] at this
    exact this
  have HT : Hid (t = (blen (nv xs) + K - 1) / K) := by
    show _ = _
    rw [← ht, ← hb.out]; congr 1
    omega
  have HTK : Hid (t * m ≤ 2 * b) := by
    have h1 := Nat.div_mul_le_self (b + m) K
    rw [ht, HK.out, Nat.mul_succ] at h1
    show _ ≤ _
    omega
  have HZ := Lib.hid hz
  have HQT := Lib.hid hqt
  have hmk := run_make1 (P := Try.prog) Try.underlying25 info64 rfl (by decide) ((q : Int) + 1) (by omega) (by omega)
  have et : ((q : Int) + 1).toNat = q + 1 := by omega
  rw [et] at hmk
  clear et ht hq hs hp hz hqt
  go_upto_region 6 with (first
    | ((with_reducible refine at_slot (some 24) ?_); refine wpl_i64 rfl rfl rfl rfl rfl Q24 ?_; intro r hr; obtain rfl : t = r := hr.out.symm; clear hr)
    | ((with_reducible refine at_slot (some 25) ?_); refine wpl_i64 rfl rfl rfl rfl rfl Q25 ?_; intro r hr; obtain rfl : q = r := hr.out.symm; clear hr)
    | ((with_reducible refine at_slot (some 33) ?_); refine wpl_i64 rfl rfl rfl rfl rfl Q24 ?_; intro r hr; obtain rfl : t = r := hr.out.symm; clear hr))
  clear hmk
  obtain ⟨g, hg⟩ : ∃ g, w1.heap.size = g := ⟨_, rfl⟩
  rw [hg]
  obtain ⟨wa, hwa⟩ : ∃ wa, w1.alloc (.cells (zc (.int .u64 0) (q + 1)) 47) = wa := ⟨_, rfl⟩
  rw [hwa]
  have hbk : Bk wa g 47 ((List.replicate (q + 1) 0).map W64) := by
    rw [← hwa, ← hg, ← replicate_W64]; exact Bk.new' _ _ _
  have hea : Ext w wa := by rw [← hwa]; exact hx1.alloc _
  have hgs : w.heap.size ≤ g := by rw [← hg]; exact hx1.size
  clear hg hwa
  obtain ⟨o, ho, _, hco⟩ := hbk.word (Wf_zeros _) (i := q) (by rw [List.length_replicate]; omega)
  have hfr := hbk.frozen q
  go_upto_region 7 with (first
    | ((with_reducible refine at_slot (some 36) ?_); refine wpl_i64 rfl rfl rfl rfl rfl Q25 ?_; intro r hr; obtain rfl : q = r := hr.out.symm; clear hr)
    | ((with_reducible refine at_slot (some 38) ?_); refine wpl_i64 rfl rfl rfl rfl rfl Q38 ?_; intro r hr; obtain rfl : s = r := hr.out.symm; clear hr)
    | ((with_reducible refine at_slot (some 39) ?_); refine wpl_u64 rfl rfl rfl rfl rfl Q39 (by omega) ?_; intro r hr hrb; obtain rfl : z = r := hr.out.symm; clear hr hrb))
  have hRd : Rd (wa.setCell ⟨g, q, none⟩ (.int .u64 (z : Int))) (some ⟨g, 0, none⟩) (q + 1) (q + 1) ((List.replicate (q + 1) 0).set q z) := by
    have hB : Bk (wa.setCell ⟨g, q, none⟩ (.int .u64 (z : Int))) g 47 (((List.replicate (q + 1) 0).set q z).map W64) := by
      rw [← map_W64_set]; exact hbk.set _ _
    have := hB.rd (Wf_set (Wf_zeros _) q (by rw [WB_def]; omega)) (o := 0) (n := q + 1) (cap := q + 1) (Nat.le_refl _) (by rw [List.length_set, List.length_replicate]; omega) (by rw [len_maxLen]; omega)
    rw [List.drop_zero, List.take_of_length_le (by rw [List.length_set, List.length_replicate]; omega)] at this
    exact this
  have hN0 : Hid (nv ((List.replicate (q + 1) 0).set q z) = 2 ^ t) := by
    show _ = _
    rw [← HZ.out, set_pow, ← HQT.out]
  have ek := Lib.hid (show (K : Int) - 1 = (m : Int) by omega)
  have hXn : Hid ((wd (nv xs)).length ≤ n) := by
    have := len_wd_nv hx.wf
    rw [hx.len] at this
    exact this
  have hPL : ∀ S, S ≤ 2 ^ t → (wd (S ^ m)).length ≤ 2 * n + 1 := by
    intro S hS
    refine len_two_pow (m := 2 * b) (by omega) ?_
    refine Nat.le_trans (Nat.pow_le_pow_left hS m) ?_
    rw [← Nat.pow_mul]
    exact Nat.pow_le_pow_right (by omega) HTK.out
  have HPL := Lib.hid hPL
  have hWm : Hid ((wd m).length ≤ 1) := len_wd_le (by rw [WB_def, Nat.pow_one]; omega)
  have hSL : ∀ S, S ≤ 2 ^ t → (wd S).length ≤ q + 1 := by
    intro S hS
    exact len_two_pow (m := t) (by rw [HQT.out]; omega) hS
  have HSL := Lib.hid hSL
  clear hPL hSL hbk hco hfr ho
  go_loopw [6] (fun u wr => ∃ (A' : Option Addr) (n' c' S : Nat) (l : List Nat), u = .slice A' n' c' ∧ n' ≤ q + 1 ∧ Rd wr A' n' c' l ∧ Hid (nv l = S) ∧ Hid (0 < S) ∧ Hid (nv xs < (S + 1) ^ K) ∧ Hid (S ≤ 2 ^ t) ∧ Ext w wr) (fun u wr => numAt wr u)
  case atStart => exact ⟨_, q + 1, q + 1, 2 ^ t, _, rfl, Nat.le_refl _, hRd, hN0, Nat.two_pow_pos t, root_start (by omega) HT.out, Nat.le_refl _, hea.setCell hgs _⟩
  case round =>
    obtain ⟨A2, n2, c2, S, l, rfl, hn2, hrd, hS, hS0, hup, hST, hr⟩ := hrel
    clear hRd hN0 hea hgs hx1
    have hP0 : Hid (S ^ m ≠ 0) := Nat.ne_of_gt (Nat.pow_pos hS0.out)
    go_wp2_with fail
    rw [ek.out]
    refine (divnat_power hrd (by omega) (k := m) (by omega) (by rw [hS.out]; exact Nat.le_trans (HPL.out S hST.out) (by omega))).mono ?_
    rintro e w3 ⟨A3, n3, c3, rfl, hn3, hr3, ho3, hx3⟩
    rw [hS.out] at hn3 hr3
    have hn3b : n3 ≤ 2 * n + 1 := by rw [hn3.out]; exact HPL.out S hST.out
    go_wp2_with fail
    refine (divnat_DivMod (hx.ext (hr.trans hx3)) (by omega) hr3 (by omega) (by rw [nv_wd]; exact hP0.out)).mono ?_
    rintro e w4 ⟨Aq, nq, cq, Ar, nr, cr, rfl, hnq, hrq, hoq, hnr, hrr, hor, hx4⟩
    rw [nv_wd] at hnq hrq
    have hnqb : nq ≤ n := by rw [hnq.out]; exact Nat.le_trans (len_wd_mono (Nat.div_le_self _ _)) hXn.out
    clear ho3 hoq hnr hrr hor
    go_wp2_with fail
    rw [ek.out]
    refine (mulnat_Word (hrd.ext (hx3.trans hx4)) (by omega) (x := m) (by omega)).mono ?_
    rintro e w5 ⟨A5, n5, c5, rfl, hn5, hr5, ho5, hx5⟩
    rw [hS.out] at hn5 hr5
    have hn5b : n5 ≤ q + 2 := by
      have h1 := len_wd_mul S m
      have h2 := HSL.out S hST.out
      have h3 := hWm.out
      rw [hn5.out]; omega
    go_wp2_with fail
    refine (nat_Add hr5 (by omega) (hrq.ext hx5) (by omega)).mono ?_
    rintro e w6 ⟨A6, n6, c6, rfl, hn6, hr6, ho6, hx6⟩
    rw [nv_wd, nv_wd] at hn6 hr6
    have hn6b : n6 ≤ q + n + 3 := by
      have h1 := len_wd_add (S * m) (nv xs / S ^ m)
      rw [← hn5.out, ← hnq.out, ← hn6.out] at h1
      omega
    clear ho5 ho6
    go_wp2_with fail
    refine (divnat_Word hr6 (by omega) (v := K) (by omega) (by omega)).mono ?_
    rintro e w7 ⟨A7, n7, c7, r7, rfl, hr7k, hr7b, hn7, hr7, ho7, hx7⟩
    rw [nv_wd] at hn7 hr7
    have hx37 : Ext wr w7 := hx3.trans (hx4.trans (hx5.trans (hx6.trans hx7)))
    have hn7b : n7 ≤ q + n + 3 := by
      rw [hn7.out]; exact Nat.le_trans (len_wd_mono (Nat.div_le_self _ _)) (by rw [← hn6.out]; exact hn6b)
    obtain ⟨N, hN⟩ : ∃ N, (S * m + nv xs / S ^ m) / K = N := ⟨_, rfl⟩
    rw [hN] at hn7 hr7
    have HN := Lib.hid hN
    clear hr7k ho7 hN
    go_wp2_with fail
    refine (nat_Cmp hr7 (by omega) (hrd.ext hx37) (by omega)).mono ?_
    rintro e w8 ⟨c, hc, hcl, hch, rfl, hx8⟩
    rw [nv_wd, hS.out] at hc
    by_cases hlt : c < 0
    · have hNS : N < S := by rw [hc.out] at hlt; exact cmp3_neg.1 hlt
      have HNS := Lib.hid hNS
      clear hNS
      have hab : Hid (nv xs < (N + 1) ^ K) := by
        have h1 := newton_above (X := nv xs) (s := S) (q := nv xs / S ^ m) (m := m) (by
          have := Nat.lt_mul_div_succ (nv xs) (Nat.pos_of_ne_zero hP0.out)
          rw [Nat.mul_comm] at this
          exact this)
        rw [← HK.out, HN.out] at h1
        exact h1
      go_wp2_with fail
      go_roundw
      case rel =>
        refine ⟨A7, n7, c7, N, wd N, rfl, ?_, hr7.ext hx8, nv_wd N, ?_, hab, Nat.le_trans (Nat.le_of_lt HNS.out) hST.out, hr.trans (hx37.trans hx8)⟩
        · rw [hn7.out]; exact HSL.out N (Nat.le_trans (Nat.le_of_lt HNS.out) hST.out)
        · refine Nat.pos_of_ne_zero (fun e => ?_)
          have := hab.out
          rw [e, Nat.zero_add, Nat.one_pow] at this
          exact H0.out (by omega)
      case measure =>
        rw [(hr7.ext hx8).numAt, hrd.numAt, nv_wd, hS.out]
        exact HNS.out
    · have hge : 0 ≤ c := by omega
      have hNS : Hid (S ≤ N) := by
        rw [hc.out] at hlt
        exact Nat.le_of_not_lt (fun h => hlt (cmp3_neg.2 h))
      go_wp2_with fail
      refine (nat_Least (hrd.ext (hx37.trans hx8)) (by omega)).mono ?_
      rintro e w9 ⟨A9, n9, c9, rfl, hn9, hr9, ho9, hx9⟩
      rw [hS.out] at hn9 hr9 ho9
      go_wp2_with fail
      go_ret
      have hx08 := hr.trans (hx37.trans hx8)
      refine ⟨S, ⟨?_, hup.out⟩, A9, n9, c9, rfl, hn9, hr9, ho9.mono hx08.size, hx08.trans hx9⟩
      rw [HK.out]
      refine newton_stop hS0.out rfl ?_
      rw [← HK.out, HN.out]
      exact hNS.out

theorem blen_pos {X : Nat} (h : X ≠ 0) : 1 ≤ blen X := Nat.pos_of_ne_zero (fun e => h (blen_eq_zero.1 e))
theorem IsRoot.zero {k : Nat} (hk : 1 ≤ k) : IsRoot 0 k 0 := ⟨by rw [Nat.zero_pow (by omega)]; exact Nat.le_refl _, by rw [Nat.zero_add, Nat.one_pow]; omega⟩
theorem IsRoot.one {X : Nat} : IsRoot X 1 X := ⟨by rw [Nat.pow_one]; exact Nat.le_refl _, by rw [Nat.pow_one]; omega⟩
theorem IsRoot.le_self {X k r : Nat} (hk : 1 ≤ k) (h : IsRoot X k r) : r ≤ X := by
  refine Nat.le_trans ?_ h.1
  rcases Nat.eq_zero_or_pos r with e | e
  · omega
  · have := Nat.pow_le_pow_right e hk
    rw [Nat.pow_one] at this
    exact this
/-- the square root, and what is left -/
def SqrtP (w : World) (X : Nat) (e : Ending) (w' : World) : Prop := ∃ r, Hid (IsRoot X 2 r) ∧ RetQR w r (X - r * r) e w'
theorem divnat_Sqrt {w : World} {A : Option Addr} {n cap : Nat} {xs : List Nat} (hx : Rd w A n cap xs) (hl : n ≤ 67108864) :
    Calls Try.prog 67 #[.slice A n cap] w (SqrtP w (nv xs)) := by
  have hXn : Hid ((wd (nv xs)).length ≤ n) := by
    have := len_wd_nv hx.wf
    rw [hx.len] at this
    exact this
  go_enter Try.func67, Try.ntmps67
  go_wp2_with fail
  refine (nat_Least hx (by omega)).mono ?_
  rintro e w1 ⟨A1, n1, c1, rfl, hn1, hr1, ho1, hx1⟩
  have hn1b : n1 ≤ n := by rw [hn1.out]; exact hXn.out
  go_wp2_with fail
  have hroot : Calls Try.prog 87 #[.slice A1 n1 c1, .int .i64 2] w1 (RootP w1 (nv xs) 2) := by
    by_cases h0 : nv xs = 0
    · refine (divnat_root_zero hr1 (by omega) (by rw [nv_wd]; exact h0)).mono ?_
      intro e w2 h
      exact ⟨0, (show IsRoot _ _ _ by rw [h0]; exact IsRoot.zero (by omega)), h⟩
    · have := divnat_root hr1 (by omega) (by rw [nv_wd]; exact h0) (m := 1) (K := 2) (Nat.le_refl _) (by rw [nv_wd]; exact blen_pos h0) (by omega) (by omega)
      rw [nv_wd] at this
      exact this
  refine hroot.mono ?_
  rintro e w2 ⟨r, hir, A2, n2, c2, rfl, hn2, hr2, ho2, hx2⟩
  have hrr : Hid (r * r ≤ nv xs) := by
    have := hir.out.1
    rw [Nat.pow_two] at this
    exact this
  have hn2b : n2 ≤ n := by rw [hn2.out]; exact Nat.le_trans (len_wd_mono (hir.out.le_self (by omega))) hXn.out
  clear hroot
  go_wp2_with fail
  refine (mulnat_Square hr2 (by omega)).mono ?_
  rintro e w3 ⟨A3, n3, c3, rfl, hn3, hr3, ho3, hx3⟩
  rw [nv_wd] at hn3 hr3
  have hn3b : n3 ≤ n := by rw [hn3.out]; exact Nat.le_trans (len_wd_mono hrr.out) hXn.out
  go_wp2_with fail
  refine (nat_Sub (hx.ext (hx1.trans (hx2.trans hx3))) (by omega) hr3 (by omega) (by rw [nv_wd]; exact hrr.out)).mono ?_
  rintro e w4 ⟨A4, n4, c4, rfl, hn4, hr4, ho4, hx4⟩
  rw [nv_wd] at hn4 hr4 ho4
  go_wp2_with fail
  go_ret2
  have hx34 := hx3.trans hx4
  exact ⟨r, hir, A2, n2, c2, A4, n4, c4, rfl, hn2, hr2.ext hx34, (ho2.ext hx34).mono hx1.size, hn4, hr4, ho4.mono (hx1.trans (hx2.trans hx3)).size, hx1.trans (hx2.trans hx34)⟩

end Go.Proofs.Ytmaconeeonkdgaa
