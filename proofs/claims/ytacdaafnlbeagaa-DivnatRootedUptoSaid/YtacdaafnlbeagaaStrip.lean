/- divnat.Strip -/
import Derived.Test.YtacdaafnlbeagaaPower
import Derived.Test.YtacdaafnlbeagaaGcd
namespace Go.Proofs.Ytacdaafnlbeagaa
open Go.RowKit

theorem i64_shl1 {s : Nat} (hs : s ≤ 62) (P : Program) (t : TypeId) (w : World) : (binOp .shl t (.int .i64 1) (.int .i64 (s : Int))).run P w = .ok (.int .i64 ((2 ^ s : Nat) : Int)) w := by
  have e : ((1 : Int) * 2 ^ min (s : Int).toNat IntKind.i64.bits) = ((2 ^ s : Nat) : Int) := by
    rw [Int.toNat_natCast, show min s IntKind.i64.bits = s from Nat.min_eq_left (by show s ≤ 64; omega)]; simp
  have hb : 2 ^ s ≤ 2 ^ 62 := Nat.pow_le_pow_right (by omega) hs
  simp only [binOp]
  rw [shift_shl_any _ _ _ _ (by omega), e, wrap_i64_nat (by omega)]; rfl

/-- blocks of two kinds are two -/
theorem Own.apart {w : World} {base base' : Nat} {t t' : TypeId} {s s' : Nat} {A B : Option Addr} {n cap n' cap' : Nat} {vs us : List Value} (h : Own w base t s A n cap vs) (k : Own w base' t' s' B n' cap' us) (hne : t ≠ t') :
    ∀ p q, A = some p → B = some q → p.block ≠ q.block := by
  intro p q hp hq e
  rcases h with h | ⟨g, cs, ha, hb, hk, _⟩
  · rw [h.1] at hp; cases hp
  · rcases k with k | ⟨g', cs', ha', hb', hk', _⟩
    · rw [k.1] at hq; cases hq
    · rw [ha] at hp; rw [ha'] at hq
      cases hp; cases hq
      have e' : g = g' := e
      subst e'
      unfold Bk at hk hk'
      rw [hk] at hk'
      injection hk' with h1
      injection h1 with h2 h3
      exact hne h3

theorem pow_pos' {B N : Nat} (hB : 2 ≤ B) : 0 < B ^ N := Nat.pow_pos (by omega)
theorem strip_step {L B N M X : Nat} (h : L * B ^ N = X) (hd : L % B ^ M = 0) : L / B ^ M * B ^ (N + M) = X := by
  have e : L / B ^ M * B ^ M = L := Nat.div_mul_cancel (Nat.dvd_of_mod_eq_zero hd)
  rw [Nat.pow_add, Nat.mul_comm (B ^ N), ← Nat.mul_assoc, e, h]
theorem strip_still {L B i : Nat} (hB : 2 ≤ B) (h : L % B ^ (2 ^ (i + 1)) ≠ 0) (hd : L % B ^ (2 ^ i) = 0) : (L / B ^ (2 ^ i)) % B ^ (2 ^ i) ≠ 0 := by
  intro h2
  apply h
  have e1 := Nat.div_mul_cancel (Nat.dvd_of_mod_eq_zero hd)
  obtain ⟨c, hc⟩ := Nat.dvd_of_mod_eq_zero h2
  rw [hc] at e1
  have e2 : B ^ (2 ^ (i + 1)) = B ^ (2 ^ i) * B ^ (2 ^ i) := by rw [← Nat.pow_add, Nat.pow_succ]; congr 1; omega
  rw [← e1, e2, show B ^ 2 ^ i * c * B ^ 2 ^ i = (B ^ 2 ^ i * B ^ 2 ^ i) * c by rw [Nat.mul_right_comm], Nat.mul_mod_right]
theorem strip_le {L B N X : Nat} (hX : X ≠ 0) (hB : 2 ≤ B) (h : L * B ^ N = X) : N ≤ blen X := by
  have hL : 0 < L := Nat.pos_of_ne_zero (fun e => hX (by rw [← h, e, Nat.zero_mul]))
  have h1 : 2 ^ N ≤ B ^ N := Nat.pow_le_pow_left hB N
  have h2 : B ^ N ≤ L * B ^ N := Nat.le_mul_of_pos_left _ hL
  have h3 := lt_blen X
  rw [h] at h2
  refine Nat.le_of_lt ((Nat.pow_lt_pow_iff_right (a := 2) (by omega)).1 (by omega))
theorem strip_pos {L B N X : Nat} (hX : X ≠ 0) (h : L * B ^ N = X) : 0 < L := Nat.pos_of_ne_zero (fun e => hX (by rw [← h, e, Nat.zero_mul]))
theorem strip_lt {L B N : Nat} (hL : 0 < L) (hB : 2 ≤ B) : L / B ^ (N + 1) < L := by
  refine Nat.div_lt_self hL ?_
  have := Nat.mul_le_mul (pow_pos' (N := N) hB) hB
  rw [Nat.pow_succ]; omega
theorem strip_uniq {B : Nat} (hB : 2 ≤ B) {L M k j : Nat} (h : L * B ^ k = M * B ^ j) (hL : L % B ≠ 0) (hM : M % B ≠ 0) : k = j ∧ L = M := by
  have main : ∀ {L M k j : Nat}, L * B ^ k = M * B ^ j → L % B ≠ 0 → ¬ k < j := by
    intro L M k j h hL hlt
    obtain ⟨d, rfl⟩ : ∃ d, j = k + (d + 1) := ⟨j - k - 1, by omega⟩
    rw [Nat.pow_add, Nat.mul_comm (B ^ k), ← Nat.mul_assoc] at h
    have e := Nat.eq_of_mul_eq_mul_right (pow_pos' hB) h
    apply hL
    rw [e, Nat.pow_succ, ← Nat.mul_assoc, Nat.mul_mod_left]
  have hkj : k = j := by
    have h1 := main h hL
    have h2 := main h.symm hM
    omega
  subst hkj
  exact ⟨rfl, Nat.eq_of_mul_eq_mul_right (pow_pos' hB) h⟩

/-- how often, and what is left -/
def StripP (w : World) (X B : Nat) (e : Ending) (w' : World) : Prop :=
  ∃ (k L : Nat) (A : Option Addr) (n cap : Nat), e = .returned (.tuple #[.int .i64 (k : Int), .slice A n cap, .int .i64 0]) ∧ Hid (L * B ^ k = X) ∧ Hid (L % B ≠ 0) ∧ Hid (n = (wd L).length) ∧ Rd w' A n cap (wd L) ∧ Own w' w.heap.size 23 1 A n cap ((wd L).map W64) ∧ Ext w w'

theorem infoW : (Try.prog.info? 22).map (fun i => (i.zero, i.size, i.bytes)) = some (some (.slice none 0 0), 1, 24) := by kernel_rfl
theorem divnat_Strip_bad {w : World} {A B : Option Addr} {n cap n' cap' : Nat} {xs ys : List Nat} (hx : Rd w A n cap xs) (hl : n ≤ 268435456) (hy : Rd w B n' cap' ys) (hl' : n' ≤ 268435456) (h0 : nv xs = 0 ∨ nv ys < 2) :
    Calls Try.prog 22 #[.slice A n cap, .slice B n' cap'] w (fun e w' => e = .returned (.tuple #[.int .i64 0, .slice none 0 0, .int .i64 3]) ∧ Ext w w') := by
  have H0 := Lib.hid h0
  clear h0
  go_enter Try.func22, Try.ntmps22
  go_wp2_with fail
  refine (nat_Least hx (by omega)).mono ?_
  rintro e w1 ⟨A1, n1, c1, rfl, hn1, hr1, ho1, hx1⟩
  go_wp2_with fail
  refine (nat_Least (hy.ext hx1) (by omega)).mono ?_
  rintro e w2 ⟨A2, n2, c2, rfl, hn2, hr2, ho2, hx2⟩
  have hn2b : n2 ≤ 268435456 := by rw [hn2.out]; exact Nat.le_trans (by have := len_wd_nv hy.wf; rw [hy.len] at this; exact this) hl'
  by_cases hz : n1 = 0
  · subst hz
    go_wp2_with fail
    go_ret3
    exact ⟨rfl, hx1.trans hx2⟩
  · have bz : ((n1 : Int) == 0) = false := by simp; omega
    have hlt : Hid (nv ys < 2) := by
      rcases H0.out with h | h
      · exact absurd (by rw [hn1.out, h]; rfl) hz
      · exact h
    go_wp2_with fail
    obtain ⟨wa, hwa⟩ : ∃ wa, w2.alloc (.cells #[.int .u64 2] 23) = wa := ⟨_, rfl⟩
    rw [hwa]
    have hea : Ext w2 wa := by rw [← hwa]; exact (Ext.refl w2).alloc _
    have h2 : Rd wa (some ⟨w2.heap.size, 0, none⟩) 1 1 [2] := by rw [← hwa]; exact Rd.one w2 (x := 2) (by omega)
    clear hwa
    refine (nat_Cmp (hr2.ext hea) (by omega) h2 (by omega)).mono ?_
    rintro e w3 ⟨c, hc, hcl, hch, rfl, hx3⟩
    rw [nv_wd, nv_one] at hc
    have hneg : c < 0 := by rw [hc.out]; exact cmp3_neg.2 hlt.out
    go_wp2_with fail
    go_ret3
    exact ⟨rfl, hx1.trans (hx2.trans (hea.trans hx3))⟩
set_option maxHeartbeats 8000000 in
theorem divnat_Strip {w : World} {A B : Option Addr} {n cap n' cap' : Nat} {xs ys : List Nat} (hx : Rd w A n cap xs) (hl : n ≤ 268435456) (hy : Rd w B n' cap' ys) (hl' : n' ≤ 268435456) (h0 : nv xs ≠ 0) (hB : 2 ≤ nv ys) :
    Calls Try.prog 22 #[.slice A n cap, .slice B n' cap'] w (StripP w (nv xs) (nv ys)) := by
  have H0 := Lib.hid h0
  have HB := Lib.hid hB
  have HLX : Hid ((wd (nv xs)).length ≤ 268435456) := Nat.le_trans (by have := len_wd_nv hx.wf; rw [hx.len] at this; exact this) hl
  have HLY : Hid ((wd (nv ys)).length ≤ 268435456) := Nat.le_trans (by have := len_wd_nv hy.wf; rw [hy.len] at this; exact this) hl'
  have HBL : Hid (blen (nv xs) ≤ 17179869184) := by
    have := blen_le (n := nv xs) (k := 64 * n) (by rw [Nat.pow_mul, ← WB_pow, ← hx.len]; exact nv_lt hx.wf)
    show _ ≤ _
    omega
  clear h0 hB
  obtain ⟨X, hX⟩ : ∃ X, nv xs = X := ⟨_, rfl⟩
  obtain ⟨Y, hY⟩ : ∃ Y, nv ys = Y := ⟨_, rfl⟩
  rw [hX] at H0 HLX HBL ⊢
  rw [hY] at HB HLY ⊢
  have HX := Lib.hid hX
  have HY := Lib.hid hY
  clear hX hY
  go_enter Try.func22, Try.ntmps22
  go_wp2_with fail
  refine (nat_Least hx (by omega)).mono ?_
  rintro e w1 ⟨A1, n1, c1, rfl, hn1, hr1, ho1, hx1⟩
  rw [HX.out] at hn1 hr1 ho1
  have hn1b : n1 ≤ 268435456 := by rw [hn1.out]; exact HLX.out
  have hn10 : 0 < n1 := by rw [hn1.out]; exact Nat.pos_of_ne_zero (fun e => H0.out (len_wd_zero.1 e))
  have bz : ((n1 : Int) == 0) = false := by simp; omega
  go_wp2_with fail
  refine (nat_Least (hy.ext hx1) (by omega)).mono ?_
  rintro e w2 ⟨A2, n2, c2, rfl, hn2, hr2, ho2, hx2⟩
  rw [HY.out] at hn2 hr2 ho2
  have hn2b : n2 ≤ 268435456 := by rw [hn2.out]; exact HLY.out
  go_wp2_with fail
  obtain ⟨wa, hwa⟩ : ∃ wa, w2.alloc (.cells #[.int .u64 2] 23) = wa := ⟨_, rfl⟩
  rw [hwa]
  have hea : Ext w2 wa := by rw [← hwa]; exact (Ext.refl w2).alloc _
  have h2 : Rd wa (some ⟨w2.heap.size, 0, none⟩) 1 1 [2] := by rw [← hwa]; exact Rd.one w2 (x := 2) (by omega)
  clear hwa
  refine (nat_Cmp (hr2.ext hea) (by omega) h2 (by omega)).mono ?_
  rintro e w3 ⟨c, hc, hcl, hch, rfl, hx3⟩
  rw [nv_wd, nv_one] at hc
  have hneg : ¬ c < 0 := by
    intro h
    rw [hc.out] at h
    have := cmp3_neg.1 h
    have := HB.out
    omega
  have hneg2 : 0 ≤ c := by omega
  have hx13 : Ext w1 w3 := hx2.trans (hea.trans hx3)
  have hx23 : Ext w2 w3 := hea.trans hx3
  go_upto_region 6 with (fail)
  go_loopw [7, 8, 9, 10] (fun l p pw nn wr => ∃ (A P V : Option Addr) (n cap m cap' c'' j L N : Nat) (vs : List Value), l = .slice A n cap ∧ p = .slice P m cap' ∧ pw = .slice V j c'' ∧ nn = .int .i64 (N : Int) ∧ n ≤ 268435456 ∧ m ≤ 536870912 ∧ j ≤ 40 ∧ N ≤ 17179869184 ∧
    Hid (L * Y ^ N = X) ∧ Hid (N + 1 = 2 ^ j) ∧ Hid (n = (wd L).length) ∧ Rd wr A n cap (wd L) ∧ Own wr w.heap.size 23 1 A n cap ((wd L).map W64) ∧
    Hid (m = (wd (Y ^ (N + 1))).length) ∧ Rd wr P m cap' (wd (Y ^ (N + 1))) ∧ Own wr w.heap.size 23 1 P m cap' ((wd (Y ^ (N + 1))).map W64) ∧
    Own wr w.heap.size 22 1 V j c'' vs ∧ Hid (∀ i, i < j → ∃ (P : Option Addr) (m c : Nat), vs.getD i undef = .slice P m c ∧ m ≤ 536870912 ∧ Own wr w.heap.size 23 1 P m c ((wd (Y ^ (2 ^ i))).map W64)) ∧ Ext w wr) (fun l p pw nn wr => numAt wr l)
  case atStart =>
    have e1 : Y ^ (0 + 1) = Y := by rw [Nat.zero_add, Nat.pow_one]
    refine ⟨A1, A2, none, n1, c1, n2, c2, 0, 0, X, 0, [], rfl, rfl, rfl, rfl, hn1b, by omega, by omega, by omega, (show _ = _ by rw [Nat.pow_zero, Nat.mul_one]), (show _ = _ by rw [Nat.pow_zero]), hn1, hr1.ext hx13, ho1.ext hx13, ?_, ?_, ?_, Own.nil _ _ _ _, (fun i hi => by omega), hx1.trans hx13⟩
    · show _ = _; rw [e1]; exact hn2.out
    · rw [e1]; exact hr2.ext hx23
    · rw [e1]; exact (ho2.ext hx23).mono hx1.size
  case round =>
    obtain ⟨A, P, V, n, cap, m, cap', c'', j, L, N, vs, rfl, rfl, rfl, rfl, hnb, hmb, hjb, hNb, hL, hN, hn, hra, hoa, hm, hrp, hop, hov, hvs, hr⟩ := hrel
    clear hr1 hr2 ho1 ho2 hx hy hn1 hn2 hx13 hx23 hx1 hx2 hx3 hea h2 hc hcl hch hneg hneg2 hn1b hn2b hn10 bz
    have hP0 : Y ^ (N + 1) ≠ 0 := Nat.ne_of_gt (pow_pos' HB.out)
    have HP0 := Lib.hid hP0
    clear hP0
    by_cases hd : L % Y ^ (N + 1) = 0
    · have HD := Lib.hid hd
      clear hd
      have hLpos : Hid (0 < L) := strip_pos H0.out hL.out
      have hPL : Hid (Y ^ (N + 1) ≤ X) := by
        have h1 := Nat.le_of_dvd hLpos.out (Nat.dvd_of_mod_eq_zero HD.out)
        have h2 : L ≤ L * Y ^ N := Nat.le_mul_of_pos_right _ (pow_pos' HB.out)
        rw [hL.out] at h2
        exact Nat.le_trans h1 h2
      have hstep : Hid (L / Y ^ (N + 1) * Y ^ (N + (N + 1)) = X) := strip_step hL.out HD.out
      have hmb2 : m ≤ 268435456 := by rw [hm.out]; exact Nat.le_trans (len_wd_mono hPL.out) HLX.out
      have hN2 : N + (N + 1) ≤ 17179869184 := Nat.le_trans (strip_le H0.out HB.out hstep.out) HBL.out
      have hj2 : j + 1 ≤ 40 := by
        have h1 : 2 ^ j < 2 ^ 39 := by rw [← hN.out]; omega
        have := (Nat.pow_lt_pow_iff_right (a := 2) (by omega)).1 h1
        omega
      go_wp2_with fail
      refine (divnat_Exact hra (by omega) hrp (by omega) (by rw [nv_wd]; exact HP0.out) (by rw [nv_wd, nv_wd]; exact HD.out)).mono ?_
      rintro e w4 ⟨A4, n4, c4, rfl, hn4, hr4, ho4, hx4⟩
      rw [nv_wd, nv_wd] at hn4 hr4 ho4
      have hn4b : n4 ≤ 268435456 := by
        rw [hn4.out]
        exact Nat.le_trans (len_wd_mono (Nat.div_le_self _ _)) (by rw [← hn.out]; exact hnb)
      have r1 : (j + 1) * 24 ≤ 140737488355328 := by omega
      have hHr := hr.size
      have hH4 := hx4.size
      go_wp2_with (first
        | ((with_reducible refine at_slot (some 41) ?_); refine wpl_i64 rfl rfl rfl rfl rfl (i64_shl1 (s := j) (by omega)) ?_; intro q hq; have hqN : q = N + 1 := (by rw [hq.out]; exact hN.out.symm); clear hq; subst hqN)
        | ((with_reducible refine at_slot (some 46) ?_); refine wpc_append rfl (.tmp 43) (.tmp 45) 62 rfl rfl rfl Try.underlying62 infoW rfl (by decide) ((hov.ext hx4).ext ((Ext.refl _).alloc _)) (Rv.one _ _ _) (by simp [Value.oneCell']) r1 (by rw [len_maxLen]; omega) (by simp; omega) ?_; intro A5 c5 w5 ho5 hu5 _))
      have hg : Ext w4 (w4.alloc (.cells #[.slice P m cap'] 22)) := (Ext.refl _).alloc _
      have hxg : Ext wr (w4.alloc (.cells #[.slice P m cap'] 22)) := hx4.trans hg
      have hap : ∀ (Q : Option Addr) (q c : Nat) (us : List Value), Own (w4.alloc (.cells #[.slice P m cap'] 22)) w.heap.size 23 1 Q q c us → Own w5 w.heap.size 23 1 Q q c us := by
        intro Q q c us h
        exact h.updO hu5 ((hov.ext hxg).apart h (by decide))
      have HAP := Lib.hid hap
      clear hap
      have he5 : Ext w w5 := hu5.ext (hr.trans hxg) (fun p hp => (hov.block p hp).1)
      have hop5 := HAP.out _ _ _ _ (hop.ext hxg)
      have ho45 := HAP.out _ _ _ _ ((ho4.ext hg).mono hr.size)
      refine (mulnat_Square (hop5.rd (Wf_wd _)) (by omega)).mono ?_
      rintro e w6 ⟨A6, n6, c6, rfl, hn6, hr6, ho6, hx6⟩
      have e6 : Y ^ (N + 1) * Y ^ (N + 1) = Y ^ (N + (N + 1) + 1) := by rw [← Nat.pow_add]; congr 1; omega
      rw [nv_wd, e6] at hn6 hr6 ho6
      have hn6b : n6 ≤ 536870912 := by
        have h1 := len_wd_mul (Y ^ (N + 1)) (Y ^ (N + 1))
        rw [e6, ← hn6.out, ← hm.out] at h1
        omega
      clear e6
      go_wp2_with fail
      go_roundw
      case rel =>
        refine ⟨A4, A6, A5, n4, c4, n6, c6, c5, j + 1, L / Y ^ (N + 1), N + (N + 1), vs ++ [.slice P m cap'], rfl, rfl, rfl, val_int (by omega), hn4b, hn6b, hj2, hN2, hstep, ?_, hn4, (ho45.rd (Wf_wd _)).ext hx6, ho45.ext hx6, hn6, hr6, ho6.mono he5.size, ho5.ext hx6, ?_, he5.trans hx6⟩
        · show _ = _
          have := hN.out
          rw [Nat.pow_succ]; omega
        · intro i hi
          have hvl : vs.length = j := by simpa using hov.rv.len
          by_cases hij : i < j
          · obtain ⟨P', m', c', e1, e2, e3⟩ := hvs.out i hij
            refine ⟨P', m', c', ?_, e2, (HAP.out _ _ _ _ (e3.ext hxg)).ext hx6⟩
            rw [← e1]
            simp [List.getD_eq_getElem?_getD, List.getElem?_append_left (show i < vs.length by omega)]
          · have hij' : i = j := by omega
            refine ⟨P, m, cap', ?_, hmb, ?_⟩
            · rw [hij', ← hvl]; simp [List.getD_eq_getElem?_getD]
            · rw [hij', ← hN.out]; exact hop5.ext hx6
      case measure =>
        rw [((ho45.rd (Wf_wd _)).ext hx6).numAt, hra.numAt, nv_wd, nv_wd]
        exact strip_lt hLpos.out HB.out
    · have HD := Lib.hid hd
      clear hd
      go_wp2_with fail
      refine (divnat_Exact_not hra (by omega) hrp (by omega) (by rw [nv_wd]; exact HP0.out) (by rw [nv_wd, nv_wd]; exact HD.out)).mono ?_
      rintro e w4 ⟨rfl, hx4⟩
      have hx5 : Ext w w4 := hr.trans hx4
      have hov4 := hov.ext hx4
      have hvs4 : Hid (∀ i, i < j → ∃ (P : Option Addr) (m c : Nat), vs.getD i undef = .slice P m c ∧ m ≤ 536870912 ∧ Own w4 w.heap.size 23 1 P m c ((wd (Y ^ (2 ^ i))).map W64)) := by
        intro i hi
        obtain ⟨P', m', c', e1, e2, e3⟩ := hvs.out i hi
        exact ⟨P', m', c', e1, e2, e3.ext hx4⟩
      have hND : Hid (L % Y ^ (2 ^ j) ≠ 0) := (show _ ≠ _ by rw [← hN.out]; exact HD.out)
      have hra4 := hra.ext hx4
      have hoa4 := hoa.ext hx4
      clear hra hoa hov hvs hrp hop hm hN HD HP0 hx4
      go_wp2_with fail
      go_loopw [7, 10, 13] (fun l nn ii ws => ∃ (A : Option Addr) (n cap i L N : Nat), l = .slice A n cap ∧ nn = .int .i64 (N : Int) ∧ ii = .int .i64 ((i : Int) - 1) ∧ i ≤ j ∧ n ≤ 268435456 ∧ N ≤ 17179869184 ∧ Hid (L * Y ^ N = X) ∧ Hid (L % Y ^ (2 ^ i) ≠ 0) ∧ Hid (n = (wd L).length) ∧
        Rd ws A n cap (wd L) ∧ Own ws w.heap.size 23 1 A n cap ((wd L).map W64) ∧ Ext w4 ws) (fun l nn ii ws => (intOf ii + 1).toNat)
      case atStart => exact ⟨A, n, cap, j, L, N, rfl, rfl, rfl, Nat.le_refl _, hnb, hNb, hL, hND, hn, hra4, hoa4, Ext.refl _⟩
      case round =>
        obtain ⟨A, n, cap, i, L, N, rfl, rfl, rfl, hij, hnb, hNb, hL, hND, hn, hra, hoa, hxs⟩ := hrel
        clear hra4 hoa4
        by_cases hi0 : 0 < i
        · obtain ⟨i, rfl⟩ : ∃ k, i = k + 1 := ⟨i - 1, by omega⟩
          have ek : ((i + 1 : Nat) : Int) - 1 = (i : Int) := by omega
          rw [ek]
          obtain ⟨v, hv, hvc⟩ := (hov4.ext hxs).rv.get i (by omega)
          obtain ⟨P', m', c', e1, e2, e3⟩ := hvs4.out i (by omega)
          rw [e1] at hvc
          subst hv
          have h2p : 2 ^ i ≤ 2 ^ 40 := Nat.pow_le_pow_right (by omega) (by omega)
          have H2P := Lib.hid h2p
          clear h2p e1
          have hP0 : Y ^ 2 ^ i ≠ 0 := Nat.ne_of_gt (pow_pos' HB.out)
          have HP0 := Lib.hid hP0
          clear hP0
          by_cases hd : L % Y ^ (2 ^ i) = 0
          · have HD := Lib.hid hd
            clear hd
            have hstep : Hid (L / Y ^ (2 ^ i) * Y ^ (N + 2 ^ i) = X) := strip_step hL.out HD.out
            obtain ⟨T, hT⟩ : ∃ T, T = 2 ^ i := ⟨_, rfl⟩
            have hNT : N + T ≤ 17179869184 := by rw [hT]; exact Nat.le_trans (strip_le H0.out HB.out hstep.out) HBL.out
            have HT := Lib.hid hT
            clear hT
            go_wp2_with fail
            refine (divnat_Exact hra (by omega) ((e3.ext hxs).rd (Wf_wd _)) (by omega) (by rw [nv_wd]; exact HP0.out) (by rw [nv_wd, nv_wd]; exact HD.out)).mono ?_
            rintro e w5 ⟨A5, n5, c5, rfl, hn5, hr5, ho5, hx5'⟩
            rw [nv_wd, nv_wd] at hn5 hr5 ho5
            have hn5b : n5 ≤ 268435456 := by
              rw [hn5.out]
              exact Nat.le_trans (len_wd_mono (Nat.div_le_self _ _)) (by rw [← hn.out]; exact hnb)
            go_wp2_with (first
              | ((with_reducible refine at_slot (some 70) ?_); refine wpl_i64 rfl rfl rfl rfl rfl (i64_shl1 (s := i) (by omega)) ?_; intro q hq; have hqN : q = T := (by rw [hq.out, HT.out]); clear hq; subst hqN))
            go_roundw
            case rel =>
              refine ⟨A5, n5, c5, i, L / Y ^ 2 ^ i, N + q, rfl, val_int (by omega), rfl, by omega, hn5b, hNT, ?_, strip_still HB.out hND.out HD.out, hn5, hr5, ho5.mono (hx5.trans hxs).size, hxs.trans hx5'⟩
              show _ = _
              rw [HT.out]; exact hstep.out
            case measure => simp [intOf]
          · have HD := Lib.hid hd
            clear hd
            go_wp2_with fail
            refine (divnat_Exact_not hra (by omega) ((e3.ext hxs).rd (Wf_wd _)) (by omega) (by rw [nv_wd]; exact HP0.out) (by rw [nv_wd, nv_wd]; exact HD.out)).mono ?_
            rintro e w5 ⟨rfl, hx5'⟩
            go_wp2_with fail
            go_roundw
            case rel => exact ⟨A, n, cap, i, L, N, rfl, rfl, rfl, by omega, hnb, hNb, hL, HD, hn, hra.ext hx5', hoa.ext hx5', hxs.trans hx5'⟩
            case measure => simp [intOf]
        · obtain rfl : i = 0 := by omega
          have ek : ((0 : Nat) : Int) - 1 = -1 := rfl
          rw [ek]
          go_wp2_with fail
          go_ret3
          rw [Nat.pow_zero, Nat.pow_one] at hND
          exact ⟨N, L, A, n, cap, rfl, hL, hND, hn, hra, hoa, hx5.trans hxs⟩
end Go.Proofs.Ytacdaafnlbeagaa
