/- divnat.long: the walk -/
import Derived.Test.YtmaconeeonkdgaaLong
import Derived.IntWalk
namespace Go.Proofs.Ytmaconeeonkdgaa
open Go.RowKit
theorem guess_quiet {u2 u1 u0 v1 v0 D : Nat} (h2 : u2 ≤ v1) (h1 : u1 ≤ 18446744073709551615) (h0 : u0 ≤ 18446744073709551615) (hv1 : v1 ≤ 18446744073709551615) (hv0 : v0 ≤ 18446744073709551615) (hpos : 0 < v1)
    (k1 : D ≤ 18446744073709551615) (k2 : D * (v1 * WB + v0) ≤ (u2 * WB + u1) * WB + u0) (k3 : D = 18446744073709551615 ∨ (u2 * WB + u1) * WB + u0 < (D + 1) * (v1 * WB + v0)) (w : World) (n : Nat) :
    Calls Try.prog 118 #[.int .u64 (u2 : Int), .int .u64 (u1 : Int), .int .u64 (u0 : Int), .int .u64 (v1 : Int), .int .u64 (v0 : Int)] (w.drewN n) (fun e w'' => e = .returned (.int .u64 (D : Int)) ∧ ∃ m, w'' = w.drewN m) := by
  refine Calls.quiet_of ((divnat_guess h2 h1 h0 hv1 hv0 hpos (w.drewN n)).mono ?_)
  rintro e w' ⟨d, rfl, a, b, c, m, rfl⟩
  rw [guess_only a b.out c.out k1 k2 k3]
  exact ⟨rfl, m, rfl⟩
theorem lt_of_drop {l l1 : List Nat} {K : Nat} (hl : K ≤ l.length) (hl1 : K ≤ l1.length) (hw : Wf l1) (hd : l1.drop K = l.drop K) (h : nv l < WB ^ K) : nv l1 < WB ^ K := by
  have e1 := nv_split l K hl
  have e2 := nv_split l1 K hl1
  have h3 := nv_take_lt hw K
  rw [hd] at e2
  rcases Nat.eq_zero_or_pos (nv (l.drop K)) with h0 | h0
  · rw [h0, Nat.mul_zero] at e2; omega
  · have := Nat.le_mul_of_pos_right (WB ^ K) h0
    omega
set_option maxRecDepth 10000 in
set_option maxHeartbeats 8000000 in
theorem divnat_long {w : World} {A B : Option Addr} {N cap n cap' : Nat} {xs ys : List Nat} (hx : Rd w A N cap xs) (hN : N ≤ 274877906944) (hy : Rd w B n cap' ys) (hn : 2 ≤ n) (hnN : n ≤ N) (htop : ys.getD (n - 1) 0 ≠ 0) :
    Calls Try.prog 105 #[.slice A N cap, .slice B n cap'] w (RetQR w (nv xs / nv ys) (nv xs % nv ys)) := by
  obtain ⟨b, y, rfl, hyk, hyb, hcy⟩ := hy.get (i := n - 1) (by omega)
  have hlx := Lib.hid hx.len
  have hly := Lib.hid hy.len
  have hyp : (0 : Int) < (n : Int) := by omega
  go_enter Try.func105, Try.ntmps105
  go_wp2_with fail
  refine (bits_LeadingZeros64 y hyb _).mono ?_
  rintro e w' ⟨s, hs, hs64', rfl, rfl⟩
  have hstart := long_start hx.wf hy.wf hlx.out hly.out (by omega) hnN hyk.out (by rw [← hyk.out]; exact htop) hyb hs.out
  obtain ⟨hs64, hVfit, hUfit, hVpos, hVlow, hUV⟩ := hstart
  have HVfit := Lib.hid hVfit
  have HUfit := Lib.hid hUfit
  have HVpos := Lib.hid hVpos
  have HVlow := Lib.hid hVlow
  have HUV := Lib.hid hUV
  clear hVfit hUfit hVpos hVlow hUV htop
  go_wp2_with fail
  refine (divnat_shifted hy (by omega) hs64 (by omega) (Nat.le_refl _) HVfit.out).mono ?_
  rintro e w1 ⟨gv, vs, rfl, hgv, hbv, hwv, hlv, hvv, hx1⟩
  go_wp2_with fail
  refine (divnat_shifted (n := N + 1) (hx.ext hx1) (by omega) hs64 (by omega) (by omega) HUfit.out).mono ?_
  rintro e w2 ⟨gu, us, rfl, hgu, hbu, hwu, hlu, hvu, hx2⟩
  obtain ⟨M, hM1, hM2⟩ : ∃ M, M + n ≤ N + 1 ∧ N + 1 ≤ M + n := ⟨N + 1 - n, by omega, by omega⟩
  have hmk := run_make1 (P := Try.prog) Try.underlying25 info64 rfl (by decide) ((N : Int) - (n : Int) + 1) (by omega) (by omega)
  have et : ((N : Int) - (n : Int) + 1).toNat = M := by omega
  rw [et] at hmk
  clear et
  go_wp2_with fail
  clear hmk
  have hbv2 := hbv.ext hx2
  have hguv : gv < gu := Nat.lt_of_lt_of_le hbv.lt hgu
  obtain ⟨gq, hgq⟩ : ∃ gq, w2.heap.size = gq := ⟨_, rfl⟩
  rw [hgq]
  have hguq : gu < gq := by rw [← hgq]; exact hbu.lt
  obtain ⟨wa, hwa⟩ : ∃ wa, w2.alloc (.cells (zc (.int .u64 0) M) 47) = wa := ⟨_, rfl⟩
  rw [hwa]
  have hbq : Bk wa gq 47 ((List.replicate M 0).map W64) := by
    rw [← hwa, ← hgq, ← replicate_W64]; exact Bk.new' _ _ _
  have hea : Ext w2 wa := by rw [← hwa]; exact (Ext.refl w2).alloc _
  have hgw : w.heap.size ≤ gv := hgv
  have hgw2 : w.heap.size ≤ gu := by omega
  have hgw3 : w.heap.size ≤ gq := by omega
  have hbva := hbv2.ext hea
  have hbua := hbu.ext hea
  have hexa : Ext w wa := (hx1.trans hx2).trans hea
  clear hgq hwa hbv hbu hbv2 hea hcy
  have hL0 : Hid (Lg (nv ys * 2 ^ s) (nv xs * 2 ^ s) M us (List.replicate M 0)) := by
    refine ⟨?_, ?_⟩
    · rw [List.drop_of_length_le (by rw [List.length_replicate]; exact Nat.le_refl _), hvu.out]; simp [nv]
    · rw [hvu.out, show M = N + 1 - n from by omega]; exact HUV.out
  have hv1 : Hid (0 < vs.getD (n - 1) 0) := by
    refine Nat.pos_of_ne_zero (fun h0 => ?_)
    have e1 := nv_take_zero vs (n - 1) (by rw [hlv.out]; omega) h0
    rw [Nat.sub_add_cancel (by omega), List.take_of_length_le (by rw [hlv.out]; exact Nat.le_refl _), hvv.out] at e1
    have e2 := nv_take_lt hwv (n - 1)
    have := HVlow.out
    omega
  go_loopw [11] (fun u wr => ∃ (k : Nat) (l ql : List Nat), k ≤ M ∧ u = .int .i64 ((k : Int) - 1) ∧ Hid (l.length = N + 1) ∧ Wf l ∧ Hid (ql.length = M) ∧ Wf ql ∧ Bk wr gv 47 (vs.map W64) ∧ Bk wr gu 47 (l.map W64) ∧ Bk wr gq 47 (ql.map W64) ∧
    Hid (Lg (nv ys * 2 ^ s) (nv xs * 2 ^ s) k l ql) ∧ Ext w wr) (fun u wr => (intOf u + 1).toNat)
  case atStart => exact ⟨M, us, _, Nat.le_refl _, val_int (by omega), hlu, hwu, List.length_replicate, Wf_zeros _, hbva, hbua, hbq, hL0, hexa⟩
  case round =>
    obtain ⟨k, l, ql, hk, rfl, hll, hwl, hlq, hwq, hbv, hbu, hbq', hL, hr⟩ := hrel
    clear hbva hbua hbq hexa hL0 hlu hvu
    by_cases hk0 : 0 < k
    · obtain ⟨j, rfl⟩ : ∃ j, k = j + 1 := ⟨k - 1, by omega⟩
      have ek : ((j + 1 : Nat) : Int) - 1 = (j : Int) := by omega
      rw [ek]
      obtain ⟨u2, hu2k, hu2b, hcu2⟩ := hbu.word hwl (i := j + n) (by rw [hll.out]; omega)
      obtain ⟨u1, hu1k, hu1b, hcu1⟩ := hbu.word hwl (i := j + n - 1) (by rw [hll.out]; omega)
      obtain ⟨u0, hu0k, hu0b, hcu0⟩ := hbu.word hwl (i := j + n - 2) (by rw [hll.out]; omega)
      obtain ⟨v1, hv1k, hv1b, hcv1⟩ := hbv.word hwv (i := n - 1) (by rw [hlv.out]; omega)
      obtain ⟨v0, hv0k, hv0b, hcv0⟩ := hbv.word hwv (i := n - 2) (by rw [hlv.out]; omega)
      have hgs := fun d => long_guess (d := d) hL.out hn (by rw [hll.out]; omega) hwl hlv.out hwv hvv.out hv1.out
      rw [hu2k.out, hu1k.out, hu0k.out, hv1k.out, hv0k.out] at hgs
      have hu2v : u2 ≤ v1 := (hgs 0).2.1
      have hv1p : 0 < v1 := by rw [← hv1k.out]; exact hv1.out
      have HGS := Lib.hid hgs
      clear hgs
      have hfin : ∀ (q : Nat) (l2 : List Nat) (wr2 : World), q = nv l / (WB ^ j * (nv ys * 2 ^ s)) → nv l2 = nv l % (WB ^ j * (nv ys * 2 ^ s)) → q ≤ 18446744073709551615 → l2.length = N + 1 → Wf l2 → Bk wr2 gv 47 (vs.map W64) → Bk wr2 gu 47 (l2.map W64) → Bk wr2 gq 47 ((ql.set j q).map W64) → Ext w wr2 →
          ∃ (k : Nat) (l ql : List Nat), k ≤ M ∧ Value.int .i64 ((j : Int) - 1) = .int .i64 ((k : Int) - 1) ∧ Hid (l.length = N + 1) ∧ Wf l ∧ Hid (ql.length = M) ∧ Wf ql ∧ Bk wr2 gv 47 (vs.map W64) ∧ Bk wr2 gu 47 (l.map W64) ∧ Bk wr2 gq 47 (ql.map W64) ∧
            Hid (Lg (nv ys * 2 ^ s) (nv xs * 2 ^ s) k l ql) ∧ Ext w wr2 := by
        intro q l2 wr2 h1 h2 h3 h4 h5 h6 h7 h8 h9
        exact ⟨j, l2, ql.set j q, by omega, rfl, h4, h5, (show _ = _ by rw [List.length_set]; exact hlq.out), Wf_set hwq j (by rw [WB_def]; omega), h6, h7, h8, hL.out.step (by rw [hlq.out]; omega) HVpos.out h1 h2, h9⟩
      have FIN := Lib.hid hfin
      clear hfin
      go_upto_region 9 with (fail)
      obtain ⟨d, hdb, hd1, hd2⟩ := guess_is ((u2 * WB + u1) * WB + u0) (v1 * WB + v0) (by rw [WB_def]; omega)
      have hdd := Lib.hid ((HGS.out d).2.2 hdb hd1 hd2)
      have HLT := Lib.hid (HGS.out d).1
      have HD1 := Lib.hid hd1
      have HD2 := Lib.hid hd2
      clear hd1 hd2 HGS
      have w1e : IntKind.i64.wrap ((j : Int) + (n : Int)) = (j : Int) + (n : Int) := IntWalk.i64_in _ (by omega)
      have w2e : IntKind.i64.wrap ((j : Int) + (n : Int) - 1) = (j : Int) + (n : Int) - 1 := IntWalk.i64_in _ (by omega)
      have w3e : IntKind.i64.wrap ((j : Int) + (n : Int) - 2) = (j : Int) + (n : Int) - 2 := IntWalk.i64_in _ (by omega)
      have w4e : IntKind.i64.wrap ((n : Int) - 1) = (n : Int) - 1 := IntWalk.i64_in _ (by omega)
      have w5e : IntKind.i64.wrap ((n : Int) - 2) = (n : Int) - 2 := IntWalk.i64_in _ (by omega)
      have t1 : ((j : Int) + (n : Int)).toNat = j + n := by omega
      have t2 : ((j : Int) + (n : Int) - 1).toNat = j + n - 1 := by omega
      have t3 : ((j : Int) + (n : Int) - 2).toNat = j + n - 2 := by omega
      have t4 : ((n : Int) - 1).toNat = n - 1 := by omega
      have t5 : ((n : Int) - 2).toNat = n - 2 := by omega
      have b1 : 0 ≤ (j : Int) + (n : Int) := by omega
      have b2 : 0 ≤ (j : Int) + (n : Int) - 1 := by omega
      have b3 : 0 ≤ (j : Int) + (n : Int) - 2 := by omega
      have b4 : 0 ≤ (n : Int) - 1 := by omega
      have b5 : 0 ≤ (n : Int) - 2 := by omega
      have c1 : (j : Int) + (n : Int) < (N : Int) + 1 := by omega
      have c2 : (j : Int) + (n : Int) - 1 < (N : Int) + 1 := by omega
      have c3 : (j : Int) + (n : Int) - 2 < (N : Int) + 1 := by omega
      have c4 : (n : Int) - 1 < (n : Int) := by omega
      have c5 : (n : Int) - 2 < (n : Int) := by omega
      go_quiet (exact guess_quiet hu2v hu1b hu0b hv1b hv0b hv1p hdb HD1.out HD2.out _ _)
      clear w1e w2e w3e w4e w5e t1 t2 t3 t4 t5 b1 b2 b3 b4 b5 c1 c2 c3 c4 c5
      obtain ⟨wd, hwd⟩ : ∃ wd, wr.drewN nq = wd := ⟨_, rfl⟩
      rw [hwd]
      have hbu1 : Bk wd gu 47 (l.map W64) := by rw [← hwd]; exact hbu.drewN nq
      have hbv1 : Bk wd gv 47 (vs.map W64) := by rw [← hwd]; exact hbv.drewN nq
      have hbq1 : Bk wd gq 47 (ql.map W64) := by rw [← hwd]; exact hbq'.drewN nq
      have hr1 : Ext w wd := by rw [← hwd]; exact hr.drewN nq
      clear hwd hcu2 hcu1 hcu0 hcv1 hcv0
      have hvrd := hbv1.rd hwv (o := 0) (n := n) (cap := n) (Nat.le_refl _) (by rw [hlv.out]; omega) (by rw [len_maxLen]; omega)
      rw [List.drop_zero, List.take_of_length_le (by rw [hlv.out]; exact Nat.le_refl _)] at hvrd
      go_wp2_with fail
      rw [show j + n + 1 - j = n + 1 from by omega]
      refine (divnat_take (o := j) (m := n) hbu1 hwl hvrd (fun a ha => by cases ha; show gv ≠ gu; omega) (by rw [hll.out]; omega) (by omega) (by omega) hdb).mono ?_
      rintro e w4 ⟨bb, rfl, l1, c, hb4, hw4, hll4, hdr4, hc4, hP4, hu4⟩
      have hll4' : Hid (l1.length = N + 1) := (show _ = _ by rw [hll4.out, hll.out])
      have hL1 : Hid (nv l1 < WB ^ (j + n + 1)) := lt_of_drop (by rw [hll.out]; omega) (by rw [hll4'.out]; omega) hw4 hdr4.out HLT.out
      have hcase := long_case (D := WB ^ j * (nv ys * 2 ^ s)) (Nat.mul_pos (Nat.pow_pos WB_pos) HVpos.out) hdd.out.1 hdd.out.2 HLT.out hL1.out (by
        have h := hP4.out.2
        rw [hvv.out, Nat.mul_left_comm] at h
        exact h) hc4
      have hbc := hP4.out.1
      have hbv4 := hbv1.upd hu4 (by omega)
      have hbq4 := hbq1.upd hu4 (by omega)
      have hr4 := hu4.ext hr1 hgw2
      have hbb : bb = false ∧ c = 0 ∨ bb = true ∧ c = 1 := by
        rcases bb with _ | _
        · left; refine ⟨rfl, ?_⟩; simp at hbc; omega
        · right; exact ⟨rfl, hbc.1 rfl⟩
      clear hP4 hbc hc4 hbv hbu hbq' hbu1 hbv1 hbq1 hr hr1 hvrd
      rcases hbb with ⟨rfl, hc⟩ | ⟨rfl, hc⟩
      · have h0 := Lib.hid (hcase.1 hc)
        clear hcase hc
        obtain ⟨z, hz, _, hcz⟩ := hbq4.word hwq (i := j) (by rw [hlq.out]; omega)
        have hfz := hbq4.frozen j
        have hjM : (j : Int) < (M : Int) := by omega
        go_wp2_with fail
        go_roundw
        case rel => exact FIN.out d l1 _ h0.out.1 h0.out.2 hdb hll4'.out hw4 (hbv4.far (by show gv ≠ gq; omega) _) (hb4.far (by show gu ≠ gq; omega) _) (by rw [← map_W64_set]; exact hbq4.set _ _) (hr4.setCell hgw3 _)
        case measure => simp [intOf]
      · have h0 := Lib.hid (hcase.2 hc)
        clear hcase hc
        obtain ⟨q, rfl⟩ : ∃ q, d = q + 1 := ⟨_, h0.out.1⟩
        have hq : Hid (q = nv l / (WB ^ j * (nv ys * 2 ^ s))) := (show _ = _ from Nat.succ.inj h0.out.1)
        have hvrd := hbv4.rd hwv (o := 0) (n := n) (cap := n) (Nat.le_refl _) (by rw [hlv.out]; omega) (by rw [len_maxLen]; omega)
        rw [List.drop_zero, List.take_of_length_le (by rw [hlv.out]; exact Nat.le_refl _)] at hvrd
        go_wp2_with fail
        rw [show j + n + 1 - j = n + 1 from by omega]
        refine (divnat_give (o := j) (m := n) hb4 hw4 hvrd (fun a ha => by cases ha; show gv ≠ gu; omega) (by rw [hll4'.out]; omega) (by omega) (by omega)).mono ?_
        rintro e w5 ⟨rfl, l2, c2, hb5, hw5, hll5, hdr5, hc5, hP5, hu5⟩
        have hll5' : Hid (l2.length = N + 1) := (show _ = _ by rw [hll5.out, hll4'.out])
        have hL2 : Hid (nv l2 < WB ^ (j + n + 1)) := lt_of_drop (by rw [hll4'.out]; omega) (by rw [hll5'.out]; omega) hw5 hdr5.out hL1.out
        have hfin2 : Hid (nv l2 = nv l % (WB ^ j * (nv ys * 2 ^ s))) := h0.out.2 (nv l2) c2 hc5 hL2.out (by have h := hP5.out; rw [hvv.out] at h; exact h)
        have hbv5 := hbv4.upd hu5 (by omega)
        have hbq5 := hbq4.upd hu5 (by omega)
        have hr5 := hu5.ext hr4 hgw2
        clear hP5 hc5 hbv4 hbq4 hr4 hb4 hvrd h0
        obtain ⟨z, hz, _, hcz⟩ := hbq5.word hwq (i := j) (by rw [hlq.out]; omega)
        have hfz := hbq5.frozen j
        have hjM : (j : Int) < (M : Int) := by omega
        go_wp2_with fail
        go_roundw
        case rel => exact FIN.out q l2 _ hq.out hfin2.out (by omega) hll5'.out hw5 (hbv5.far (by show gv ≠ gq; omega) _) (hb5.far (by show gu ≠ gq; omega) _) (by rw [← map_W64_set]; exact hbq5.set _ _) (hr5.setCell hgw3 _)
        case measure => simp [intOf]
    · obtain rfl : k = 0 := by omega
      have ek : ((0 : Nat) : Int) - 1 = -1 := rfl
      rw [ek]
      have hLv : Hid (nv l < nv ys * 2 ^ s) := by
        have := hL.out.lt
        rw [Nat.pow_zero, Nat.mul_one] at this
        exact this
      have hQ := long_end (X := nv xs) (Y := nv ys) (s := s) (Q := nv ql) (L := nv l) (Nat.pos_of_mul_pos_right HVpos.out) (by have := hL.out.eq; simpa using this) hLv.out
      have hln : Hid (nv (l.take n) = nv l) := by
        show _ = _
        have e1 := nv_split l n (by rw [hll.out]; omega)
        rcases Nat.eq_zero_or_pos (nv (l.drop n)) with h0 | h0
        · rw [h0, Nat.mul_zero, Nat.add_zero] at e1; exact e1.symm
        · have := Nat.le_mul_of_pos_right (WB ^ n) h0
          have h2 := hLv.out
          have h3 := HVfit.out
          omega
      have HQ := Lib.hid hQ
      clear hQ
      have hurd := hbu.rd hwl (o := 0) (n := n) (cap := N + 1) (by omega) (by rw [hll.out]; omega) (by rw [len_maxLen]; omega)
      rw [List.drop_zero] at hurd
      go_wp2_with fail
      refine (nat_Shr hurd (by omega) (by omega)).mono ?_
      rintro e w6 ⟨A6, n6, c6, rfl, hn6, hr6, ho6, hx6⟩
      rw [hln.out, HQ.out.2] at hn6 hr6 ho6
      have hqrd := (hbq'.ext hx6).rd hwq (o := 0) (n := M) (cap := M) (Nat.le_refl _) (by rw [hlq.out]; omega) (by rw [len_maxLen]; omega)
      rw [List.drop_zero, List.take_of_length_le (by rw [hlq.out]; exact Nat.le_refl _)] at hqrd
      go_wp2_with fail
      refine (nat_Least hqrd (by omega)).mono ?_
      rintro e w7 ⟨A7, n7, c7, rfl, hn7, hr7, ho7, hx7⟩
      rw [HQ.out.1] at hn7 hr7 ho7
      go_wp2_with fail
      go_ret2
      exact ⟨A7, n7, c7, A6, n6, c6, rfl, hn7, hr7, ho7.mono (hr.trans hx6).size, hn6, hr6.ext hx7, (ho6.mono hr.size).ext hx7, (hr.trans hx6).trans hx7⟩
end Go.Proofs.Ytmaconeeonkdgaa
