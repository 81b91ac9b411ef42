/- Contracts of package mulnat, the fourth part: product; Mul, Square, Word. -/
import Derived.Test.YtmaconeeonkdgaaMulnatC
namespace Go.Proofs.Ytmaconeeonkdgaa
open Go.RowKit

set_option maxHeartbeats 4000000 in
theorem prod_below (N : Nat) : ProdBelow N := by
  induction N with
  | zero => intro w A B n cap m cap' xs ys _ _ h; omega
  | succ N IH =>
    intro w A B n cap m cap' xs ys hx hy hN hN2
    have HI := Lib.hid IH
    clear IH
    go_enter Try.func81, Try.ntmps81
    go_wp2_with fail
    refine (mul_trim hx (by omega)).mono ?_
    rintro e w' ⟨p, hp, rfl, hx1, rfl⟩
    go_wp2_with fail
    refine (mul_trim hy (by omega)).mono ?_
    rintro e w' ⟨q, hq, rfl, hy1, rfl⟩
    have hpn : p ≤ n := by rw [hp.out]; have := len_wd_nv hx.wf; rw [hx.len] at this; exact this
    have hqm : q ≤ m := by rw [hq.out]; have := len_wd_nv hy.wf; rw [hy.len] at this; exact this
    go_upto_if 16 with (fail)
    go_cut [0, 1] (fun u v wc => ∃ A B p q xs' ys', u = .slice A p p ∧ v = .slice B q q ∧ Rd w A p p xs' ∧ Rd w B q q ys' ∧ Hid (nv xs' * nv ys' = nv xs * nv ys) ∧ q ≤ p ∧ p + q ≤ n + m ∧ Hid (p + q = (wd (nv xs)).length + (wd (nv ys)).length) ∧ w = wc)
    case first =>
      by_cases hpq : p < q
      · go_wp2_with fail
        go_meet
        case rel => exact ⟨B, A, q, p, _, _, rfl, rfl, hy1, hx1, (show _ = _ by rw [nv_wd, nv_wd, Nat.mul_comm]), by omega, by omega, (show _ = _ by rw [← hp.out, ← hq.out]; omega), rfl⟩
      · go_wp2_with fail
        go_meet
        case rel => exact ⟨A, B, p, q, _, _, rfl, rfl, hx1, hy1, (show _ = _ by rw [nv_wd, nv_wd]), by omega, by omega, (show _ = _ by rw [← hp.out, ← hq.out]), rfl⟩
    case rest =>
      clear hx1 hy1 hp hq hpn hqm hx hy
      obtain ⟨A, B, p, q, xs', ys', rfl, rfl, hx, hy, hXY, hqp, hpq, hK, rfl⟩ := hcut
      have hlx := Lib.hid hx.len
      have hly := Lib.hid hy.len
      have hmk := run_make1 (P := Try.prog) Try.underlying25 info64 rfl (by decide) ((p : Int) + (q : Int)) (by omega) (by omega)
      have et : ((p : Int) + (q : Int)).toNat = p + q := by omega
      rw [et] at hmk
      clear et
      obtain ⟨g, hg⟩ : ∃ g, w.heap.size = g := ⟨_, rfl⟩
      obtain ⟨wa, hwa⟩ : ∃ wa, w.alloc (.cells (zc (.int .u64 0) (p + q)) 47) = wa := ⟨_, rfl⟩
      have hbk : Bk wa g 47 ((List.replicate (p + q) 0).map W64) := by
        rw [← hwa, ← hg, ← replicate_W64]; exact Bk.new' _ _ _
      have hea : Ext w wa := by rw [← hwa]; exact (Ext.refl w).alloc _
      have hgs : w.heap.size ≤ g := by rw [hg]; exact Nat.le_refl _
      have hna : ∀ a, A = some a → 0 < p → a.block ≠ g := fun a ha hp => by have := hx.rv.blk a ha (by have := hx.rv.le; omega); omega
      have hnb : ∀ a, B = some a → 0 < q → a.block ≠ g := fun a ha hp => by have := hy.rv.blk a ha (by have := hy.rv.le; omega); omega
      have HNA := Lib.hid hna
      have HNB := Lib.hid hnb
      have HG := Lib.hid hg
      have HWA := Lib.hid hwa
      clear hna hnb hg hwa
      go_upto_region 6 with (fail)
      rw [HG.out, HWA.out]
      clear hmk HG HWA
      have fin : ∀ zs' w', Bk w' g 47 (zs'.map W64) → Wf zs' → zs'.length = p + q → nv zs' = nv xs' * nv ys' → Upd g wa w' → ProdP w (nv xs) (nv ys) (.returned (.slice (some ⟨g, 0, none⟩) (p + q) (p + q))) w' := by
        intro zs' w' h1 h2 h3 h4 h5
        exact ⟨_, hK.out, g, zs', rfl, hgs, h1, h2, h3, by show _ = _; rw [h4, hXY.out], h5.ext hea hgs⟩
      have FIN := Lib.hid fin
      clear fin
      by_cases h24 : q < 24
      · go_wp2_with fail
        refine (mul_rows hbk rfl rfl (hx.ext hea) (hy.ext hea) HNA.out HNB.out (by omega) (by omega)).mono ?_
        rintro e w1 ⟨z1, rfl, hb1, hw1, hl1, hv1, hu1⟩
        go_wp2_with fail
        go_ret
        exact FIN.out z1 w1 hb1 hw1 (by rw [hl1.out, List.length_replicate]) hv1.out hu1
      · have hb24 : decide ((q : Int) < 24) = false := by simp; omega
        by_cases h2q : p < 2 * q
        · go_wp2_with fail
          refine (mul_halves (N := p + q) (fun w A B n cap m cap' xs ys h1 h2 h3 h4 => HI.out w A B n cap m cap' xs ys h1 h2 (by omega) h4) hbk rfl (hx.ext hea) (hy.ext hea) (fun a ha => HNA.out a ha (by omega)) (fun a ha => HNB.out a ha (by omega)) rfl (by omega) (by omega) hqp h2q).mono ?_
          rintro e w1 ⟨z1, rfl, hb1, hw1, hl1, hv1, hu1⟩
          go_wp2_with fail
          go_ret
          exact FIN.out z1 w1 hb1 hw1 (by rw [hl1.out, List.length_replicate]) hv1.out hu1
        · have hb2q : decide (2 * (q : Int) ≤ (p : Int)) = true := by simp; omega
          obtain ⟨a, _, rfl, _, _, _⟩ := hx.get (i := 0) (by omega)
          go_wp2_with fail
          go_loopw [6] (fun u wr => ∃ (i : Nat) (l : List Nat), i ≤ p + q ∧ u = .int .i64 (i : Int) ∧ Hid (l.length = p + q) ∧ Wf l ∧ Bk wr g 47 (l.map W64) ∧ Hid (nv l = nv (xs'.take i) * nv ys') ∧ Upd g wa wr) (fun u wr => p + q - (intOf u).toNat)
          case atStart => exact ⟨0, _, Nat.zero_le _, rfl, List.length_replicate, Wf_zeros _, hbk, (show _ = _ by rw [nv_zeros]; simp [nv]), Upd.refl _ _⟩
          case round =>
            obtain ⟨i, l, hi, rfl, hll, hwl, hb, hv, hr⟩ := hrel
            clear hbk
            by_cases hip : i < p
            · obtain ⟨e, he⟩ : ∃ e, e = min (i + q) p := ⟨_, rfl⟩
              have he1 : i < e := by omega
              have he2 : e ≤ p := by omega
              have he3 : e ≤ i + q := by omega
              have hmin : min ((i : Int) + (q : Int)) (p : Int) = (e : Int) := by omega
              have HE := Lib.hid he
              clear he
              have hxr := (hx.ext hea).upd hr (fun a ha => HNA.out a ha (by omega))
              have hyr := (hy.ext hea).upd hr (fun a ha => HNB.out a ha (by omega))
              have hcut := hxr.cut (l := i) (k := e) (m := e) (by omega) he2 (Nat.le_refl _) he2
              rw [if_neg (by omega), Option.map_some] at hcut
              have hnext : Hid (nv (xs'.take (i + q)) * nv ys' = nv l + WB ^ i * (nv ((xs'.take e).drop i) * nv ys')) := by
                show _ = _
                have e1 : xs'.take (i + q) = xs'.take e := by
                  rw [HE.out]
                  rcases Nat.le_total (i + q) p with h | h
                  · rw [Nat.min_eq_left h]
                  · rw [Nat.min_eq_right h, List.take_of_length_le (by rw [hlx.out]; omega), List.take_of_length_le (by rw [hlx.out]; omega)]
                have e2 := nv_split (xs'.take e) i (by rw [List.length_take, hlx.out]; omega)
                rw [List.take_take, Nat.min_eq_left (by omega)] at e2
                rw [e1, e2, Nat.add_mul, hv.out, Nat.mul_assoc]
              have hbnd : Hid (nv l + WB ^ i * (nv ((xs'.take e).drop i) * nv ys') < WB ^ (i + (p + q - i))) := by
                show _ < _
                rw [← hnext.out, show i + (p + q - i) = p + q from by omega, Nat.pow_add]
                have h1 := nv_lt (Wf_take hx.wf (i + q))
                have h2 := nv_lt hy.wf
                rw [hly.out] at h2
                have h3 : WB ^ (xs'.take (i + q)).length ≤ WB ^ p := Nat.pow_le_pow_right WB_pos (by rw [List.length_take, hlx.out]; omega)
                exact Nat.mul_lt_mul'' (Nat.lt_of_lt_of_le h1 h3) h2
              have htm : (wd (nv ((xs'.take e).drop i) * nv ys')).length ≤ p + q - i := by
                refine len_wd_le ?_
                have h1 := hbnd.out
                refine Nat.lt_of_mul_lt_mul_left (a := WB ^ i) ?_
                rw [← Nat.pow_add]
                omega
              have hprod : nv ((xs'.take e).drop i) * nv ys' < WB ^ (p + q) := by
                have := hbnd.out
                have h1 : 0 < WB ^ i := Nat.pow_pos WB_pos
                have h2 := Nat.le_mul_of_pos_left (nv ((xs'.take e).drop i) * nv ys') h1
                rw [show i + (p + q - i) = p + q from by omega] at this
                omega
              have HP := Lib.hid hprod
              clear hprod
              have b1 : i ≤ 1099511627776 := by omega
              have b2 : p + q - i ≤ 1099511627776 := by omega
              have b3 : e - i + q < N := by omega
              have b4 : e - i + q ≤ 274877906944 := by omega
              have hgr : g < wr.heap.size := hb.lt
              go_wp2_with fail
              have hk1b : (wd (nv ((xs'.take e).drop i))).length + (wd (nv ys')).length ≤ e - i + q := by
                have h1 := len_wd_nv hcut.wf
                have h2 := len_wd_nv hy.wf
                rw [hcut.len] at h1
                rw [hy.len] at h2
                omega
              have htm' : (wd (nv (wd (nv ((xs'.take e).drop i) * nv ys')))).length ≤ p + q - i := by rw [nv_wd]; exact htm
              have hbnd' : Hid (nv l + WB ^ i * nv (wd (nv ((xs'.take e).drop i) * nv ys')) < WB ^ (i + (p + q - i))) := by show _ < _; rw [nv_wd]; exact hbnd.out
              have hll' : Hid (l.length = i + (p + q - i)) := by show _ = _; rw [hll.out]; omega
              have hgwr : g < wr.heap.size := hb.lt
              go_region_with (first
                | (go_at_call 81; refine (HI.out _ _ _ _ _ _ _ _ _ (hcut.ext (by repeat (first | exact Ext.refl _ | assumption | apply Ext.drewN | apply Ext.drew | apply Ext.alloc))) (hyr.ext (by repeat (first | exact Ext.refl _ | assumption | apply Ext.drewN | apply Ext.drew | apply Ext.alloc))) b3 b4).mono ?_; rintro er w1 ⟨k1, hk1, g1, z1, rfl, hg1, hb1, hw1, hl1, hv1, hx1⟩; have hr1 := NewP.rd hb1 hw1 hl1.out (by rw [hk1.out]; omega); have hne1 : g1 ≠ g := (by have h : wr.heap.size ≤ g1 := hg1; omega); have hx1' : Ext wr w1 := Ext.trans (by repeat (first | exact Ext.refl _ | assumption | apply Ext.drewN | apply Ext.drew | apply Ext.alloc)) hx1)
                | (go_at_call 100; refine (mul_trim (hr1.ext (by repeat (first | exact Ext.refl _ | assumption | apply Ext.drewN | apply Ext.drew | apply Ext.alloc))) (by rw [hk1.out]; omega)).mono ?_; rintro er w' ⟨tm, htm2, rfl, hrm2, rfl⟩; rw [hv1.out] at htm2 hrm2)
                | (go_at_call 102; refine (mul_addTo (o := i) (n := p + q - i) (hb.ext hx1') hwl hll'.out hrm2 (fun a ha _ => by cases ha; exact hne1) (by rw [htm2.out]; exact htm) b2 b1 hbnd'.out).mono ?_; rintro er w10 ⟨z10, rfl, hb10, hw10, hl10, hv10, hu10⟩))
              all_goals
                go_wp2_with fail
                go_roundw
                case rel =>
                  refine ⟨i + q, z10, by omega, by go_num, (show _ = _ by rw [hl10.out, hll.out]), hw10, by first | exact hb10 | exact hb10.drew | exact hb10.drewN _, ?_, ?_⟩
                  · show _ = _
                    rw [hv10.out, nv_wd]; exact hnext.out.symm
                  · have u1 : Upd g wa w10 := (hr.then_ext hx1').trans (Upd.trans (Upd.of_ext (by repeat (first | exact Ext.refl _ | assumption | apply Ext.drewN | apply Ext.drew | apply Ext.alloc))) hu10)
                    first | exact u1 | exact u1.drew | exact u1.drewN _
                case measure => simp [intOf]; omega
            · have hfull : Hid (nv l = nv xs' * nv ys') := by
                show _ = _
                rw [hv.out, List.take_of_length_le (by rw [hlx.out]; omega)]
              go_wp2_with fail
              go_ret
              exact FIN.out l _ hb hwl hll.out hfull.out hr

theorem mul_product {w : World} {A B : Option Addr} {n cap m cap' : Nat} {xs ys : List Nat} (hx : Rd w A n cap xs) (hy : Rd w B m cap' ys) (hN : n + m ≤ 274877906944) :
    Calls Try.prog 81 #[.slice A n cap, .slice B m cap'] w (ProdP w (nv xs) (nv ys)) := prod_below (n + m + 1) w A B n cap m cap' xs ys hx hy (by omega) hN

theorem mulnat_Mul {w : World} {A B : Option Addr} {n cap m cap' : Nat} {xs ys : List Nat} (hx : Rd w A n cap xs) (hy : Rd w B m cap' ys) (hN : n + m ≤ 274877906944) :
    Calls Try.prog 57 #[.slice A n cap, .slice B m cap'] w (RetW w (nv xs * nv ys)) := by
  go_enter Try.func57, Try.ntmps57
  go_wp2_with fail
  refine (mul_product hx hy hN).mono ?_
  rintro e w1 ⟨k1, hk1, g1, z1, rfl, hg1, hb1, hw1, hl1, hv1, hx1⟩
  have hk1b : k1 ≤ n + m := by
    rw [hk1.out]
    have h1 := len_wd_nv hx.wf
    have h2 := len_wd_nv hy.wf
    rw [hx.len] at h1
    rw [hy.len] at h2
    omega
  go_wp2_with fail
  refine (nat_Least (NewP.rd hb1 hw1 hl1.out (by omega)) (by omega)).mono ?_
  rintro e w2 ⟨A2, n2, c2, rfl, hn2, hr2, ho2, hx2⟩
  go_wp2_with fail
  go_ret
  rw [hv1.out] at hn2 hr2 ho2
  exact ⟨A2, n2, c2, rfl, hn2, hr2, ho2.mono hx1.size, hx1.trans hx2⟩

theorem mulnat_Square {w : World} {A : Option Addr} {n cap : Nat} {xs : List Nat} (hx : Rd w A n cap xs) (hN : n ≤ 137438953472) :
    Calls Try.prog 88 #[.slice A n cap] w (RetW w (nv xs * nv xs)) := by
  go_enter Try.func88, Try.ntmps88
  go_wp2_with fail
  refine (mulnat_Mul hx hx (by omega)).mono ?_
  rintro e w1 ⟨A2, n2, c2, rfl, h⟩
  go_wp2_with fail
  go_ret
  exact ⟨A2, n2, c2, rfl, h⟩

/-- a list of one word, laid in a block of its own -/
theorem Rd.one (w : World) {x : Nat} (hx : x ≤ 18446744073709551615) : Rd (w.alloc (.cells #[.int .u64 (x : Int)] 47)) (some ⟨w.heap.size, 0, none⟩) 1 1 [x] :=
  ⟨Rv.one w 47 _, Wf_one (by rw [WB_def]; omega)⟩

theorem mulnat_Word {w : World} {A : Option Addr} {n cap : Nat} {xs : List Nat} (hx : Rd w A n cap xs) (hN : n ≤ 137438953472) {x : Nat} (hxb : x ≤ 18446744073709551615) :
    Calls Try.prog 107 #[.slice A n cap, .int .u64 (x : Int)] w (RetW w (nv xs * x)) := by
  go_enter Try.func107, Try.ntmps107
  go_wp2_with fail
  refine (mulnat_Mul (hx.ext (by repeat (first | exact Ext.refl _ | assumption | apply Ext.drewN | apply Ext.drew | apply Ext.alloc))) (Rd.one w hxb) (by omega)).mono ?_
  rintro e w1 ⟨A2, n2, c2, rfl, hn2, hr2, ho2, hx2⟩
  go_wp2_with fail
  go_ret
  rw [nv_one] at hn2 hr2 ho2
  exact ⟨A2, n2, c2, rfl, hn2, hr2, ho2.mono (by simp), ((Ext.refl w).alloc _).trans hx2⟩
end Go.Proofs.Ytmaconeeonkdgaa
