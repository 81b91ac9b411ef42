/- fractions: Nearest -/
import Derived.Test.YthbogoecoebefaaFracC
import Derived.Test.YthbogoecoebefaaDiv64
namespace Go.Proofs.Ythbogoecoebefaa
open Go.RowKit

/-- m is nearest to x/y; of two the even one -/
def Near (m x y : Int) : Prop := ∃ p q, Low p q x y ∧ 2 * (p - m * q).natAbs ≤ q.natAbs ∧ (2 * (p - m * q).natAbs = q.natAbs → m % 2 = 0)
theorem near_of {f r p q : Int} (hq : 0 < q) (h : Flo f r p q) : p - f * q = r ∧ p - (f + 1) * q = r - q := by
  have := h.eq
  refine ⟨by omega, ?_⟩
  rw [Int.add_mul, Int.one_mul]; omega
theorem near_down {f r p q x y : Int} (l : Low p q x y) (h : Flo f r p q) (hc : r + r < q ∨ (r + r = q ∧ f % 2 = 0)) : Near f x y := by
  obtain ⟨h1, _⟩ := near_of l.pos h
  have hr := h.pos l.pos
  have := l.pos
  refine ⟨p, q, l, ?_, ?_⟩
  · rw [h1]; omega
  · rw [h1]
    intro he
    rcases hc with hc | hc
    · omega
    · exact hc.2
theorem near_up {f r p q x y : Int} (l : Low p q x y) (h : Flo f r p q) (hc : q < r + r ∨ (r + r = q ∧ f % 2 = 1)) : Near (f + 1) x y := by
  obtain ⟨_, h1⟩ := near_of l.pos h
  have hr := h.pos l.pos
  have := l.pos
  refine ⟨p, q, l, ?_, ?_⟩
  · rw [h1]; omega
  · rw [h1]
    intro he
    rcases hc with hc | hc
    · omega
    · omega
/-- the lowest word's parity -/
theorem word_odd {m x : Nat} (h : (wd m).getD 0 0 = x) (h0 : m ≠ 0) : x % 2 = m % 2 := by
  rw [wd_pos h0] at h
  have : x = m % WB := h.symm
  rw [this, WB_def]; omega
theorem nat_bound {a b c d : Nat} (h : a * b ≤ c + d) (hd : d ≤ b) (hb : 1 ≤ b) : a ≤ c + 1 := by
  cases a with
  | zero => omega
  | succ a =>
    have h1 : a * 1 ≤ a * b := Nat.mul_le_mul_left a hb
    rw [Nat.succ_mul] at h
    omega
theorem ln_succ {m x : Int} {b : Nat} (h : m.natAbs ≤ x.natAbs + 1) (hx : ln x ≤ b) : ln m ≤ b + 1 := by
  have h1 := len_wd_mono h
  have h2 := len_wd_add x.natAbs 1
  have h3 : (wd 1).length = 1 := by decide +kernel
  unfold ln at *
  rcases Nat.eq_zero_or_pos b with h0 | h0
  · have : x.natAbs = 0 := len_wd_zero.1 (by omega)
    rw [this] at h
    have h4 := len_wd_mono h
    have h5 : (wd (0 + 1)).length = 1 := by decide +kernel
    omega
  · omega
theorem flo_ln {n r x y : Int} {b : Nat} (hy : y ≠ 0) (h : Flo n r x y) (hx : ln x ≤ b) : ln n ≤ b + 1 := by
  refine ln_succ ?_ hx
  have e := h.eq
  have hr : r.natAbs ≤ y.natAbs := by
    rcases Int.lt_or_gt_of_ne hy with hn | hn
    · have := h.neg hn; omega
    · have := h.pos hn; omega
  refine nat_bound (b := y.natAbs) (d := r.natAbs) ?_ hr (by omega)
  rw [← Int.natAbs_mul]
  omega
theorem flo_ln0 {n r x y : Int} {b : Nat} (hy : 0 < y) (h : Flo n r x y) (hx : ln x ≤ b) : ln n ≤ b + 1 := flo_ln (by omega) h hx
def NearE (w : World) (x y : Int) (e : Ending) (w' : World) : Prop := ∃ m, Hid (Near m x y) ∧ RetZE w m 0 e w'
theorem frac_Nearest_bad {w : World} {s s' : Bool} {A A' : Option Addr} {n cap n' cap' : Nat} {x y : Int} (hx : Zi w s A n cap x) (hl : n ≤ 68719476736) (hy : Zi w s' A' n' cap' y) (hl' : n' ≤ 68719476736) (h0 : y = 0) :
    Calls Try.prog 31 #[.agg #[.bool s, .slice A n cap, .bool s', .slice A' n' cap']] w (RetZE w 0 4) := by
  have H0 := Lib.hid h0
  clear h0
  go_enter Try.func31, Try.ntmps31
  go_upto_region 1 with (fail)
  obtain ⟨g, g2, wa, hg2, hg, hwa, hb1, hb2, hea, l12, l2, n12, n21⟩ := boxesL2 w 39 24 [.bool s, .slice A n cap, .bool s', .slice A' n' cap'] [.bool false, .slice none 0 0]
  rw [hg2, hg, hwa]
  have hgw : w.heap.size ≤ g := Nat.le_of_eq hg
  clear hwa hg hg2
  obtain ⟨⟨a0, a1, a2, a3⟩, a4⟩ := hb1.four
  go_wp2_with fail
  refine (frac_OfP (hx.ext hea) hl (hy.ext hea) hl').mono ?_
  rintro e w1 ⟨p, q, er, ⟨s8, A8, n8, c8, s9, A9, n9, c9, rfl, z8, z9, hx1⟩, hlow⟩
  obtain rfl : er = 4 := (hlow.out.1 H0.out).2.2
  clear a0 a1 a2 a3 a4 hlow
  go_upto_region 2 with (fail)
  obtain ⟨g6, v1, hg6, hv1, hb6, he, l6⟩ := boxesL1 w1 39 [.bool s8, .slice A8 n8 c8, .bool s9, .slice A9 n9 c9]
  rw [hg6, hv1]
  have x1 := hx1.trans he
  have hb2 := hb2.ext x1
  have e1 := hea.trans x1
  clear hg6 hv1 he hx1
  obtain ⟨h1, h2, h3, h4⟩ := hb2.two
  go_wp2_with fail
  refine bodyPost_ret (res_ie rfl rfl rfl (hb2.two_set _ _)) rfl ?_
  exact ⟨_, _, _, _, rfl, Zr.zero, (Upd.two _ _).ext e1 (by omega)⟩
set_option maxHeartbeats 8000000 in
theorem frac_Nearest {w : World} {s s' : Bool} {A A' : Option Addr} {n cap n' cap' : Nat} {x y : Int} (hx : Zi w s A n cap x) (hl : n ≤ 17179869184) (hy : Zi w s' A' n' cap' y) (hl' : n' ≤ 17179869184) (h0 : y ≠ 0) :
    Calls Try.prog 31 #[.agg #[.bool s, .slice A n cap, .bool s', .slice A' n' cap']] w (NearE w x y) := by
  have H0 := Lib.hid h0
  have LX := Lib.hid (Nat.le_trans hx.ln hl)
  have LY := Lib.hid (Nat.le_trans hy.ln hl')
  clear h0
  go_enter Try.func31, Try.ntmps31
  go_upto_region 1 with (fail)
  obtain ⟨g, g2, wa, hg2, hg, hwa, hb1, hb2, hea, l12, l2, n12, n21⟩ := boxesL2 w 39 24 [.bool s, .slice A n cap, .bool s', .slice A' n' cap'] [.bool false, .slice none 0 0]
  rw [hg2, hg, hwa]
  have hgw : w.heap.size ≤ g := Nat.le_of_eq hg
  clear hwa hg hg2
  obtain ⟨⟨a0, a1, a2, a3⟩, a4⟩ := hb1.four
  go_wp2_with fail
  refine (frac_OfP (hx.ext hea) (by omega) (hy.ext hea) (by omega)).mono ?_
  rintro e w1 ⟨p, q, er, ⟨s8, A8, n8, c8, s9, A9, n9, c9, rfl, z8, z9, hx1⟩, hlow⟩
  have LW := Lib.hid (hlow.out.2 H0.out).1
  obtain rfl : er = 0 := (hlow.out.2 H0.out).2
  have b8 : n8 ≤ 17179869184 := z8.le (Nat.le_trans (ln_mono LW.out.np) LX.out)
  have b9 : n9 ≤ 17179869184 := z9.le (Nat.le_trans (ln_mono LW.out.nq) LY.out)
  have HQ := Lib.hid LW.out.pos
  have LQ := Lib.hid (z9.ln_le b9)
  clear a0 a1 a2 a3 a4 hlow
  go_upto_region 2 with (fail)
  obtain ⟨g4, v1, hg4, hv1, hb4, he, l4⟩ := boxesL1 w1 39 [.bool s8, .slice A8 n8 c8, .bool s9, .slice A9 n9 c9]
  rw [hg4, hv1]
  have x1 := hx1.trans he
  have hb2 := hb2.ext x1
  have e1 := hea.trans x1
  have z8 := z8.ext he
  have z9 := z9.ext he
  have hs4 : wa.heap.size ≤ g4 := by rw [← hg4]; exact hx1.size
  clear hg4 hv1 he hx1 hb1
  obtain ⟨⟨a0, a1, a2, a3⟩, a4⟩ := hb4.four
  go_wp2_with fail
  refine (zint_Floor z8.zi (by omega) z9.zi (by omega) (by have := HQ.out; omega)).mono ?_
  rintro e w2 ⟨f, r, HF, sq, Aq, nq, cq, sr, Ar, nr, cr, rfl, zf, zr, hx2⟩
  have hrq := Lib.hid (HF.out.pos HQ.out)
  have br : nr ≤ 17179869184 := zr.le (Nat.le_trans (ln_mono (by have := hrq.out; omega)) LQ.out)
  clear a0 a1 a2 a3 a4
  go_upto_region 5 with (fail)
  obtain ⟨g6, g7, v2, hg7, hg6, hv2, hb6, hb7, he, l67, l7, n67, n76⟩ := boxN2 w2 24 24 [.bool sq, .slice Aq nq cq] [.bool sr, .slice Ar nr cr]
  rw [hg7, hg6, hv2]
  have hs6 : w2.heap.size ≤ g6 := Nat.le_of_eq hg6
  have zf := zf.ext he
  have zr := zr.ext he
  have x2 := hx2.trans he
  have hb2 := hb2.ext x2
  have hb4 := hb4.ext x2
  have z9 := z9.ext x2
  have e2 := e1.trans x2
  have sz2 := hx2.size
  clear hg7 hg6 hv2 he hx2 z8
  obtain ⟨f1, f2, f3, f4⟩ := hb6.two
  have hrd := zf.rd
  have n26 : g2 ≠ g6 := by omega
  have n62 := n26.symm
  by_cases hf0 : nq = 0
  · have PAR : Hid (f % 2 = 0) := by
      have h := zf.len
      rw [hf0] at h
      have : f.natAbs = 0 := len_wd_zero.1 h.symm
      show _ = _
      omega
    have hnq : ¬ 0 < nq := by omega
    have bq : nq ≤ 17179869185 := by omega
    subst hf0
    go_upto_region 6 with (fail)
    clear f1 f2 f3 f4
    obtain ⟨f1, f2, f3, f4⟩ := hb7.two
    obtain ⟨⟨a0, a1, a2, a3⟩, a4⟩ := hb4.four
    go_region_held3 (fun w' => w'.cell? ⟨g7, 0, none⟩ = some (.bool sr) ∧ w'.cell? ⟨g7, 1, none⟩ = some (.slice Ar nr cr) ∧ w'.cell? ⟨g4, 0, none⟩ = some (.bool s8) ∧ w'.cell? ⟨g4, 1, none⟩ = some (.slice A8 n8 c8) ∧ w'.cell? ⟨g4, 2, none⟩ = some (.bool s9) ∧ w'.cell? ⟨g4, 3, none⟩ = some (.slice A9 n9 c9)) (go_keep)
      (first
      | (go_at_call 12; refine (zint_Add (zr.zi.ext (by repeat (first | exact Ext.refl _ | assumption | apply Ext.drewN | apply Ext.drew | apply Ext.alloc))) (by omega) (zr.zi.ext (by repeat (first | exact Ext.refl _ | assumption | apply Ext.drewN | apply Ext.drew | apply Ext.alloc))) (by omega)).mono ?_; rintro e w20 ⟨s20, A20, n20, c20, rfl, z20, hx20⟩; have b20 : n20 ≤ 17179869185 := z20.le (Nat.le_trans (ln_add (zr.ln_le br) (zr.ln_le br)) (by omega)); have he20 : Ext v2 w20 := Ext.trans (by repeat (first | exact Ext.refl _ | assumption | apply Ext.drewN | apply Ext.drew | apply Ext.alloc)) hx20; clear f1 f2 f3 f4 a0 a1 a2 a3 a4; obtain ⟨f1, f2, f3, f4⟩ := (hb7.ext he20).two; obtain ⟨⟨a0, a1, a2, a3⟩, a4⟩ := (hb4.ext he20).four)
      | (go_at_call 13; refine (zint_Cmp z20.zi (by omega) (z9.zi.ext (by repeat (first | exact Ext.refl _ | assumption | apply Ext.drewN | apply Ext.drew | apply Ext.alloc))) (by omega)).mono ?_; rintro e w21 ⟨c, hc, hcl, hch, rfl, hx21⟩; have he21 : Ext v2 w21 := he20.trans hx21; clear f1 f2 f3 f4 a0 a1 a2 a3 a4; obtain ⟨f1, f2, f3, f4⟩ := (hb7.ext he21).two; obtain ⟨⟨a0, a1, a2, a3⟩, a4⟩ := (hb4.ext he21).four))
    clear f1 f2 f3 f4 a0 a1 a2 a3 a4
    have hcp : 0 < c ↔ q < r + r := by rw [hc.out]; exact scmp_pos
    have hcz : c = 0 ↔ r + r = q := by rw [hc.out]; exact scmp_zero
    have hcn : c < 0 ↔ r + r < q := by rw [hc.out]; exact scmp_neg
    have HCP := Lib.hid hcp
    have HCZ := Lib.hid hcz
    have HCN := Lib.hid hcn
    clear hcp hcz hcn hc
    have sz21 := he21.size
    rcases Int.lt_trichotomy c 0 with hcc | hcc | hcc
    · have h1 : ¬ 0 < c := by omega
      have h2 : (c == 0) = false := by simp; omega
      have HX := Lib.hid (HCN.out.1 hcc)
      clear hcc
      obtain ⟨f1, f2, f3, f4⟩ := (hb6.ext he21).two
      obtain ⟨i1, i2, i3, i4⟩ := (hb2.ext he21).two
      go_wp2_with fail
      refine bodyPost_ret (res_ie rfl rfl rfl ((hb2.ext he21).two_set _ _)) rfl ?_
      exact ⟨f, near_down LW.out HF.out (Or.inl HX.out), _, _, _, _, rfl, ((zf.ext he21).upd (by omega) (Upd.two _ _)).mono (by omega), (Upd.two _ _).ext (e2.trans he21) (by omega)⟩
    · have HX := Lib.hid (HCZ.out.1 hcc)
      subst hcc
      obtain ⟨f1, f2, f3, f4⟩ := (hb6.ext he21).two
      obtain ⟨i1, i2, i3, i4⟩ := (hb2.ext he21).two
      go_wp2_with fail
      refine bodyPost_ret (res_ie rfl rfl rfl ((hb2.ext he21).two_set _ _)) rfl ?_
      exact ⟨f, near_down LW.out HF.out (Or.inr ⟨HX.out, PAR.out⟩), _, _, _, _, rfl, ((zf.ext he21).upd (by omega) (Upd.two _ _)).mono (by omega), (Upd.two _ _).ext (e2.trans he21) (by omega)⟩
    · have HX := Lib.hid (HCP.out.1 hcc)
      obtain ⟨f1, f2, f3, f4⟩ := (hb6.ext he21).two
      go_upto_region 8 with (fail)
      go_region_with (first
        | (go_at_call 9; refine (zint_Of (v := 1) (by omega)).mono ?_; rintro e w5 ⟨s5, A5, n5, c5, rfl, z5, hx5⟩; have b5 : n5 ≤ 1 := z5.le (by decide +kernel); have he5 : Ext w21 w5 := Ext.trans (by repeat (first | exact Ext.refl _ | assumption | apply Ext.drewN | apply Ext.drew | apply Ext.alloc)) hx5; clear f1 f2 f3 f4; obtain ⟨f1, f2, f3, f4⟩ := (hb6.ext (he21.trans he5)).two)
        | (go_at_call 12; refine (zint_Add (zf.zi.ext (he21.trans he5)) (by omega) z5.zi (by omega)).mono ?_; rintro e w6 ⟨s6, A6, n6, c6, rfl, z6, hx6⟩; have he6 : Ext v2 w6 := he21.trans (he5.trans hx6); clear f1 f2 f3 f4; obtain ⟨f1, f2, f3, f4⟩ := (hb6.ext he6).two))
      all_goals
        clear f1 f2 f3 f4
        obtain ⟨wb, hwb⟩ : ∃ wb, (w6.setCell ⟨g6, 0, none⟩ (.bool s6)).setCell ⟨g6, 1, none⟩ (.slice A6 n6 c6) = wb := ⟨_, rfl⟩
        rw [hwb]
        have sz5 := he5.size
        have sz21 := he21.size
        have q6 : Bk wb g6 24 [.bool s6, .slice A6 n6 c6] := by rw [← hwb]; exact (hb6.ext he6).two_set _ _
        have q2 : Bk wb g2 24 [.bool false, .slice none 0 0] := by rw [← hwb]; exact (hb2.ext he6).two_far n26 _ _
        have y6 : Zr wb w5.heap.size s6 A6 n6 c6 (f + 1) := by rw [← hwb]; exact z6.upd (by omega) (Upd.two _ _)
        have eb : Ext w wb := by rw [← hwb]; exact (Upd.two _ _).ext (e2.trans he6) (by omega)
        clear hwb
        obtain ⟨f1, f2, f3, f4⟩ := q6.two
        obtain ⟨i1, i2, i3, i4⟩ := q2.two
        go_wp2_with fail
        refine bodyPost_ret (res_ie rfl rfl rfl (q2.two_set _ _)) rfl ?_
        exact ⟨f + 1, near_up LW.out HF.out (Or.inl HX.out), _, _, _, _, rfl, (y6.upd (by omega) (Upd.two _ _)).mono (by omega), (Upd.two _ _).ext eb (by omega)⟩
  · have bq : nq ≤ 17179869185 := zf.le (flo_ln0 LW.out.pos HF.out (Nat.le_trans (ln_mono LW.out.np) LX.out))
    have hnq : 0 < nq := by omega
    have hnqi : 0 < (nq : Int) := by omega
    have hfz : f.natAbs ≠ 0 := fun e => hf0 (by rw [zf.len]; unfold ln; rw [e]; rfl)
    obtain ⟨a, x0, rfl, hxk, hxb, hcx⟩ := hrd.get (i := 0) hnq
    have hpar := Lib.hid (word_odd hxk.out hfz)
    have hcx0 : v2.cell? a = some (.int .u64 (x0 : Int)) := by simpa [Addr.add] using hcx
    clear hcx hf0 hfz
    have hbit : (bits BinOp.and IntKind.u64 (x0 : Int) 1 == 1) = decide (x0 % 2 = 1) := by
      have e : bits BinOp.and IntKind.u64 (x0 : Int) 1 = ((x0 % 2 : Nat) : Int) := by
        show IntKind.u64.wrap ((BitVec.ofInt 64 (x0 : Int) &&& BitVec.ofInt 64 ((1 : Nat) : Int)).toNat : Int) = _
        rw [BitVec.toNat_and, ofInt_64 (by omega), ofInt_64 (by omega), Nat.and_one_is_mod, wrap_u64_nat, Nat.mod_eq_of_lt (by omega)]
      rw [e]
      by_cases h : x0 % 2 = 1
      · rw [h]; rfl
      · have h0 : x0 % 2 = 0 := by omega
        rw [h0]; rfl
    have HBIT := Lib.hid hbit
    clear hbit
    go_upto_region 6 with (fail)
    rw [HBIT.out]
    by_cases hodd : x0 % 2 = 1
    · have PAR : Hid (f % 2 = 1) := (show _ = _ by have := hpar.out; omega)
      rw [decide_eq_true hodd]
      clear hodd
      clear f1 f2 f3 f4
      obtain ⟨f1, f2, f3, f4⟩ := hb7.two
      obtain ⟨⟨a0, a1, a2, a3⟩, a4⟩ := hb4.four
      go_region_held3 (fun w' => w'.cell? ⟨g7, 0, none⟩ = some (.bool sr) ∧ w'.cell? ⟨g7, 1, none⟩ = some (.slice Ar nr cr) ∧ w'.cell? ⟨g4, 0, none⟩ = some (.bool s8) ∧ w'.cell? ⟨g4, 1, none⟩ = some (.slice A8 n8 c8) ∧ w'.cell? ⟨g4, 2, none⟩ = some (.bool s9) ∧ w'.cell? ⟨g4, 3, none⟩ = some (.slice A9 n9 c9)) (go_keep)
        (first
        | (go_at_call 12; refine (zint_Add (zr.zi.ext (by repeat (first | exact Ext.refl _ | assumption | apply Ext.drewN | apply Ext.drew | apply Ext.alloc))) (by omega) (zr.zi.ext (by repeat (first | exact Ext.refl _ | assumption | apply Ext.drewN | apply Ext.drew | apply Ext.alloc))) (by omega)).mono ?_; rintro e w20 ⟨s20, A20, n20, c20, rfl, z20, hx20⟩; have b20 : n20 ≤ 17179869185 := z20.le (Nat.le_trans (ln_add (zr.ln_le br) (zr.ln_le br)) (by omega)); have he20 : Ext v2 w20 := Ext.trans (by repeat (first | exact Ext.refl _ | assumption | apply Ext.drewN | apply Ext.drew | apply Ext.alloc)) hx20; clear f1 f2 f3 f4 a0 a1 a2 a3 a4; obtain ⟨f1, f2, f3, f4⟩ := (hb7.ext he20).two; obtain ⟨⟨a0, a1, a2, a3⟩, a4⟩ := (hb4.ext he20).four)
        | (go_at_call 13; refine (zint_Cmp z20.zi (by omega) (z9.zi.ext (by repeat (first | exact Ext.refl _ | assumption | apply Ext.drewN | apply Ext.drew | apply Ext.alloc))) (by omega)).mono ?_; rintro e w21 ⟨c, hc, hcl, hch, rfl, hx21⟩; have he21 : Ext v2 w21 := he20.trans hx21; clear f1 f2 f3 f4 a0 a1 a2 a3 a4; obtain ⟨f1, f2, f3, f4⟩ := (hb7.ext he21).two; obtain ⟨⟨a0, a1, a2, a3⟩, a4⟩ := (hb4.ext he21).four))
      clear f1 f2 f3 f4 a0 a1 a2 a3 a4
      have hcp : 0 < c ↔ q < r + r := by rw [hc.out]; exact scmp_pos
      have hcz : c = 0 ↔ r + r = q := by rw [hc.out]; exact scmp_zero
      have hcn : c < 0 ↔ r + r < q := by rw [hc.out]; exact scmp_neg
      have HCP := Lib.hid hcp
      have HCZ := Lib.hid hcz
      have HCN := Lib.hid hcn
      clear hcp hcz hcn hc
      have sz21 := he21.size
      rcases Int.lt_trichotomy c 0 with hcc | hcc | hcc
      · have h1 : ¬ 0 < c := by omega
        have h2 : (c == 0) = false := by simp; omega
        have HX := Lib.hid (HCN.out.1 hcc)
        clear hcc
        obtain ⟨f1, f2, f3, f4⟩ := (hb6.ext he21).two
        obtain ⟨i1, i2, i3, i4⟩ := (hb2.ext he21).two
        go_wp2_with fail
        refine bodyPost_ret (res_ie rfl rfl rfl ((hb2.ext he21).two_set _ _)) rfl ?_
        exact ⟨f, near_down LW.out HF.out (Or.inl HX.out), _, _, _, _, rfl, ((zf.ext he21).upd (by omega) (Upd.two _ _)).mono (by omega), (Upd.two _ _).ext (e2.trans he21) (by omega)⟩
      · have HX := Lib.hid (HCZ.out.1 hcc)
        subst hcc
        obtain ⟨f1, f2, f3, f4⟩ := (hb6.ext he21).two
        go_upto_region 8 with (fail)
        go_region_with (first
          | (go_at_call 9; refine (zint_Of (v := 1) (by omega)).mono ?_; rintro e w5 ⟨s5, A5, n5, c5, rfl, z5, hx5⟩; have b5 : n5 ≤ 1 := z5.le (by decide +kernel); have he5 : Ext w21 w5 := Ext.trans (by repeat (first | exact Ext.refl _ | assumption | apply Ext.drewN | apply Ext.drew | apply Ext.alloc)) hx5; clear f1 f2 f3 f4; obtain ⟨f1, f2, f3, f4⟩ := (hb6.ext (he21.trans he5)).two)
          | (go_at_call 12; refine (zint_Add (zf.zi.ext (he21.trans he5)) (by omega) z5.zi (by omega)).mono ?_; rintro e w6 ⟨s6, A6, n6, c6, rfl, z6, hx6⟩; have he6 : Ext v2 w6 := he21.trans (he5.trans hx6); clear f1 f2 f3 f4; obtain ⟨f1, f2, f3, f4⟩ := (hb6.ext he6).two))
        all_goals
          clear f1 f2 f3 f4
          obtain ⟨wb, hwb⟩ : ∃ wb, (w6.setCell ⟨g6, 0, none⟩ (.bool s6)).setCell ⟨g6, 1, none⟩ (.slice A6 n6 c6) = wb := ⟨_, rfl⟩
          rw [hwb]
          have sz5 := he5.size
          have sz21 := he21.size
          have q6 : Bk wb g6 24 [.bool s6, .slice A6 n6 c6] := by rw [← hwb]; exact (hb6.ext he6).two_set _ _
          have q2 : Bk wb g2 24 [.bool false, .slice none 0 0] := by rw [← hwb]; exact (hb2.ext he6).two_far n26 _ _
          have y6 : Zr wb w5.heap.size s6 A6 n6 c6 (f + 1) := by rw [← hwb]; exact z6.upd (by omega) (Upd.two _ _)
          have eb : Ext w wb := by rw [← hwb]; exact (Upd.two _ _).ext (e2.trans he6) (by omega)
          clear hwb
          obtain ⟨f1, f2, f3, f4⟩ := q6.two
          obtain ⟨i1, i2, i3, i4⟩ := q2.two
          go_wp2_with fail
          refine bodyPost_ret (res_ie rfl rfl rfl (q2.two_set _ _)) rfl ?_
          exact ⟨f + 1, near_up LW.out HF.out (Or.inr ⟨HX.out, PAR.out⟩), _, _, _, _, rfl, (y6.upd (by omega) (Upd.two _ _)).mono (by omega), (Upd.two _ _).ext eb (by omega)⟩
      · have HX := Lib.hid (HCP.out.1 hcc)
        obtain ⟨f1, f2, f3, f4⟩ := (hb6.ext he21).two
        go_upto_region 8 with (fail)
        go_region_with (first
          | (go_at_call 9; refine (zint_Of (v := 1) (by omega)).mono ?_; rintro e w5 ⟨s5, A5, n5, c5, rfl, z5, hx5⟩; have b5 : n5 ≤ 1 := z5.le (by decide +kernel); have he5 : Ext w21 w5 := Ext.trans (by repeat (first | exact Ext.refl _ | assumption | apply Ext.drewN | apply Ext.drew | apply Ext.alloc)) hx5; clear f1 f2 f3 f4; obtain ⟨f1, f2, f3, f4⟩ := (hb6.ext (he21.trans he5)).two)
          | (go_at_call 12; refine (zint_Add (zf.zi.ext (he21.trans he5)) (by omega) z5.zi (by omega)).mono ?_; rintro e w6 ⟨s6, A6, n6, c6, rfl, z6, hx6⟩; have he6 : Ext v2 w6 := he21.trans (he5.trans hx6); clear f1 f2 f3 f4; obtain ⟨f1, f2, f3, f4⟩ := (hb6.ext he6).two))
        all_goals
          clear f1 f2 f3 f4
          obtain ⟨wb, hwb⟩ : ∃ wb, (w6.setCell ⟨g6, 0, none⟩ (.bool s6)).setCell ⟨g6, 1, none⟩ (.slice A6 n6 c6) = wb := ⟨_, rfl⟩
          rw [hwb]
          have sz5 := he5.size
          have sz21 := he21.size
          have q6 : Bk wb g6 24 [.bool s6, .slice A6 n6 c6] := by rw [← hwb]; exact (hb6.ext he6).two_set _ _
          have q2 : Bk wb g2 24 [.bool false, .slice none 0 0] := by rw [← hwb]; exact (hb2.ext he6).two_far n26 _ _
          have y6 : Zr wb w5.heap.size s6 A6 n6 c6 (f + 1) := by rw [← hwb]; exact z6.upd (by omega) (Upd.two _ _)
          have eb : Ext w wb := by rw [← hwb]; exact (Upd.two _ _).ext (e2.trans he6) (by omega)
          clear hwb
          obtain ⟨f1, f2, f3, f4⟩ := q6.two
          obtain ⟨i1, i2, i3, i4⟩ := q2.two
          go_wp2_with fail
          refine bodyPost_ret (res_ie rfl rfl rfl (q2.two_set _ _)) rfl ?_
          exact ⟨f + 1, near_up LW.out HF.out (Or.inl HX.out), _, _, _, _, rfl, (y6.upd (by omega) (Upd.two _ _)).mono (by omega), (Upd.two _ _).ext eb (by omega)⟩
    · have PAR : Hid (f % 2 = 0) := (show _ = _ by have := hpar.out; omega)
      rw [decide_eq_false hodd]
      clear hodd
      clear f1 f2 f3 f4
      obtain ⟨f1, f2, f3, f4⟩ := hb7.two
      obtain ⟨⟨a0, a1, a2, a3⟩, a4⟩ := hb4.four
      go_region_held3 (fun w' => w'.cell? ⟨g7, 0, none⟩ = some (.bool sr) ∧ w'.cell? ⟨g7, 1, none⟩ = some (.slice Ar nr cr) ∧ w'.cell? ⟨g4, 0, none⟩ = some (.bool s8) ∧ w'.cell? ⟨g4, 1, none⟩ = some (.slice A8 n8 c8) ∧ w'.cell? ⟨g4, 2, none⟩ = some (.bool s9) ∧ w'.cell? ⟨g4, 3, none⟩ = some (.slice A9 n9 c9)) (go_keep)
        (first
        | (go_at_call 12; refine (zint_Add (zr.zi.ext (by repeat (first | exact Ext.refl _ | assumption | apply Ext.drewN | apply Ext.drew | apply Ext.alloc))) (by omega) (zr.zi.ext (by repeat (first | exact Ext.refl _ | assumption | apply Ext.drewN | apply Ext.drew | apply Ext.alloc))) (by omega)).mono ?_; rintro e w20 ⟨s20, A20, n20, c20, rfl, z20, hx20⟩; have b20 : n20 ≤ 17179869185 := z20.le (Nat.le_trans (ln_add (zr.ln_le br) (zr.ln_le br)) (by omega)); have he20 : Ext v2 w20 := Ext.trans (by repeat (first | exact Ext.refl _ | assumption | apply Ext.drewN | apply Ext.drew | apply Ext.alloc)) hx20; clear f1 f2 f3 f4 a0 a1 a2 a3 a4; obtain ⟨f1, f2, f3, f4⟩ := (hb7.ext he20).two; obtain ⟨⟨a0, a1, a2, a3⟩, a4⟩ := (hb4.ext he20).four)
        | (go_at_call 13; refine (zint_Cmp z20.zi (by omega) (z9.zi.ext (by repeat (first | exact Ext.refl _ | assumption | apply Ext.drewN | apply Ext.drew | apply Ext.alloc))) (by omega)).mono ?_; rintro e w21 ⟨c, hc, hcl, hch, rfl, hx21⟩; have he21 : Ext v2 w21 := he20.trans hx21; clear f1 f2 f3 f4 a0 a1 a2 a3 a4; obtain ⟨f1, f2, f3, f4⟩ := (hb7.ext he21).two; obtain ⟨⟨a0, a1, a2, a3⟩, a4⟩ := (hb4.ext he21).four))
      clear f1 f2 f3 f4 a0 a1 a2 a3 a4
      have hcp : 0 < c ↔ q < r + r := by rw [hc.out]; exact scmp_pos
      have hcz : c = 0 ↔ r + r = q := by rw [hc.out]; exact scmp_zero
      have hcn : c < 0 ↔ r + r < q := by rw [hc.out]; exact scmp_neg
      have HCP := Lib.hid hcp
      have HCZ := Lib.hid hcz
      have HCN := Lib.hid hcn
      clear hcp hcz hcn hc
      have sz21 := he21.size
      rcases Int.lt_trichotomy c 0 with hcc | hcc | hcc
      · have h1 : ¬ 0 < c := by omega
        have h2 : (c == 0) = false := by simp; omega
        have HX := Lib.hid (HCN.out.1 hcc)
        clear hcc
        obtain ⟨f1, f2, f3, f4⟩ := (hb6.ext he21).two
        obtain ⟨i1, i2, i3, i4⟩ := (hb2.ext he21).two
        go_wp2_with fail
        refine bodyPost_ret (res_ie rfl rfl rfl ((hb2.ext he21).two_set _ _)) rfl ?_
        exact ⟨f, near_down LW.out HF.out (Or.inl HX.out), _, _, _, _, rfl, ((zf.ext he21).upd (by omega) (Upd.two _ _)).mono (by omega), (Upd.two _ _).ext (e2.trans he21) (by omega)⟩
      · have HX := Lib.hid (HCZ.out.1 hcc)
        subst hcc
        obtain ⟨f1, f2, f3, f4⟩ := (hb6.ext he21).two
        obtain ⟨i1, i2, i3, i4⟩ := (hb2.ext he21).two
        go_wp2_with fail
        refine bodyPost_ret (res_ie rfl rfl rfl ((hb2.ext he21).two_set _ _)) rfl ?_
        exact ⟨f, near_down LW.out HF.out (Or.inr ⟨HX.out, PAR.out⟩), _, _, _, _, rfl, ((zf.ext he21).upd (by omega) (Upd.two _ _)).mono (by omega), (Upd.two _ _).ext (e2.trans he21) (by omega)⟩
      · have HX := Lib.hid (HCP.out.1 hcc)
        obtain ⟨f1, f2, f3, f4⟩ := (hb6.ext he21).two
        go_upto_region 8 with (fail)
        go_region_with (first
          | (go_at_call 9; refine (zint_Of (v := 1) (by omega)).mono ?_; rintro e w5 ⟨s5, A5, n5, c5, rfl, z5, hx5⟩; have b5 : n5 ≤ 1 := z5.le (by decide +kernel); have he5 : Ext w21 w5 := Ext.trans (by repeat (first | exact Ext.refl _ | assumption | apply Ext.drewN | apply Ext.drew | apply Ext.alloc)) hx5; clear f1 f2 f3 f4; obtain ⟨f1, f2, f3, f4⟩ := (hb6.ext (he21.trans he5)).two)
          | (go_at_call 12; refine (zint_Add (zf.zi.ext (he21.trans he5)) (by omega) z5.zi (by omega)).mono ?_; rintro e w6 ⟨s6, A6, n6, c6, rfl, z6, hx6⟩; have he6 : Ext v2 w6 := he21.trans (he5.trans hx6); clear f1 f2 f3 f4; obtain ⟨f1, f2, f3, f4⟩ := (hb6.ext he6).two))
        all_goals
          clear f1 f2 f3 f4
          obtain ⟨wb, hwb⟩ : ∃ wb, (w6.setCell ⟨g6, 0, none⟩ (.bool s6)).setCell ⟨g6, 1, none⟩ (.slice A6 n6 c6) = wb := ⟨_, rfl⟩
          rw [hwb]
          have sz5 := he5.size
          have sz21 := he21.size
          have q6 : Bk wb g6 24 [.bool s6, .slice A6 n6 c6] := by rw [← hwb]; exact (hb6.ext he6).two_set _ _
          have q2 : Bk wb g2 24 [.bool false, .slice none 0 0] := by rw [← hwb]; exact (hb2.ext he6).two_far n26 _ _
          have y6 : Zr wb w5.heap.size s6 A6 n6 c6 (f + 1) := by rw [← hwb]; exact z6.upd (by omega) (Upd.two _ _)
          have eb : Ext w wb := by rw [← hwb]; exact (Upd.two _ _).ext (e2.trans he6) (by omega)
          clear hwb
          obtain ⟨f1, f2, f3, f4⟩ := q6.two
          obtain ⟨i1, i2, i3, i4⟩ := q2.two
          go_wp2_with fail
          refine bodyPost_ret (res_ie rfl rfl rfl (q2.two_set _ _)) rfl ?_
          exact ⟨f + 1, near_up LW.out HF.out (Or.inl HX.out), _, _, _, _, rfl, (y6.upd (by omega) (Upd.two _ _)).mono (by omega), (Upd.two _ _).ext eb (by omega)⟩
end Go.Proofs.Ythbogoecoebefaa
