/- integers: sums, comparisons, divisions -/
import Derived.Test.YtmaconeeonkdgaaInt
namespace Go.Proofs.Ytmaconeeonkdgaa
open Go.RowKit

theorem res_ie {w : World} {g : Nat} {t : TypeId} {a b : Value} {fn : Func} {s u : Tmp} (hf : fn.results = #[.cell s 27, .tmp u]) {tmps : Array Value} (hs : tmps.getD s undef = .pointer (some ⟨g, 0, none⟩)) {v : Value} (hu : tmps.getD u undef = v) (h : Bk w g t [a, b]) :
    (results fn tmps).run Try.prog w = .ok (.tuple #[.agg #[a, b], v]) w := by
  obtain ⟨h1, h2, _, _⟩ := h.two
  have hs2 : tmps[s]?.getD undef = .pointer (some ⟨g, 0, none⟩) := by simpa using hs
  have hu2 : tmps[u]?.getD undef = v := by simpa using hu
  simp [results, hf, hs2, hu2, loadVar, loadCells, loadCellsFrom, go_sem, h1, h2]
theorem res_iie {w : World} {g g' : Nat} {t t' : TypeId} {a b c d : Value} {fn : Func} {s s' u : Tmp} (hf : fn.results = #[.cell s 27, .cell s' 27, .tmp u]) {tmps : Array Value} (hs : tmps.getD s undef = .pointer (some ⟨g, 0, none⟩)) (hs' : tmps.getD s' undef = .pointer (some ⟨g', 0, none⟩)) {v : Value} (hu : tmps.getD u undef = v) (h : Bk w g t [a, b]) (h' : Bk w g' t' [c, d]) :
    (results fn tmps).run Try.prog w = .ok (.tuple #[.agg #[a, b], .agg #[c, d], v]) w := by
  obtain ⟨h1, h2, _, _⟩ := h.two
  obtain ⟨h3, h4, _, _⟩ := h'.two
  have hs2 : tmps[s]?.getD undef = .pointer (some ⟨g, 0, none⟩) := by simpa using hs
  have hs3 : tmps[s']?.getD undef = .pointer (some ⟨g', 0, none⟩) := by simpa using hs'
  have hu2 : tmps[u]?.getD undef = v := by simpa using hu
  simp [results, hf, hs2, hs3, hu2, loadVar, loadCells, loadCellsFrom, go_sem, h1, h2, h3, h4]
theorem Bk.two_far {w : World} {g g' : Nat} {t : TypeId} {l : List Value} (h : Bk w g t l) (hne : g ≠ g') (u v : Value) : Bk ((w.setCell ⟨g', 0, none⟩ u).setCell ⟨g', 1, none⟩ v) g t l := (h.far (p := ⟨g', 0, none⟩) hne u).far (p := ⟨g', 1, none⟩) hne v

set_option maxHeartbeats 1000000 in
theorem zint_Add {w : World} {s t : Bool} {A B : Option Addr} {n cap m cap' : Nat} {x y : Int} (hx : Zi w s A n cap x) (hl : n ≤ 274877906944) (hy : Zi w t B m cap' y) (hl' : m ≤ 274877906944) :
    Calls Try.prog 24 #[.agg #[.bool s, .slice A n cap], .agg #[.bool t, .slice B m cap']] w (RetZ w (x + y)) := by
  obtain ⟨xs, hr, rfl⟩ := hx
  obtain ⟨ys, hq, rfl⟩ := hy
  go_enter Try.func24, Try.ntmps24
  go_upto_region 1 with (fail)
  obtain ⟨g, g2, g3, wa, hg3, hg2, hg, hwa, hb1, hb2, hb3, hea, l12, l23, l3, n12, n21, n13, n31, n23, n32⟩ := boxes3 w 27 27 27 (.bool s) (.slice A n cap) (.bool t) (.slice B m cap') (.bool false) (.slice none 0 0)
  rw [hg3, hg2, hg, hwa]
  have hgw : w.heap.size ≤ g := Nat.le_of_eq hg
  clear hwa hg hg2 hg3
  obtain ⟨f1, f2, f3, f4⟩ := hb1.two
  obtain ⟨h1, h2, h3, h4⟩ := hb2.two
  obtain ⟨k1, k2, k3, k4⟩ := hb3.two
  by_cases hst : s = t
  · have bs : (s == t) = true := by rw [hst]; cases t <;> rfl
    go_upto_region 2 with (fail)
    go_region_held3 (fun w' => w'.cell? ⟨g, 0, none⟩ = some (.bool s) ∧ w'.cell? ⟨g, 1, none⟩ = some (.slice A n cap) ∧ w'.cell? ⟨g2, 0, none⟩ = some (.bool t) ∧ w'.cell? ⟨g2, 1, none⟩ = some (.slice B m cap')) (go_keep)
      (first
      | (go_at_call 64; refine (nat_Add (hr.ext (by repeat (first | exact Ext.refl _ | assumption | apply Ext.drewN | apply Ext.drew | apply Ext.alloc))) (by omega) (hq.ext (by repeat (first | exact Ext.refl _ | assumption | apply Ext.drewN | apply Ext.drew | apply Ext.alloc))) (by omega)).mono ?_; rintro e w1 ⟨A1, n1, c1, rfl, hn1, hr1, ho1, hx1⟩; have he1 : Ext wa w1 := Ext.trans (by repeat (first | exact Ext.refl _ | assumption | apply Ext.drewN | apply Ext.drew | apply Ext.alloc)) hx1; have hb1 := hb1.ext he1; have hb2 := hb2.ext he1; have hb3 := hb3.ext he1; obtain ⟨f1, f2, f3, f4⟩ := hb1.two; obtain ⟨h1, h2, h3, h4⟩ := hb2.two; obtain ⟨k1, k2, k3, k4⟩ := hb3.two)
      | (go_at_call 55; refine (zint_of hn1.out).mono ?_; rintro e w2 ⟨s', rfl, hs', hx2⟩; have hd1 := hb1.ext hx2; have hd2 := hb2.ext hx2; have hd3 := hb3.ext hx2; obtain ⟨f1, f2, f3, f4⟩ := hd1.two; obtain ⟨h1, h2, h3, h4⟩ := hd2.two; obtain ⟨k1, k2, k3, k4⟩ := hd3.two))
    go_wp2_with fail
    refine bodyPost_ret (res_int rfl rfl (hd3.two_set _ _)) rfl ?_
    exact fin_int hd3 ((Zr_of hs'.out hn1.out ho1 (by rw [sg_add, hst])).ext hx2) (by first | omega | (simp; omega)) (by omega) (hea.trans (he1.trans hx2))
  · have bs : (s == t) = false := by cases s <;> cases t <;> simp_all
    have ht : Hid (t = !s) := by show _ = _; cases s <;> cases t <;> simp_all
    clear hst
    go_wp2_with fail
    refine (nat_Cmp (hr.ext hea) (by omega) (hq.ext hea) (by omega)).mono ?_
    rintro e w1 ⟨c, hc, hcl, hch, rfl, hx1⟩
    have hb1 := hb1.ext hx1
    have hb2 := hb2.ext hx1
    have hb3 := hb3.ext hx1
    have he1 := hea.trans hx1
    have hsz := hx1.size
    clear f1 f2 f3 f4 h1 h2 h3 h4 k1 k2 k3 k4
    obtain ⟨f1, f2, f3, f4⟩ := hb1.two
    obtain ⟨h1, h2, h3, h4⟩ := hb2.two
    by_cases hlt : c < 0
    · have hle : nv xs ≤ nv ys := by rw [hc.out] at hlt; exact Nat.le_of_lt (cmp3_neg.1 hlt)
      have HLE := Lib.hid hle
      clear hle
      go_upto_region 5 with (fail)
      obtain ⟨wb, hwb⟩ : ∃ wb, (((w1.setCell ⟨g, 0, none⟩ (.bool t)).setCell ⟨g, 1, none⟩ (.slice B m cap')).setCell ⟨g2, 0, none⟩ (.bool s)).setCell ⟨g2, 1, none⟩ (.slice A n cap) = wb := ⟨_, rfl⟩
      rw [hwb]
      have hd1 : Bk wb g 27 [.bool t, .slice B m cap'] := by rw [← hwb]; exact (hb1.two_set _ _).two_far n12 _ _
      have hd2 : Bk wb g2 27 [.bool s, .slice A n cap] := by rw [← hwb]; exact (hb2.two_far n21 _ _).two_set _ _
      have hd3 : Bk wb g3 27 [.bool false, .slice none 0 0] := by rw [← hwb]; exact (hb3.two_far n31 _ _).two_far n32 _ _
      have heb : Ext w wb := by
        rw [← hwb]
        exact (Upd.two _ _).ext ((Upd.two _ _).ext he1 hgw) (by omega)
      have hszb : wb.heap.size = w1.heap.size := by rw [← hwb]; simp [World.setCell]
      clear hwb f1 f2 f3 f4 h1 h2 h3 h4
      obtain ⟨f1, f2, f3, f4⟩ := hd1.two
      obtain ⟨h1, h2, h3, h4⟩ := hd2.two
      go_wp2_with fail
      refine (nat_Sub (hq.ext heb) (by omega) (hr.ext heb) (by omega) HLE.out).mono ?_
      rintro e w2 ⟨A2, n2, c2, rfl, hn2, hr2, ho2, hx2⟩
      obtain ⟨f1, f2, f3, f4⟩ := (hd1.ext hx2).two
      have hd3 := hd3.ext hx2
      go_wp2_with fail
      refine (zint_of hn2.out).mono ?_
      rintro e w3 ⟨s', rfl, hs', hx3⟩
      have hd3 := hd3.ext hx3
      obtain ⟨k1, k2, k3, k4⟩ := hd3.two
      go_wp2_with fail
      refine bodyPost_ret (res_int rfl rfl (hd3.two_set _ _)) rfl ?_
      exact fin_int hd3 ((Zr_of hs'.out hn2.out ho2 (by rw [sg_sub HLE.out, ht.out, Bool.not_not, Int.add_comm])).ext hx3) (by omega) (by omega) (heb.trans (hx2.trans hx3))
    · have hle : nv ys ≤ nv xs := by rw [hc.out] at hlt; exact Nat.le_of_not_lt (fun h => hlt (cmp3_neg.2 h))
      have HLE := Lib.hid hle
      clear hle
      go_wp2_with fail
      refine (nat_Sub (hr.ext he1) (by omega) (hq.ext he1) (by omega) HLE.out).mono ?_
      rintro e w2 ⟨A2, n2, c2, rfl, hn2, hr2, ho2, hx2⟩
      obtain ⟨f1, f2, f3, f4⟩ := (hb1.ext hx2).two
      have hd3 := hb3.ext hx2
      go_wp2_with fail
      refine (zint_of hn2.out).mono ?_
      rintro e w3 ⟨s', rfl, hs', hx3⟩
      have hd3 := hd3.ext hx3
      obtain ⟨k1, k2, k3, k4⟩ := hd3.two
      go_wp2_with fail
      refine bodyPost_ret (res_int rfl rfl (hd3.two_set _ _)) rfl ?_
      exact fin_int hd3 ((Zr_of hs'.out hn2.out ho2 (by rw [sg_sub HLE.out, ht.out])).ext hx3) (by omega) (by omega) (he1.trans (hx2.trans hx3))

theorem zint_Sub {w : World} {s t : Bool} {A B : Option Addr} {n cap m cap' : Nat} {x y : Int} (hx : Zi w s A n cap x) (hl : n ≤ 274877906944) (hy : Zi w t B m cap' y) (hl' : m ≤ 274877906944) :
    Calls Try.prog 16 #[.agg #[.bool s, .slice A n cap], .agg #[.bool t, .slice B m cap']] w (RetZ w (x - y)) := by
  go_enter Try.func16, Try.ntmps16
  go_upto_region 1 with (fail)
  obtain ⟨g, g2, g3, wa, hg3, hg2, hg, hwa, hb1, hb2, hb3, hea, l12, l23, l3, n12, n21, n13, n31, n23, n32⟩ := boxes3 w 27 27 27 (.bool s) (.slice A n cap) (.bool t) (.slice B m cap') (.bool false) (.slice none 0 0)
  rw [hg3, hg2, hg, hwa]
  have hgw : w.heap.size ≤ g := Nat.le_of_eq hg
  clear hwa hg hg2 hg3
  obtain ⟨f1, f2, f3, f4⟩ := hb1.two
  obtain ⟨h1, h2, h3, h4⟩ := hb2.two
  obtain ⟨k1, k2, k3, k4⟩ := hb3.two
  go_wp2_with fail
  refine (zint_Add (hx.ext hea) hl (hy.not.ext hea) hl').mono ?_
  rintro e w1 ⟨s1, A1, n1, c1, rfl, z1, hx1⟩
  have hd3 := hb3.ext hx1
  clear f1 f2 f3 f4 h1 h2 h3 h4 k1 k2 k3 k4
  obtain ⟨k1, k2, k3, k4⟩ := hd3.two
  go_wp2_with fail
  refine bodyPost_ret (res_int rfl rfl (hd3.two_set _ _)) rfl ?_
  exact fin_int hd3 (z1.cast Int.sub_eq_add_neg.symm) (by omega) (by omega) (hea.trans hx1)

theorem zint_MulAdd {w : World} {s t u : Bool} {A B C : Option Addr} {n cap m cap' k cap'' : Nat} {x y z : Int} (hx : Zi w s A n cap x) (hl : n ≤ 68719476736) (hy : Zi w t B m cap' y) (hl' : m ≤ 68719476736) (hz : Zi w u C k cap'' z) (hl'' : k ≤ 68719476736) :
    Calls Try.prog 54 #[.agg #[.bool s, .slice A n cap], .agg #[.bool t, .slice B m cap'], .agg #[.bool u, .slice C k cap'']] w (RetZ w (x * y + z)) := by
  have lx := Nat.le_trans hx.ln hl
  have ly := Nat.le_trans hy.ln hl'
  go_enter Try.func54, Try.ntmps54
  go_upto_region 1 with (fail)
  obtain ⟨g, g2, g3, g4, wa, hg4, hg3, hg2, hg, hwa, hb1, hb2, hb3, hb4, hea, l12, l23, l34, l4, n12, n21, n13, n31, n23, n32, n14, n41, n24, n42, n34, n43⟩ := boxes4 w 27 27 27 27 (.bool s) (.slice A n cap) (.bool t) (.slice B m cap') (.bool u) (.slice C k cap'') (.bool false) (.slice none 0 0)
  rw [hg4, hg3, hg2, hg, hwa]
  have hgw : w.heap.size ≤ g := Nat.le_of_eq hg
  clear hwa hg hg2 hg3 hg4
  obtain ⟨f1, f2, f3, f4⟩ := hb1.two
  obtain ⟨h1, h2, h3, h4⟩ := hb2.two
  obtain ⟨i1, i2, i3, i4⟩ := hb3.two
  obtain ⟨k1, k2, k3, k4⟩ := hb4.two
  go_region_held3 (fun w' => w'.cell? ⟨g, 0, none⟩ = some (.bool s) ∧ w'.cell? ⟨g, 1, none⟩ = some (.slice A n cap) ∧ w'.cell? ⟨g2, 0, none⟩ = some (.bool t) ∧ w'.cell? ⟨g2, 1, none⟩ = some (.slice B m cap') ∧ w'.cell? ⟨g3, 0, none⟩ = some (.bool u) ∧ w'.cell? ⟨g3, 1, none⟩ = some (.slice C k cap'')) (go_keep)
    (first
    | (go_at_call 17; refine (zint_Mul (hx.ext (by repeat (first | exact Ext.refl _ | assumption | apply Ext.drewN | apply Ext.drew | apply Ext.alloc))) hl (hy.ext (by repeat (first | exact Ext.refl _ | assumption | apply Ext.drewN | apply Ext.drew | apply Ext.alloc))) hl').mono ?_; rintro e w1 ⟨s1, A1, n1, c1, rfl, z1, hx1⟩; have q1 : n1 ≤ 274877906944 := (Nat.le_trans (z1.le (ln_mul lx ly)) (by omega)); have he1 : Ext wa w1 := Ext.trans (by repeat (first | exact Ext.refl _ | assumption | apply Ext.drewN | apply Ext.drew | apply Ext.alloc)) hx1; have hb1 := hb1.ext he1; have hb2 := hb2.ext he1; have hb3 := hb3.ext he1; have hb4 := hb4.ext he1; obtain ⟨f1, f2, f3, f4⟩ := hb1.two; obtain ⟨h1, h2, h3, h4⟩ := hb2.two; obtain ⟨i1, i2, i3, i4⟩ := hb3.two; obtain ⟨k1, k2, k3, k4⟩ := hb4.two)
    | (go_at_call 24; refine (zint_Add z1.zi q1 (hz.ext (hea.trans he1)) (by omega)).mono ?_; rintro e w2 ⟨s2, A2, n2, c2, rfl, z2, hx2⟩; have hb1 := hb1.ext hx2; have hb2 := hb2.ext hx2; have hb3 := hb3.ext hx2; have hb4 := hb4.ext hx2; obtain ⟨f1, f2, f3, f4⟩ := hb1.two; obtain ⟨h1, h2, h3, h4⟩ := hb2.two; obtain ⟨i1, i2, i3, i4⟩ := hb3.two; obtain ⟨k1, k2, k3, k4⟩ := hb4.two))
  go_wp2_with fail
  have hsz := he1.size
  refine bodyPost_ret (res_int rfl rfl (hb4.two_set _ _)) rfl ?_
  exact fin_int hb4 z2 (by omega) (by omega) (hea.trans (he1.trans hx2))

set_option maxHeartbeats 1000000 in
theorem zint_Cmp {w : World} {s t : Bool} {A B : Option Addr} {n cap m cap' : Nat} {x y : Int} (hx : Zi w s A n cap x) (hl : n ≤ 68719476736) (hy : Zi w t B m cap' y) (hl' : m ≤ 68719476736) :
    Calls Try.prog 23 #[.agg #[.bool s, .slice A n cap], .agg #[.bool t, .slice B m cap']] w (SgnP (scmp x y) w) := by
  go_enter Try.func23, Try.ntmps23
  go_upto_region 1 with (fail)
  obtain ⟨g, g2, wa, hg2, hg, hwa, hb1, hb2, hea, l12, l2, n12, n21⟩ := boxes2 w 27 27 (.bool s) (.slice A n cap) (.bool t) (.slice B m cap')
  rw [hg2, hg, hwa]
  have hgw : w.heap.size ≤ g := Nat.le_of_eq hg
  clear hwa hg hg2
  obtain ⟨f1, f2, f3, f4⟩ := hb1.two
  obtain ⟨h1, h2, h3, h4⟩ := hb2.two
  go_region_held3 (fun w' => w'.cell? ⟨g, 0, none⟩ = some (.bool s) ∧ w'.cell? ⟨g, 1, none⟩ = some (.slice A n cap) ∧ w'.cell? ⟨g2, 0, none⟩ = some (.bool t) ∧ w'.cell? ⟨g2, 1, none⟩ = some (.slice B m cap')) (go_keep)
    (first
    | (go_at_call 53; (with_reducible refine (zint_Sign (hx.ext (hea.trans (by repeat (first | exact Ext.refl _ | assumption | apply Ext.drewN | apply Ext.drew | apply Ext.alloc)))) hl).mono ?_); rintro e w2 ⟨c, hc, hcl, hch, rfl, hx2⟩; have he2 : Ext wa w2 := Ext.trans (by repeat (first | exact Ext.refl _ | assumption | apply Ext.drewN | apply Ext.drew | apply Ext.alloc)) hx2; obtain ⟨f1, f2, f3, f4⟩ := (hb1.ext he2).two; obtain ⟨h1, h2, h3, h4⟩ := (hb2.ext he2).two)
    | (go_at_call 53; (with_reducible refine (zint_Sign (hy.ext (hea.trans (by repeat (first | exact Ext.refl _ | assumption | apply Ext.drewN | apply Ext.drew | apply Ext.alloc)))) hl').mono ?_); rintro e w2 ⟨d, hd, hdl, hdh, rfl, hx2⟩; have he2 : Ext wa w2 := Ext.trans (by repeat (first | exact Ext.refl _ | assumption | apply Ext.drewN | apply Ext.drew | apply Ext.alloc)) hx2; obtain ⟨f1, f2, f3, f4⟩ := (hb1.ext he2).two; obtain ⟨h1, h2, h3, h4⟩ := (hb2.ext he2).two))
  all_goals
    have e2 := hea.trans he2
    clear hx2
    have p1 : c < 0 ↔ x < 0 := by rw [hc.out]; exact scmp_neg
    have p2 : c = 0 ↔ x = 0 := by rw [hc.out]; exact scmp_zero
    have p3 : d < 0 ↔ y < 0 := by rw [hd.out]; exact scmp_neg
    have p4 : d = 0 ↔ y = 0 := by rw [hd.out]; exact scmp_zero
    have hlt : c < d → x < y := by omega
    have hgt : d < c → y < x := by omega
    have H1 := Lib.hid p1
    have H2 := Lib.hid p2
    have H3 := Lib.hid p3
    have H4 := Lib.hid p4
    clear p1 p2 p3 p4
    rcases Int.lt_trichotomy c d with h | h | h
    · have bn : (c != d) = true := by simp; omega
      have HL := Lib.hid (hlt h)
      clear hlt hgt
      go_wp2_with fail
      go_ret
      exact ⟨-1, (show _ = _ by rw [scmp, if_pos HL.out]), by omega, by omega, rfl, e2⟩
    · subst h
      have bn : (c != c) = false := by simp
      clear hlt hgt
      obtain ⟨xs, hr, hxv⟩ := hx
      obtain ⟨ys, hq, hyv⟩ := hy
      have HX := Lib.hid hxv
      have HY := Lib.hid hyv
      clear hxv hyv
      go_wp2_with fail
      refine (nat_Cmp (hr.ext e2) (by omega) (hq.ext e2) (by omega)).mono ?_
      rintro e w3 ⟨k, hk, hkl, hkh, rfl, hx3⟩
      have fin : c * k = scmp x y := by
        have ax : x.natAbs = nv xs := by rw [← HX.out, sg_abs]
        have ay : y.natAbs = nv ys := by rw [← HY.out, sg_abs]
        have k1 : k < 0 ↔ nv xs < nv ys := by rw [hk.out]; exact cmp3_neg
        have k2 : 0 < k ↔ nv ys < nv xs := by rw [hk.out]; exact cmp3_pos
        have p1 := H1.out
        have p2 := H2.out
        have p3 := H3.out
        have p4 := H4.out
        have hc3 : c = -1 ∨ c = 0 ∨ c = 1 := by omega
        have hk3 : k = -1 ∨ k = 0 ∨ k = 1 := by omega
        rcases hc3 with rfl | rfl | rfl
        · rcases hk3 with rfl | rfl | rfl <;> (unfold scmp; split <;> (try split) <;> omega)
        · unfold scmp; split <;> (try split) <;> omega
        · rcases hk3 with rfl | rfl | rfl <;> (unfold scmp; split <;> (try split) <;> omega)
      have FIN := Lib.hid fin
      clear fin
      have hc3 : c = -1 ∨ c = 0 ∨ c = 1 := by omega
      rcases hc3 with rfl | rfl | rfl
      · go_wp2_with fail
        go_ret
        exact ⟨-k, (show _ = _ by rw [← FIN.out]; omega), by omega, by omega, rfl, e2.trans hx3⟩
      · go_wp2_with fail
        go_ret
        exact ⟨0, (show _ = _ by rw [← FIN.out]; omega), by omega, by omega, rfl, e2.trans hx3⟩
      · go_wp2_with fail
        go_ret
        exact ⟨k, (show _ = _ by rw [← FIN.out]; omega), by omega, by omega, rfl, e2.trans hx3⟩
    · have bn : (c != d) = true := by simp; omega
      have hnl : ¬ c < d := by omega
      have HG := Lib.hid (hgt h)
      clear hlt hgt
      go_wp2_with fail
      go_ret
      exact ⟨1, (show _ = _ by have := HG.out; rw [scmp, if_neg (by omega), if_neg (by omega)]), by omega, by omega, rfl, e2⟩
end Go.Proofs.Ytmaconeeonkdgaa
