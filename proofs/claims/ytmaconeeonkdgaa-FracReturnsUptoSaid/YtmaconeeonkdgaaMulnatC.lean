/- Contracts of package mulnat, the third part: product and halves, which call each other; Mul, Square, Word. -/
import Derived.Test.YtmaconeeonkdgaaMulnatB
namespace Go.Proofs.Ytmaconeeonkdgaa
open Go.RowKit

def ProdP (w : World) (x y : Nat) (e : Ending) (w' : World) : Prop := ∃ k, Hid (k = (wd x).length + (wd y).length) ∧ NewP w (x * y) k e w'
/-- what product does below the size N -/
def ProdBelow (N : Nat) : Prop := ∀ (w : World) (A B : Option Addr) (n cap m cap' : Nat) (xs ys : List Nat), Rd w A n cap xs → Rd w B m cap' ys → n + m < N → n + m ≤ 274877906944 →
  Calls Try.prog 81 #[.slice A n cap, .slice B m cap'] w (ProdP w (nv xs) (nv ys))

theorem NewP.rd {w' : World} {g n : Nat} {zs : List Nat} (hb : Bk w' g 47 (zs.map W64)) (hw : Wf zs) (hl : zs.length = n) (hn : n ≤ 1099511627776) : Rd w' (some ⟨g, 0, none⟩) n n zs := by
  have := hb.rd hw (o := 0) (n := n) (cap := n) (Nat.le_refl _) (by omega) (by rw [len_maxLen]; omega)
  rwa [List.drop_zero, List.take_of_length_le (by omega)] at this

theorem Upd.then_new {g k : Nat} {w a b : World} (h : Upd g w a) (e : Upd k a b) (hk : w.heap.size ≤ k) : Upd g w b :=
  ⟨⟨e.by_.os.trans h.by_.os, e.by_.tape.trans h.by_.tape, e.by_.output.trans h.by_.output, Nat.le_trans h.by_.size e.by_.size,
    fun i hi hne => (e.by_.block i (Nat.lt_of_lt_of_le hi h.by_.size) (fun e' => by have := Option.some.inj e'; omega)).trans (h.by_.block i hi hne)⟩⟩
theorem Rd.drop_some {w : World} {a : Addr} {n cap : Nat} {xs : List Nat} (h : Rd w (some a) n cap xs) {l : Nat} (hl : l < n) : Rd w (some (a.add l)) (n - l) (cap - l) (xs.drop l) := by
  have hc := h.rv.le
  have := h.cut (l := l) (k := n) (m := cap) (by omega) (Nat.le_refl _) hc (Nat.le_refl _)
  rw [if_neg (by omega), Option.map_some, List.take_of_length_le (by rw [h.len]; omega)] at this
  exact this
theorem Rd.empty {w : World} {A : Option Addr} {n cap : Nat} {xs : List Nat} (h : Rd w A n cap xs) : Rd w A 0 0 [] := by
  have := h.take (k := 0) (m := 0) (Nat.zero_le _) (Nat.le_refl _) (Nat.zero_le _)
  simpa using this

def HalfR (w : World) (h r : Nat) (xs : List Nat) (u v : Value) (wc : World) : Prop :=
  ∃ A0 A1 c0 c1, u = .slice A0 h c0 ∧ v = .slice A1 r c1 ∧ Rd wc A0 h c0 (xs.take h) ∧ Rd wc A1 r c1 (xs.drop h) ∧ Ext w wc
set_option maxHeartbeats 4000000 in
theorem mul_halves {N : Nat} (IH : ProdBelow N) {w : World} {g : Nat} {A B : Option Addr} {n m : Nat} {zs xs ys : List Nat} (hz : Bk w g 47 (zs.map W64)) (hzz : zs = List.replicate (n + m) 0)
    (hx : Rd w A n n xs) (hy : Rd w B m m ys) (hna : ∀ a, A = some a → a.block ≠ g) (hnb : ∀ a, B = some a → a.block ≠ g) (hN : n + m = N) (hN2 : N ≤ 274877906944) (hm : 24 ≤ m) (hmn : m ≤ n) (hnm : n < 2 * m) :
    Calls Try.prog 103 #[.slice (some ⟨g, 0, none⟩) N N, .slice A n n, .slice B m m] w (AddP g zs (nv xs * nv ys) w) := by
  have HI := Lib.hid IH
  have HZZ := Lib.hid hzz
  clear IH hzz
  have hlx := Lib.hid hx.len
  have hly := Lib.hid hy.len
  obtain ⟨hf, hh⟩ : ∃ hf, hf = (n + 1) / 2 := ⟨_, rfl⟩
  have hh1 : n ≤ 2 * hf := by omega
  have hh2 : 2 * hf ≤ n + 1 := by omega
  have hh3 : ((n : Int) + 1) / 2 = (hf : Int) := by omega
  have hNi : N ≤ n + m := by omega
  have hNj : n + m ≤ N := by omega
  have HN := Lib.hid hN
  clear hh hN
  obtain ⟨a, _, rfl, _, _, _⟩ := hx.get (i := 0) (by omega)
  obtain ⟨b, _, rfl, _, _, _⟩ := hy.get (i := 0) (by omega)
  go_enter Try.func103, Try.ntmps103
  go_upto_region 1 with (fail)
  go_cut [7, 8] (fun u v wc => HalfR w hf (n - hf) xs u v wc)
  case first =>
    go_wp2_with fail
    go_quiet (fail)
    go_wp2_with fail
    go_meet
    case rel => exact ⟨_, _, _, _, rfl, rfl, (hx.take (k := hf) (m := hf) (by omega) (Nat.le_refl _) (by omega)).ext (by repeat (first | exact Ext.refl _ | assumption | apply Ext.drewN | apply Ext.drew | apply Ext.alloc)), (hx.drop_some (l := hf) (by omega)).ext (by repeat (first | exact Ext.refl _ | assumption | apply Ext.drewN | apply Ext.drew | apply Ext.alloc)), (by repeat (first | exact Ext.refl _ | assumption | apply Ext.drewN | apply Ext.drew | apply Ext.alloc))⟩
  case rest =>
    obtain ⟨A0, A1, c0, c1, rfl, rfl, hx0, hx1, hext1⟩ := hcut
    obtain ⟨wx, rfl⟩ : ∃ wx : World, wx = wc := ⟨_, rfl⟩
    go_upto_region 2 with (fail)
    go_cut [9, 10] (fun u v wc => HalfR wx hf (m - hf) ys u v wc)
    case first =>
      by_cases hhm : hf = m
      · subst hhm
        have e0 : hf - hf = 0 := by omega
        go_wp2_with fail
        go_quiet (fail)
        go_wp2_with fail
        go_meet
        case rel =>
          have hy2 := (hy.ext hext1)
          refine ⟨_, some b, _, 0, rfl, by rw [e0], (hy2.take (k := hf) (m := hf) (by omega) (Nat.le_refl _) (by omega)).ext (by repeat (first | exact Ext.refl _ | assumption | apply Ext.drewN | apply Ext.drew | apply Ext.alloc)), ?_, (by repeat (first | exact Ext.refl _ | assumption | apply Ext.drewN | apply Ext.drew | apply Ext.alloc))⟩
          rw [e0, List.drop_eq_nil_of_le (by rw [hly.out]; omega)]
          exact hy2.empty.ext (by repeat (first | exact Ext.refl _ | assumption | apply Ext.drewN | apply Ext.drew | apply Ext.alloc))
      · have hhm2 : hf < m := by omega
        go_wp2_with fail
        go_quiet (fail)
        go_wp2_with fail
        go_meet
        case rel =>
          have hy2 := (hy.ext hext1)
          exact ⟨_, _, _, _, rfl, rfl, (hy2.take (k := hf) (m := hf) (by omega) (Nat.le_refl _) (by omega)).ext (by repeat (first | exact Ext.refl _ | assumption | apply Ext.drewN | apply Ext.drew | apply Ext.alloc)), (hy2.drop_some (l := hf) (by omega)).ext (by repeat (first | exact Ext.refl _ | assumption | apply Ext.drewN | apply Ext.drew | apply Ext.alloc)), (by repeat (first | exact Ext.refl _ | assumption | apply Ext.drewN | apply Ext.drew | apply Ext.alloc))⟩
    case rest =>
      obtain ⟨B0, B1, d0, d1, rfl, rfl, hy0, hy1, hext2⟩ := hcut
      have hx0' := hx0.ext hext2
      have hx1' := hx1.ext hext2
      have hz' := hz.ext (hext1.trans hext2)
      have hE := hext1.trans hext2
      clear hx0 hx1 hext1 hext2
      go_wp2_with fail
      refine (HI.out _ _ _ _ _ _ _ _ _ hx0' hy0 (by omega) (by omega)).mono ?_
      rintro e w1 ⟨kl, hkl, gl, zl, rfl, hgl, hbl, hwl, hll, hvl, he1⟩
      have hlb : kl ≤ 2 * hf := by
        rw [hkl.out]
        have h1 := len_wd_nv hx0'.wf
        have h2 := len_wd_nv hy0.wf
        rw [hx0'.len] at h1
        rw [hy0.len] at h2
        omega
      -- low
      go_wp2_with fail
      refine (mul_trim (NewP.rd hbl hwl hll.out (by omega)) (by omega)).mono ?_
      rintro e w' ⟨tl, htl, rfl, hrl, rfl⟩
      rw [hvl.out] at htl hrl
      -- high
      go_wp2_with fail
      refine (HI.out _ _ _ _ _ _ _ _ _ (hx1'.ext he1) (hy1.ext he1) (by omega) (by omega)).mono ?_
      rintro e w2 ⟨kh, hkh, gh, zh, rfl, hgh, hbh, hwh, hlh, hvh, he2⟩
      have hhb : kh ≤ (n - hf) + (m - hf) := by
        rw [hkh.out]
        have h1 := len_wd_nv hx1'.wf
        have h2 := len_wd_nv hy1.wf
        rw [hx1'.len] at h1
        rw [hy1.len] at h2
        omega
      go_wp2_with fail
      refine (mul_trim (NewP.rd hbh hwh hlh.out (by omega)) (by omega)).mono ?_
      rintro e w' ⟨th, hth, rfl, hrh, rfl⟩
      rw [hvh.out] at hth hrh
      have he12 := he1.trans he2
      -- the sums
      go_wp2_with fail
      refine (mul_sum (hx0'.ext he12) (by omega) (hx1'.ext he12) (by omega)).mono ?_
      rintro e w3 ⟨g3, z3, rfl, hg3, hb3, hw3, hl3, hv3, he3⟩
      go_wp2_with fail
      refine (mul_sum (hy0.ext (he12.trans he3)) (by omega) (hy1.ext (he12.trans he3)) (by omega)).mono ?_
      rintro e w4 ⟨g4, z4, rfl, hg4, hb4, hw4, hl4, hv4, he4⟩
      have q3 : max hf (n - hf) + 1 = hf + 1 := by omega
      have q4 : max hf (m - hf) + 1 = hf + 1 := by omega
      rw [q3] at hl3
      rw [q4] at hl4
      rw [q3, q4]
      clear q3 q4
      go_wp2_with fail
      refine (HI.out _ _ _ _ _ _ _ _ _ (NewP.rd (hb3.ext he4) hw3 hl3.out (by omega)) (NewP.rd hb4 hw4 hl4.out (by omega)) (by omega) (by omega)).mono ?_
      rintro e w5 ⟨km, hkm, gm, zm, rfl, hgm, hbm, hwm, hlm, hvm, he5⟩
      -- the numbers
      have vx : Hid (nv xs = nv (xs.take hf) + WB ^ hf * nv (xs.drop hf)) := nv_split xs hf (by rw [hlx.out]; omega)
      have vy : Hid (nv ys = nv (ys.take hf) + WB ^ hf * nv (ys.drop hf)) := nv_split ys hf (by rw [hly.out]; omega)
      have bx : Hid (nv xs * nv ys < WB ^ N) := by
        show _ < _
        have h1 := nv_lt hx.wf
        have h2 := nv_lt hy.wf
        rw [hlx.out] at h1
        rw [hly.out] at h2
        rw [← HN.out, Nat.pow_add]
        exact Nat.mul_lt_mul'' h1 h2
      have bl : Hid (nv (xs.take hf) * nv (ys.take hf) < WB ^ (2 * hf)) := by
        show _ < _
        have h1 := nv_take_lt hx.wf hf
        have h2 := nv_take_lt hy.wf hf
        rw [Nat.two_mul, Nat.pow_add]
        exact Nat.mul_lt_mul'' h1 h2
      rw [hv3.out, hv4.out] at hvm hkm
      generalize nv (xs.take hf) = X0 at *
      generalize nv (xs.drop hf) = X1 at *
      generalize nv (ys.take hf) = Y0 at *
      generalize nv (ys.drop hf) = Y1 at *
      have emid : Hid ((X0 + X1) * (Y0 + Y1) = X0 * Y0 + X1 * Y1 + (X0 * Y1 + X1 * Y0)) := by
        show _ = _
        simp only [Nat.add_mul, Nat.mul_add]; omega
      have eall : Hid (nv xs * nv ys = X0 * Y0 + WB ^ (2 * hf) * (X1 * Y1) + WB ^ hf * (X0 * Y1 + X1 * Y0)) := by
        show _ = _
        rw [vx.out, vy.out, Nat.two_mul, Nat.pow_add]
        simp only [Nat.add_mul, Nat.mul_add, Nat.mul_assoc]
        rw [Nat.mul_left_comm X0 (WB ^ hf) Y1, Nat.mul_left_comm X1 (WB ^ hf) Y1]
        omega
      have he25 := (he3.trans he4).trans he5
      have sl : tl ≤ km := by
        have h1 := nv_lt hwm
        rw [hlm.out, hvm.out, emid.out] at h1
        rw [htl.out]
        exact len_wd_le (by omega)
      have sh : th ≤ km := by
        have h1 := nv_lt hwm
        rw [hlm.out, hvm.out, emid.out] at h1
        rw [hth.out]
        exact len_wd_le (by omega)
      have hgl' : gl < w1.heap.size := hbl.lt
      have hgh' : gh < w2.heap.size := hbh.lt
      have s12 := he12.size
      have s2 := he2.size
      have s25 := he25.size
      have s5 := (he3.trans he4).size
      have n1 : gl ≠ gm := by omega
      have n2 : gh ≠ gm := by omega
      have hgz : g < w.heap.size := hz.lt
      have sE := hE.size
      have n3 : g ≠ gm := by have := he12.size; omega
      have n4 : g ≠ gl := by omega
      have n5 : g ≠ gh := by have := he1.size; omega
      have hkmb : km ≤ 549755813888 := by
        rw [hkm.out]
        have h1 := len_wd_nv hw3
        have h2 := len_wd_nv hw4
        rw [hl3.out, hv3.out] at h1
        rw [hl4.out, hv4.out] at h2
        omega
      -- mid less low
      go_wp2_with fail
      refine (mul_subFrom hbm hwm hlm.out (hrl.ext (he2.trans he25)) (fun a ha _ => by cases ha; exact n1) sl (by omega) (by rw [nv_wd, hvm.out, emid.out]; omega)).mono ?_
      rintro e w6 ⟨z6, rfl, hb6, hw6, hl6, hv6, hu6⟩
      rw [nv_wd, hvm.out, emid.out] at hv6
      -- mid less high
      go_wp2_with fail
      refine (mul_subFrom hb6 hw6 (by rw [hl6.out, hlm.out]) ((hrh.ext he25).upd hu6 (fun a ha => by cases ha; exact n2)) (fun a ha _ => by cases ha; exact n2) sh (by omega) (by rw [nv_wd, hv6.out]; omega)).mono ?_
      rintro e w7 ⟨z7, rfl, hb7, hw7, hl7, hv7, hu7⟩
      rw [nv_wd, hv6.out] at hv7
      have hu67 := hu6.trans hu7
      have hz7 : Bk w7 g 47 (zs.map W64) := (hz'.ext (he12.trans he25)).upd hu67 n3
      have hrl7 : Rd w7 (some ⟨gl, 0, none⟩) tl tl (wd (X0 * Y0)) := (hrl.ext (he2.trans he25)).upd hu67 (fun a ha => by cases ha; exact n1)
      have hrh7 : Rd w7 (some ⟨gh, 0, none⟩) th th (wd (X1 * Y1)) := (hrh.ext he25).upd hu67 (fun a ha => by cases ha; exact n2)
      have hv7' : Hid (nv z7 = X0 * Y1 + X1 * Y0) := by show _ = _; rw [hv7.out]; omega
      -- z begins with low
      go_wp2_with ((with_reducible refine at_slot (some 55) ?_); refine wpc_copy rfl (.tmp 53) (.tmp 54) 25 25 rfl rfl rfl Try.underlying25 size64 hz7 hrl7.rv (fun _ => rfl) ?fit (W64_oneCell _) ?_; rotate_left; intro w8 hb8 hu8)
      case fit => rw [List.length_map, HZZ.out, List.length_replicate]; omega
      have hwt : Wf (wd (X0 * Y0)) := Wf_wd _
      have tlN : tl ≤ N := by rw [htl.out]; exact len_wd_le (Nat.lt_of_le_of_lt (by rw [eall.out]; omega) bx.out)
      rw [← List.map_take, List.take_of_length_le (l := wd (X0 * Y0)) (by rw [← htl.out]; exact tlN), HZZ.out, splice_W64] at hb8
      obtain ⟨hv8, hl8⟩ := nv_splice_front (xs := wd (X0 * Y0)) (n := n + m) (by rw [← htl.out]; omega)
      rw [nv_wd] at hv8
      have hw8 : Wf (splice (List.replicate (n + m) 0) 0 (wd (X0 * Y0))) := Wf_splice (Wf_zeros _) hwt _
      generalize splice (List.replicate (n + m) 0) 0 (wd (X0 * Y0)) = z8 at *
      have HV8 := Lib.hid hv8
      have HL8 := Lib.hid hl8
      clear hv8 hl8
      have hrh8 := hrh7.upd hu8 (fun a ha => by cases ha; exact fun e => n5 e.symm)
      have tot2 : Hid (X0 * Y0 + WB ^ (2 * hf) * (X1 * Y1) < WB ^ N) := Nat.lt_of_le_of_lt (by rw [eall.out]; omega) bx.out
      have thN : th ≤ N - 2 * hf := by
        rw [hth.out]
        refine len_wd_le ?_
        have h1 := tot2.out
        refine Nat.lt_of_mul_lt_mul_left (a := WB ^ (2 * hf)) ?_
        rw [← Nat.pow_add, show 2 * hf + (N - 2 * hf) = N from by omega]
        omega
      have e2h : 2 * hf + (N - 2 * hf) = N := by omega
      have hadd := mul_addTo (o := 2 * hf) (n := N - 2 * hf) (cap := N - 2 * hf) hb8 hw8 (by rw [HL8.out, HN.out, e2h]) hrh8 (fun a ha _ => by cases ha; exact fun e => n5 e.symm) thN (by omega) (by omega) (by rw [HV8.out, nv_wd, e2h]; exact tot2.out)
      refine hadd.mono ?_
      clear hadd
      clear e2h
      rintro e w9 ⟨z9, rfl, hb9, hw9, hl9, hv9, hu9⟩
      rw [HV8.out, nv_wd] at hv9
      have hz79 : Bk w9 gm 47 (z7.map W64) := (hb7.upd hu8 (fun e => n3 e.symm)).upd hu9 (fun e => n3 e.symm)
      have hrm : Rd w9 (some ⟨gm, 0, none⟩) km km z7 := NewP.rd hz79 hw7 (by rw [hl7.out, hl6.out, hlm.out]) (by omega)
      go_wp2_with fail
      have tot3 : Hid (nv z9 + WB ^ hf * nv z7 < WB ^ (hf + (N - hf))) := by
        show _ < _
        rw [hv9.out, hv7'.out, show hf + (N - hf) = N from by omega, ← eall.out]; exact bx.out
      have tmN : (wd (nv z7)).length ≤ N - hf := by
        refine len_wd_le ?_
        have h1 := tot3.out
        refine Nat.lt_of_mul_lt_mul_left (a := WB ^ hf) ?_
        rw [← Nat.pow_add]
        omega
      have hl9' : Hid (z9.length = hf + (N - hf)) := by show _ = _; rw [hl9.out, HL8.out, HN.out]; omega
      have b9 : hf ≤ 1099511627776 := by omega
      have b10 : N - hf ≤ 1099511627776 := by omega
      have fin : ∀ z10 w10, Wf z10 → Bk w10 g 47 (z10.map W64) → z10.length = z9.length → nv z10 = nv z9 + WB ^ hf * nv (wd (nv z7)) → Upd g w9 w10 → AddP g zs (nv xs * nv ys) w (.returned (.tuple #[])) w10 := by
        intro z10 w10 h1 h2 h3 h4 h5
        refine ⟨z10, rfl, h2, h1, (show _ = _ by rw [h3, hl9.out, HL8.out, HZZ.out, List.length_replicate]), ?_, ?_⟩
        · show _ = _
          rw [h4, nv_wd, hv9.out, hv7'.out, ← eall.out]
        · have u5 : Upd g w w5 := Upd.of_ext (hE.trans (he12.trans he25))
          have u7 : Upd g w w7 := u5.then_new hu67 (by omega)
          exact ((u7.trans hu8).trans hu9).trans h5
      have FIN := Lib.hid fin
      clear fin
      go_region_with (first
        | (go_at_call 100; refine (mul_trim (hrm.ext (by repeat (first | exact Ext.refl _ | assumption | apply Ext.drewN | apply Ext.drew | apply Ext.alloc))) (by omega)).mono ?_; rintro e w' ⟨tm, htm, rfl, hrm2, rfl⟩)
        | (go_at_call 102; refine (mul_addTo (o := hf) (n := N - hf) (hb9.ext (by repeat (first | exact Ext.refl _ | assumption | apply Ext.drewN | apply Ext.drew | apply Ext.alloc))) hw9 hl9'.out hrm2 (fun a ha _ => by cases ha; exact fun e => n3 e.symm) (by rw [htm.out]; exact tmN) b10 b9 (by rw [nv_wd]; exact tot3.out)).mono ?_; rintro e w10 ⟨z10, rfl, hb10, hw10, hl10, hv10, hu10⟩))
      all_goals
        go_end0
        exact FIN.out z10 _ hw10 (by first | exact hb10 | exact hb10.drew | exact hb10.drewN _) hl10.out hv10.out (by first | exact (Upd.of_ext (by repeat (first | exact Ext.refl _ | assumption | apply Ext.drewN | apply Ext.drew | apply Ext.alloc))).trans hu10 | exact ((Upd.of_ext (by repeat (first | exact Ext.refl _ | assumption | apply Ext.drewN | apply Ext.drew | apply Ext.alloc))).trans hu10).drew)

end Go.Proofs.Ytmaconeeonkdgaa
