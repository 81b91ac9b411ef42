/- Parts MulnatC, MulnatD, Divnat, DivnatB, Shr, Long, LongB, DivC, Gcd, Int, Sxz, Sxl, Sxw, IntB, IntC, IntD, IntE, IntF, Pop, Small, Root, Zg, Ref1d, joined. -/
import Derived.Test.YtmaconeeonkdgaaM1
import Derived.WalkMore
import Derived.IntWalk
import Derived.KernelRfl

namespace Go.Proofs.Ytmaconeeonkdgaa
open Go.RowKit
def ProdP (w : World) (x y : Nat) (e : Ending) (w' : World) : Prop := ∃ k, Hid (k = (wd x).length + (wd y).length) ∧ NewP w (x * y) k e w'
/-- what product does below the size N -/
def ProdBelow (N : Nat) : Prop := ∀ (w : World) (A B : Option Addr) (n cap m cap' : Nat) (xs ys : List Nat), Rd w A n cap xs → Rd w B m cap' ys → n + m < N → n + m ≤ 274877906944 →
  Calls Try.prog 81 #[.slice A n cap, .slice B m cap'] w (ProdP w (nv xs) (nv ys))
theorem NewP.rd {w' : World} {g n : Nat} {zs : List Nat} (hb : Bk w' g 47 (zs.map W64)) (hw : Wf zs) (hl : zs.length = n) (hn : n ≤ 1099511627776) : Rd w' (some ⟨g, 0, none⟩) n n zs := by
  have := hb.rd hw (o := 0) (n := n) (cap := n) (Nat.le_refl _) (by omega) (by rw [len_maxLen]; omega)
  rwa [List.drop_zero, List.take_of_length_le (by omega)] at this
theorem Upd.then_new {g k : Nat} {w a b : World} (h : Upd g w a) (e : Upd k a b) (hk : w.heap.size ≤ k) : Upd g w b :=
  ⟨⟨e.by_.os.trans h.by_.os, e.by_.tape.trans h.by_.tape, e.by_.output.trans h.by_.output, Nat.le_trans h.by_.size e.by_.size,
    fun i hi hne => (e.by_.block i (Nat.lt_of_lt_of_le hi h.by_.size) (fun e' => by have := Option.some.inj e'; omega)).trans (h.by_.block i hi hne)⟩⟩
theorem Rd.drop_some {w : World} {a : Addr} {n cap : Nat} {xs : List Nat} (h : Rd w (some a) n cap xs) {l : Nat} (hl : l < n) : Rd w (some (a.add l)) (n - l) (cap - l) (xs.drop l) := by
  have hc := h.rv.le
  have := h.cut (l := l) (k := n) (m := cap) (by omega) (Nat.le_refl _) hc (Nat.le_refl _)
  rw [if_neg (by omega), Option.map_some, List.take_of_length_le (by rw [h.len]; omega)] at this
  exact this
theorem Rd.empty {w : World} {A : Option Addr} {n cap : Nat} {xs : List Nat} (h : Rd w A n cap xs) : Rd w A 0 0 [] := by
  have := h.take (k := 0) (m := 0) (Nat.zero_le _) (Nat.le_refl _) (Nat.zero_le _)
  simpa using this
def HalfR (w : World) (h r : Nat) (xs : List Nat) (u v : Value) (wc : World) : Prop :=
  ∃ A0 A1 c0 c1, u = .slice A0 h c0 ∧ v = .slice A1 r c1 ∧ Rd wc A0 h c0 (xs.take h) ∧ Rd wc A1 r c1 (xs.drop h) ∧ Ext w wc
set_option maxHeartbeats 4000000 in
theorem mul_halves {N : Nat} (IH : ProdBelow N) {w : World} {g : Nat} {A B : Option Addr} {n m : Nat} {zs xs ys : List Nat} (hz : Bk w g 47 (zs.map W64)) (hzz : zs = List.replicate (n + m) 0)
    (hx : Rd w A n n xs) (hy : Rd w B m m ys) (hna : ∀ a, A = some a → a.block ≠ g) (hnb : ∀ a, B = some a → a.block ≠ g) (hN : n + m = N) (hN2 : N ≤ 274877906944) (hm : 24 ≤ m) (hmn : m ≤ n) (hnm : n < 2 * m) :
    Calls Try.prog 103 #[.slice (some ⟨g, 0, none⟩) N N, .slice A n n, .slice B m m] w (AddP g zs (nv xs * nv ys) w) := by
  have HI := Lib.hid IH
  have HZZ := Lib.hid hzz
  clear IH hzz
  have hlx := Lib.hid hx.len
  have hly := Lib.hid hy.len
  obtain ⟨hf, hh⟩ : ∃ hf, hf = (n + 1) / 2 := ⟨_, rfl⟩
  have hh1 : n ≤ 2 * hf := by omega
  have hh2 : 2 * hf ≤ n + 1 := by omega
  have hh3 : ((n : Int) + 1) / 2 = (hf : Int) := by omega
  have hNi : N ≤ n + m := by omega
  have hNj : n + m ≤ N := by omega
  have HN := Lib.hid hN
  clear hh hN
  obtain ⟨a, _, rfl, _, _, _⟩ := hx.get (i := 0) (by omega)
  obtain ⟨b, _, rfl, _, _, _⟩ := hy.get (i := 0) (by omega)
  go_enter Try.func103, Try.ntmps103
  go_upto_region 1 with (fail)
  go_cut [7, 8] (fun u v wc => HalfR w hf (n - hf) xs u v wc)
  case first =>
    go_wp2_with fail
    go_quiet (fail)
    go_wp2_with fail
    go_meet
    case rel => exact ⟨_, _, _, _, rfl, rfl, (hx.take (k := hf) (m := hf) (by omega) (Nat.le_refl _) (by omega)).ext (by repeat (first | exact Ext.refl _ | assumption | apply Ext.drewN | apply Ext.drew | apply Ext.alloc)), (hx.drop_some (l := hf) (by omega)).ext (by repeat (first | exact Ext.refl _ | assumption | apply Ext.drewN | apply Ext.drew | apply Ext.alloc)), (by repeat (first | exact Ext.refl _ | assumption | apply Ext.drewN | apply Ext.drew | apply Ext.alloc))⟩
  case rest =>
    obtain ⟨A0, A1, c0, c1, rfl, rfl, hx0, hx1, hext1⟩ := hcut
    obtain ⟨wx, rfl⟩ : ∃ wx : World, wx = wc := ⟨_, rfl⟩
    go_upto_region 2 with (fail)
    go_cut [9, 10] (fun u v wc => HalfR wx hf (m - hf) ys u v wc)
    case first =>
      by_cases hhm : hf = m
      · subst hhm
        have e0 : hf - hf = 0 := by omega
        go_wp2_with fail
        go_quiet (fail)
        go_wp2_with fail
        go_meet
        case rel =>
          have hy2 := (hy.ext hext1)
          refine ⟨_, some b, _, 0, rfl, by rw [e0], (hy2.take (k := hf) (m := hf) (by omega) (Nat.le_refl _) (by omega)).ext (by repeat (first | exact Ext.refl _ | assumption | apply Ext.drewN | apply Ext.drew | apply Ext.alloc)), ?_, (by repeat (first | exact Ext.refl _ | assumption | apply Ext.drewN | apply Ext.drew | apply Ext.alloc))⟩
          rw [e0, List.drop_eq_nil_of_le (by rw [hly.out]; omega)]
          exact hy2.empty.ext (by repeat (first | exact Ext.refl _ | assumption | apply Ext.drewN | apply Ext.drew | apply Ext.alloc))
      · have hhm2 : hf < m := by omega
        go_wp2_with fail
        go_quiet (fail)
        go_wp2_with fail
        go_meet
        case rel =>
          have hy2 := (hy.ext hext1)
          exact ⟨_, _, _, _, rfl, rfl, (hy2.take (k := hf) (m := hf) (by omega) (Nat.le_refl _) (by omega)).ext (by repeat (first | exact Ext.refl _ | assumption | apply Ext.drewN | apply Ext.drew | apply Ext.alloc)), (hy2.drop_some (l := hf) (by omega)).ext (by repeat (first | exact Ext.refl _ | assumption | apply Ext.drewN | apply Ext.drew | apply Ext.alloc)), (by repeat (first | exact Ext.refl _ | assumption | apply Ext.drewN | apply Ext.drew | apply Ext.alloc))⟩
    case rest =>
      obtain ⟨B0, B1, d0, d1, rfl, rfl, hy0, hy1, hext2⟩ := hcut
      have hx0' := hx0.ext hext2
      have hx1' := hx1.ext hext2
      have hz' := hz.ext (hext1.trans hext2)
      have hE := hext1.trans hext2
      clear hx0 hx1 hext1 hext2
      go_wp2_with fail
      refine (HI.out _ _ _ _ _ _ _ _ _ hx0' hy0 (by omega) (by omega)).mono ?_
      rintro e w1 ⟨kl, hkl, gl, zl, rfl, hgl, hbl, hwl, hll, hvl, he1⟩
      have hlb : kl ≤ 2 * hf := by
        rw [hkl.out]
        have h1 := len_wd_nv hx0'.wf
        have h2 := len_wd_nv hy0.wf
        rw [hx0'.len] at h1
        rw [hy0.len] at h2
        omega
      go_wp2_with fail
      refine (mul_trim (NewP.rd hbl hwl hll.out (by omega)) (by omega)).mono ?_
      rintro e w' ⟨tl, htl, rfl, hrl, rfl⟩
      rw [hvl.out] at htl hrl
      go_wp2_with fail
      refine (HI.out _ _ _ _ _ _ _ _ _ (hx1'.ext he1) (hy1.ext he1) (by omega) (by omega)).mono ?_
      rintro e w2 ⟨kh, hkh, gh, zh, rfl, hgh, hbh, hwh, hlh, hvh, he2⟩
      have hhb : kh ≤ (n - hf) + (m - hf) := by
        rw [hkh.out]
        have h1 := len_wd_nv hx1'.wf
        have h2 := len_wd_nv hy1.wf
        rw [hx1'.len] at h1
        rw [hy1.len] at h2
        omega
      go_wp2_with fail
      refine (mul_trim (NewP.rd hbh hwh hlh.out (by omega)) (by omega)).mono ?_
      rintro e w' ⟨th, hth, rfl, hrh, rfl⟩
      rw [hvh.out] at hth hrh
      have he12 := he1.trans he2
      go_wp2_with fail
      refine (mul_sum (hx0'.ext he12) (by omega) (hx1'.ext he12) (by omega)).mono ?_
      rintro e w3 ⟨g3, z3, rfl, hg3, hb3, hw3, hl3, hv3, he3⟩
      go_wp2_with fail
      refine (mul_sum (hy0.ext (he12.trans he3)) (by omega) (hy1.ext (he12.trans he3)) (by omega)).mono ?_
      rintro e w4 ⟨g4, z4, rfl, hg4, hb4, hw4, hl4, hv4, he4⟩
      have q3 : max hf (n - hf) + 1 = hf + 1 := by omega
      have q4 : max hf (m - hf) + 1 = hf + 1 := by omega
      rw [q3] at hl3
      rw [q4] at hl4
      rw [q3, q4]
      clear q3 q4
      go_wp2_with fail
      refine (HI.out _ _ _ _ _ _ _ _ _ (NewP.rd (hb3.ext he4) hw3 hl3.out (by omega)) (NewP.rd hb4 hw4 hl4.out (by omega)) (by omega) (by omega)).mono ?_
      rintro e w5 ⟨km, hkm, gm, zm, rfl, hgm, hbm, hwm, hlm, hvm, he5⟩
      have vx : Hid (nv xs = nv (xs.take hf) + WB ^ hf * nv (xs.drop hf)) := nv_split xs hf (by rw [hlx.out]; omega)
      have vy : Hid (nv ys = nv (ys.take hf) + WB ^ hf * nv (ys.drop hf)) := nv_split ys hf (by rw [hly.out]; omega)
      have bx : Hid (nv xs * nv ys < WB ^ N) := by
        show _ < _
        have h1 := nv_lt hx.wf
        have h2 := nv_lt hy.wf
        rw [hlx.out] at h1
        rw [hly.out] at h2
        rw [← HN.out, Nat.pow_add]
        exact Nat.mul_lt_mul'' h1 h2
      have bl : Hid (nv (xs.take hf) * nv (ys.take hf) < WB ^ (2 * hf)) := by
        show _ < _
        have h1 := nv_take_lt hx.wf hf
        have h2 := nv_take_lt hy.wf hf
        rw [Nat.two_mul, Nat.pow_add]
        exact Nat.mul_lt_mul'' h1 h2
      rw [hv3.out, hv4.out] at hvm hkm
      generalize nv (xs.take hf) = X0 at *
      generalize nv (xs.drop hf) = X1 at *
      generalize nv (ys.take hf) = Y0 at *
      generalize nv (ys.drop hf) = Y1 at *
      have emid : Hid ((X0 + X1) * (Y0 + Y1) = X0 * Y0 + X1 * Y1 + (X0 * Y1 + X1 * Y0)) := by
        show _ = _
        simp only [Nat.add_mul, Nat.mul_add]; omega
      have eall : Hid (nv xs * nv ys = X0 * Y0 + WB ^ (2 * hf) * (X1 * Y1) + WB ^ hf * (X0 * Y1 + X1 * Y0)) := by
        show _ = _
        rw [vx.out, vy.out, Nat.two_mul, Nat.pow_add]
        simp only [Nat.add_mul, Nat.mul_add, Nat.mul_assoc]
        rw [Nat.mul_left_comm X0 (WB ^ hf) Y1, Nat.mul_left_comm X1 (WB ^ hf) Y1]
        omega
      have he25 := (he3.trans he4).trans he5
      have sl : tl ≤ km := by
        have h1 := nv_lt hwm
        rw [hlm.out, hvm.out, emid.out] at h1
        rw [htl.out]
        exact len_wd_le (by omega)
      have sh : th ≤ km := by
        have h1 := nv_lt hwm
        rw [hlm.out, hvm.out, emid.out] at h1
        rw [hth.out]
        exact len_wd_le (by omega)
      have hgl' : gl < w1.heap.size := hbl.lt
      have hgh' : gh < w2.heap.size := hbh.lt
      have s12 := he12.size
      have s2 := he2.size
      have s25 := he25.size
      have s5 := (he3.trans he4).size
      have n1 : gl ≠ gm := by omega
      have n2 : gh ≠ gm := by omega
      have hgz : g < w.heap.size := hz.lt
      have sE := hE.size
      have n3 : g ≠ gm := by have := he12.size; omega
      have n4 : g ≠ gl := by omega
      have n5 : g ≠ gh := by have := he1.size; omega
      have hkmb : km ≤ 549755813888 := by
        rw [hkm.out]
        have h1 := len_wd_nv hw3
        have h2 := len_wd_nv hw4
        rw [hl3.out, hv3.out] at h1
        rw [hl4.out, hv4.out] at h2
        omega
      go_wp2_with fail
      refine (mul_subFrom hbm hwm hlm.out (hrl.ext (he2.trans he25)) (fun a ha _ => by cases ha; exact n1) sl (by omega) (by rw [nv_wd, hvm.out, emid.out]; omega)).mono ?_
      rintro e w6 ⟨z6, rfl, hb6, hw6, hl6, hv6, hu6⟩
      rw [nv_wd, hvm.out, emid.out] at hv6
      go_wp2_with fail
      refine (mul_subFrom hb6 hw6 (by rw [hl6.out, hlm.out]) ((hrh.ext he25).upd hu6 (fun a ha => by cases ha; exact n2)) (fun a ha _ => by cases ha; exact n2) sh (by omega) (by rw [nv_wd, hv6.out]; omega)).mono ?_
      rintro e w7 ⟨z7, rfl, hb7, hw7, hl7, hv7, hu7⟩
      rw [nv_wd, hv6.out] at hv7
      have hu67 := hu6.trans hu7
      have hz7 : Bk w7 g 47 (zs.map W64) := (hz'.ext (he12.trans he25)).upd hu67 n3
      have hrl7 : Rd w7 (some ⟨gl, 0, none⟩) tl tl (wd (X0 * Y0)) := (hrl.ext (he2.trans he25)).upd hu67 (fun a ha => by cases ha; exact n1)
      have hrh7 : Rd w7 (some ⟨gh, 0, none⟩) th th (wd (X1 * Y1)) := (hrh.ext he25).upd hu67 (fun a ha => by cases ha; exact n2)
      have hv7' : Hid (nv z7 = X0 * Y1 + X1 * Y0) := by show _ = _; rw [hv7.out]; omega
      go_wp2_with ((with_reducible refine at_slot (some 55) ?_); refine wpc_copy rfl (.tmp 53) (.tmp 54) 25 25 rfl rfl rfl Try.underlying25 size64 hz7 hrl7.rv (fun _ => rfl) ?fit (W64_oneCell _) ?_; rotate_left; intro w8 hb8 hu8)
      case fit => rw [List.length_map, HZZ.out, List.length_replicate]; omega
      have hwt : Wf (wd (X0 * Y0)) := Wf_wd _
      have tlN : tl ≤ N := by rw [htl.out]; exact len_wd_le (Nat.lt_of_le_of_lt (by rw [eall.out]; omega) bx.out)
      rw [← List.map_take, List.take_of_length_le (l := wd (X0 * Y0)) (by rw [← htl.out]; exact tlN), HZZ.out, splice_W64] at hb8
      obtain ⟨hv8, hl8⟩ := nv_splice_front (xs := wd (X0 * Y0)) (n := n + m) (by rw [← htl.out]; omega)
      rw [nv_wd] at hv8
      have hw8 : Wf (splice (List.replicate (n + m) 0) 0 (wd (X0 * Y0))) := Wf_splice (Wf_zeros _) hwt _
      generalize splice (List.replicate (n + m) 0) 0 (wd (X0 * Y0)) = z8 at *
      have HV8 := Lib.hid hv8
      have HL8 := Lib.hid hl8
      clear hv8 hl8
      have hrh8 := hrh7.upd hu8 (fun a ha => by cases ha; exact fun e => n5 e.symm)
      have tot2 : Hid (X0 * Y0 + WB ^ (2 * hf) * (X1 * Y1) < WB ^ N) := Nat.lt_of_le_of_lt (by rw [eall.out]; omega) bx.out
      have thN : th ≤ N - 2 * hf := by
        rw [hth.out]
        refine len_wd_le ?_
        have h1 := tot2.out
        refine Nat.lt_of_mul_lt_mul_left (a := WB ^ (2 * hf)) ?_
        rw [← Nat.pow_add, show 2 * hf + (N - 2 * hf) = N from by omega]
        omega
      have e2h : 2 * hf + (N - 2 * hf) = N := by omega
      have hadd := mul_addTo (o := 2 * hf) (n := N - 2 * hf) (cap := N - 2 * hf) hb8 hw8 (by rw [HL8.out, HN.out, e2h]) hrh8 (fun a ha _ => by cases ha; exact fun e => n5 e.symm) thN (by omega) (by omega) (by rw [HV8.out, nv_wd, e2h]; exact tot2.out)
      refine hadd.mono ?_
      clear hadd
      clear e2h
      rintro e w9 ⟨z9, rfl, hb9, hw9, hl9, hv9, hu9⟩
      rw [HV8.out, nv_wd] at hv9
      have hz79 : Bk w9 gm 47 (z7.map W64) := (hb7.upd hu8 (fun e => n3 e.symm)).upd hu9 (fun e => n3 e.symm)
      have hrm : Rd w9 (some ⟨gm, 0, none⟩) km km z7 := NewP.rd hz79 hw7 (by rw [hl7.out, hl6.out, hlm.out]) (by omega)
      go_wp2_with fail
      have tot3 : Hid (nv z9 + WB ^ hf * nv z7 < WB ^ (hf + (N - hf))) := by
        show _ < _
        rw [hv9.out, hv7'.out, show hf + (N - hf) = N from by omega, ← eall.out]; exact bx.out
      have tmN : (wd (nv z7)).length ≤ N - hf := by
        refine len_wd_le ?_
        have h1 := tot3.out
        refine Nat.lt_of_mul_lt_mul_left (a := WB ^ hf) ?_
        rw [← Nat.pow_add]
        omega
      have hl9' : Hid (z9.length = hf + (N - hf)) := by show _ = _; rw [hl9.out, HL8.out, HN.out]; omega
      have b9 : hf ≤ 1099511627776 := by omega
      have b10 : N - hf ≤ 1099511627776 := by omega
      have fin : ∀ z10 w10, Wf z10 → Bk w10 g 47 (z10.map W64) → z10.length = z9.length → nv z10 = nv z9 + WB ^ hf * nv (wd (nv z7)) → Upd g w9 w10 → AddP g zs (nv xs * nv ys) w (.returned (.tuple #[])) w10 := by
        intro z10 w10 h1 h2 h3 h4 h5
        refine ⟨z10, rfl, h2, h1, (show _ = _ by rw [h3, hl9.out, HL8.out, HZZ.out, List.length_replicate]), ?_, ?_⟩
        · show _ = _
          rw [h4, nv_wd, hv9.out, hv7'.out, ← eall.out]
        · have u5 : Upd g w w5 := Upd.of_ext (hE.trans (he12.trans he25))
          have u7 : Upd g w w7 := u5.then_new hu67 (by omega)
          exact ((u7.trans hu8).trans hu9).trans h5
      have FIN := Lib.hid fin
      clear fin
      go_region_with (first
        | (go_at_call 100; refine (mul_trim (hrm.ext (by repeat (first | exact Ext.refl _ | assumption | apply Ext.drewN | apply Ext.drew | apply Ext.alloc))) (by omega)).mono ?_; rintro e w' ⟨tm, htm, rfl, hrm2, rfl⟩)
        | (go_at_call 102; refine (mul_addTo (o := hf) (n := N - hf) (hb9.ext (by repeat (first | exact Ext.refl _ | assumption | apply Ext.drewN | apply Ext.drew | apply Ext.alloc))) hw9 hl9'.out hrm2 (fun a ha _ => by cases ha; exact fun e => n3 e.symm) (by rw [htm.out]; exact tmN) b10 b9 (by rw [nv_wd]; exact tot3.out)).mono ?_; rintro e w10 ⟨z10, rfl, hb10, hw10, hl10, hv10, hu10⟩))
      all_goals
        go_end0
        exact FIN.out z10 _ hw10 (by first | exact hb10 | exact hb10.drew | exact hb10.drewN _) hl10.out hv10.out (by first | exact (Upd.of_ext (by repeat (first | exact Ext.refl _ | assumption | apply Ext.drewN | apply Ext.drew | apply Ext.alloc))).trans hu10 | exact ((Upd.of_ext (by repeat (first | exact Ext.refl _ | assumption | apply Ext.drewN | apply Ext.drew | apply Ext.alloc))).trans hu10).drew)
end Go.Proofs.Ytmaconeeonkdgaa

namespace Go.Proofs.Ytmaconeeonkdgaa
open Go.RowKit
set_option maxHeartbeats 4000000 in
theorem prod_below (N : Nat) : ProdBelow N := by
  induction N with
  | zero => intro w A B n cap m cap' xs ys _ _ h; omega
  | succ N IH =>
    intro w A B n cap m cap' xs ys hx hy hN hN2
    have HI := Lib.hid IH
    clear IH
    go_enter Try.func81, Try.ntmps81
    go_wp2_with fail
    refine (mul_trim hx (by omega)).mono ?_
    rintro e w' ⟨p, hp, rfl, hx1, rfl⟩
    go_wp2_with fail
    refine (mul_trim hy (by omega)).mono ?_
    rintro e w' ⟨q, hq, rfl, hy1, rfl⟩
    have hpn : p ≤ n := by rw [hp.out]; have := len_wd_nv hx.wf; rw [hx.len] at this; exact this
    have hqm : q ≤ m := by rw [hq.out]; have := len_wd_nv hy.wf; rw [hy.len] at this; exact this
    go_upto_if 16 with (fail)
    go_cut [0, 1] (fun u v wc => ∃ A B p q xs' ys', u = .slice A p p ∧ v = .slice B q q ∧ Rd w A p p xs' ∧ Rd w B q q ys' ∧ Hid (nv xs' * nv ys' = nv xs * nv ys) ∧ q ≤ p ∧ p + q ≤ n + m ∧ Hid (p + q = (wd (nv xs)).length + (wd (nv ys)).length) ∧ w = wc)
    case first =>
      by_cases hpq : p < q
      · go_wp2_with fail
        go_meet
        case rel => exact ⟨B, A, q, p, _, _, rfl, rfl, hy1, hx1, (show _ = _ by rw [nv_wd, nv_wd, Nat.mul_comm]), by omega, by omega, (show _ = _ by rw [← hp.out, ← hq.out]; omega), rfl⟩
      · go_wp2_with fail
        go_meet
        case rel => exact ⟨A, B, p, q, _, _, rfl, rfl, hx1, hy1, (show _ = _ by rw [nv_wd, nv_wd]), by omega, by omega, (show _ = _ by rw [← hp.out, ← hq.out]), rfl⟩
    case rest =>
      clear hx1 hy1 hp hq hpn hqm hx hy
      obtain ⟨A, B, p, q, xs', ys', rfl, rfl, hx, hy, hXY, hqp, hpq, hK, rfl⟩ := hcut
      have hlx := Lib.hid hx.len
      have hly := Lib.hid hy.len
      have hmk := run_make1 (P := Try.prog) Try.underlying25 info64 rfl (by decide) ((p : Int) + (q : Int)) (by omega) (by omega)
      have et : ((p : Int) + (q : Int)).toNat = p + q := by omega
      rw [et] at hmk
      clear et
      obtain ⟨g, hg⟩ : ∃ g, w.heap.size = g := ⟨_, rfl⟩
      obtain ⟨wa, hwa⟩ : ∃ wa, w.alloc (.cells (zc (.int .u64 0) (p + q)) 47) = wa := ⟨_, rfl⟩
      have hbk : Bk wa g 47 ((List.replicate (p + q) 0).map W64) := by
        rw [← hwa, ← hg, ← replicate_W64]; exact Bk.new' _ _ _
      have hea : Ext w wa := by rw [← hwa]; exact (Ext.refl w).alloc _
      have hgs : w.heap.size ≤ g := by rw [hg]; exact Nat.le_refl _
      have hna : ∀ a, A = some a → 0 < p → a.block ≠ g := fun a ha hp => by have := hx.rv.blk a ha (by have := hx.rv.le; omega); omega
      have hnb : ∀ a, B = some a → 0 < q → a.block ≠ g := fun a ha hp => by have := hy.rv.blk a ha (by have := hy.rv.le; omega); omega
      have HNA := Lib.hid hna
      have HNB := Lib.hid hnb
      have HG := Lib.hid hg
      have HWA := Lib.hid hwa
      clear hna hnb hg hwa
      go_upto_region 6 with (fail)
      rw [HG.out, HWA.out]
      clear hmk HG HWA
      have fin : ∀ zs' w', Bk w' g 47 (zs'.map W64) → Wf zs' → zs'.length = p + q → nv zs' = nv xs' * nv ys' → Upd g wa w' → ProdP w (nv xs) (nv ys) (.returned (.slice (some ⟨g, 0, none⟩) (p + q) (p + q))) w' := by
        intro zs' w' h1 h2 h3 h4 h5
        exact ⟨_, hK.out, g, zs', rfl, hgs, h1, h2, h3, by show _ = _; rw [h4, hXY.out], h5.ext hea hgs⟩
      have FIN := Lib.hid fin
      clear fin
      by_cases h24 : q < 24
      · go_wp2_with fail
        refine (mul_rows hbk rfl rfl (hx.ext hea) (hy.ext hea) HNA.out HNB.out (by omega) (by omega)).mono ?_
        rintro e w1 ⟨z1, rfl, hb1, hw1, hl1, hv1, hu1⟩
        go_wp2_with fail
        go_ret
        exact FIN.out z1 w1 hb1 hw1 (by rw [hl1.out, List.length_replicate]) hv1.out hu1
      · have hb24 : decide ((q : Int) < 24) = false := by simp; omega
        by_cases h2q : p < 2 * q
        · go_wp2_with fail
          refine (mul_halves (N := p + q) (fun w A B n cap m cap' xs ys h1 h2 h3 h4 => HI.out w A B n cap m cap' xs ys h1 h2 (by omega) h4) hbk rfl (hx.ext hea) (hy.ext hea) (fun a ha => HNA.out a ha (by omega)) (fun a ha => HNB.out a ha (by omega)) rfl (by omega) (by omega) hqp h2q).mono ?_
          rintro e w1 ⟨z1, rfl, hb1, hw1, hl1, hv1, hu1⟩
          go_wp2_with fail
          go_ret
          exact FIN.out z1 w1 hb1 hw1 (by rw [hl1.out, List.length_replicate]) hv1.out hu1
        · have hb2q : decide (2 * (q : Int) ≤ (p : Int)) = true := by simp; omega
          obtain ⟨a, _, rfl, _, _, _⟩ := hx.get (i := 0) (by omega)
          go_wp2_with fail
          go_loopw [6] (fun u wr => ∃ (i : Nat) (l : List Nat), i ≤ p + q ∧ u = .int .i64 (i : Int) ∧ Hid (l.length = p + q) ∧ Wf l ∧ Bk wr g 47 (l.map W64) ∧ Hid (nv l = nv (xs'.take i) * nv ys') ∧ Upd g wa wr) (fun u wr => p + q - (intOf u).toNat)
          case atStart => exact ⟨0, _, Nat.zero_le _, rfl, List.length_replicate, Wf_zeros _, hbk, (show _ = _ by rw [nv_zeros]; simp [nv]), Upd.refl _ _⟩
          case round =>
            obtain ⟨i, l, hi, rfl, hll, hwl, hb, hv, hr⟩ := hrel
            clear hbk
            by_cases hip : i < p
            · obtain ⟨e, he⟩ : ∃ e, e = min (i + q) p := ⟨_, rfl⟩
              have he1 : i < e := by omega
              have he2 : e ≤ p := by omega
              have he3 : e ≤ i + q := by omega
              have hmin : min ((i : Int) + (q : Int)) (p : Int) = (e : Int) := by omega
              have HE := Lib.hid he
              clear he
              have hxr := (hx.ext hea).upd hr (fun a ha => HNA.out a ha (by omega))
              have hyr := (hy.ext hea).upd hr (fun a ha => HNB.out a ha (by omega))
              have hcut := hxr.cut (l := i) (k := e) (m := e) (by omega) he2 (Nat.le_refl _) he2
              rw [if_neg (by omega), Option.map_some] at hcut
              have hnext : Hid (nv (xs'.take (i + q)) * nv ys' = nv l + WB ^ i * (nv ((xs'.take e).drop i) * nv ys')) := by
                show _ = _
                have e1 : xs'.take (i + q) = xs'.take e := by
                  rw [HE.out]
                  rcases Nat.le_total (i + q) p with h | h
                  · rw [Nat.min_eq_left h]
                  · rw [Nat.min_eq_right h, List.take_of_length_le (by rw [hlx.out]; omega), List.take_of_length_le (by rw [hlx.out]; omega)]
                have e2 := nv_split (xs'.take e) i (by rw [List.length_take, hlx.out]; omega)
                rw [List.take_take, Nat.min_eq_left (by omega)] at e2
                rw [e1, e2, Nat.add_mul, hv.out, Nat.mul_assoc]
              have hbnd : Hid (nv l + WB ^ i * (nv ((xs'.take e).drop i) * nv ys') < WB ^ (i + (p + q - i))) := by
                show _ < _
                rw [← hnext.out, show i + (p + q - i) = p + q from by omega, Nat.pow_add]
                have h1 := nv_lt (Wf_take hx.wf (i + q))
                have h2 := nv_lt hy.wf
                rw [hly.out] at h2
                have h3 : WB ^ (xs'.take (i + q)).length ≤ WB ^ p := Nat.pow_le_pow_right WB_pos (by rw [List.length_take, hlx.out]; omega)
                exact Nat.mul_lt_mul'' (Nat.lt_of_lt_of_le h1 h3) h2
              have htm : (wd (nv ((xs'.take e).drop i) * nv ys')).length ≤ p + q - i := by
                refine len_wd_le ?_
                have h1 := hbnd.out
                refine Nat.lt_of_mul_lt_mul_left (a := WB ^ i) ?_
                rw [← Nat.pow_add]
                omega
              have hprod : nv ((xs'.take e).drop i) * nv ys' < WB ^ (p + q) := by
                have := hbnd.out
                have h1 : 0 < WB ^ i := Nat.pow_pos WB_pos
                have h2 := Nat.le_mul_of_pos_left (nv ((xs'.take e).drop i) * nv ys') h1
                rw [show i + (p + q - i) = p + q from by omega] at this
                omega
              have HP := Lib.hid hprod
              clear hprod
              have b1 : i ≤ 1099511627776 := by omega
              have b2 : p + q - i ≤ 1099511627776 := by omega
              have b3 : e - i + q < N := by omega
              have b4 : e - i + q ≤ 274877906944 := by omega
              have hgr : g < wr.heap.size := hb.lt
              go_wp2_with fail
              have hk1b : (wd (nv ((xs'.take e).drop i))).length + (wd (nv ys')).length ≤ e - i + q := by
                have h1 := len_wd_nv hcut.wf
                have h2 := len_wd_nv hy.wf
                rw [hcut.len] at h1
                rw [hy.len] at h2
                omega
              have htm' : (wd (nv (wd (nv ((xs'.take e).drop i) * nv ys')))).length ≤ p + q - i := by rw [nv_wd]; exact htm
              have hbnd' : Hid (nv l + WB ^ i * nv (wd (nv ((xs'.take e).drop i) * nv ys')) < WB ^ (i + (p + q - i))) := by show _ < _; rw [nv_wd]; exact hbnd.out
              have hll' : Hid (l.length = i + (p + q - i)) := by show _ = _; rw [hll.out]; omega
              have hgwr : g < wr.heap.size := hb.lt
              go_region_with (first
                | (go_at_call 81; refine (HI.out _ _ _ _ _ _ _ _ _ (hcut.ext (by repeat (first | exact Ext.refl _ | assumption | apply Ext.drewN | apply Ext.drew | apply Ext.alloc))) (hyr.ext (by repeat (first | exact Ext.refl _ | assumption | apply Ext.drewN | apply Ext.drew | apply Ext.alloc))) b3 b4).mono ?_; rintro er w1 ⟨k1, hk1, g1, z1, rfl, hg1, hb1, hw1, hl1, hv1, hx1⟩; have hr1 := NewP.rd hb1 hw1 hl1.out (by rw [hk1.out]; omega); have hne1 : g1 ≠ g := (by have h : wr.heap.size ≤ g1 := hg1; omega); have hx1' : Ext wr w1 := Ext.trans (by repeat (first | exact Ext.refl _ | assumption | apply Ext.drewN | apply Ext.drew | apply Ext.alloc)) hx1)
                | (go_at_call 100; refine (mul_trim (hr1.ext (by repeat (first | exact Ext.refl _ | assumption | apply Ext.drewN | apply Ext.drew | apply Ext.alloc))) (by rw [hk1.out]; omega)).mono ?_; rintro er w' ⟨tm, htm2, rfl, hrm2, rfl⟩; rw [hv1.out] at htm2 hrm2)
                | (go_at_call 102; refine (mul_addTo (o := i) (n := p + q - i) (hb.ext hx1') hwl hll'.out hrm2 (fun a ha _ => by cases ha; exact hne1) (by rw [htm2.out]; exact htm) b2 b1 hbnd'.out).mono ?_; rintro er w10 ⟨z10, rfl, hb10, hw10, hl10, hv10, hu10⟩))
              all_goals
                go_wp2_with fail
                go_roundw
                case rel =>
                  refine ⟨i + q, z10, by omega, by go_num, (show _ = _ by rw [hl10.out, hll.out]), hw10, by first | exact hb10 | exact hb10.drew | exact hb10.drewN _, ?_, ?_⟩
                  · show _ = _
                    rw [hv10.out, nv_wd]; exact hnext.out.symm
                  · have u1 : Upd g wa w10 := (hr.then_ext hx1').trans (Upd.trans (Upd.of_ext (by repeat (first | exact Ext.refl _ | assumption | apply Ext.drewN | apply Ext.drew | apply Ext.alloc))) hu10)
                    first | exact u1 | exact u1.drew | exact u1.drewN _
                case measure => simp [intOf]; omega
            · have hfull : Hid (nv l = nv xs' * nv ys') := by
                show _ = _
                rw [hv.out, List.take_of_length_le (by rw [hlx.out]; omega)]
              go_wp2_with fail
              go_ret
              exact FIN.out l _ hb hwl hll.out hfull.out hr
theorem mul_product {w : World} {A B : Option Addr} {n cap m cap' : Nat} {xs ys : List Nat} (hx : Rd w A n cap xs) (hy : Rd w B m cap' ys) (hN : n + m ≤ 274877906944) :
    Calls Try.prog 81 #[.slice A n cap, .slice B m cap'] w (ProdP w (nv xs) (nv ys)) := prod_below (n + m + 1) w A B n cap m cap' xs ys hx hy (by omega) hN
theorem mulnat_Mul {w : World} {A B : Option Addr} {n cap m cap' : Nat} {xs ys : List Nat} (hx : Rd w A n cap xs) (hy : Rd w B m cap' ys) (hN : n + m ≤ 274877906944) :
    Calls Try.prog 57 #[.slice A n cap, .slice B m cap'] w (RetW w (nv xs * nv ys)) := by
  go_enter Try.func57, Try.ntmps57
  go_wp2_with fail
  refine (mul_product hx hy hN).mono ?_
  rintro e w1 ⟨k1, hk1, g1, z1, rfl, hg1, hb1, hw1, hl1, hv1, hx1⟩
  have hk1b : k1 ≤ n + m := by
    rw [hk1.out]
    have h1 := len_wd_nv hx.wf
    have h2 := len_wd_nv hy.wf
    rw [hx.len] at h1
    rw [hy.len] at h2
    omega
  go_wp2_with fail
  refine (nat_Least (NewP.rd hb1 hw1 hl1.out (by omega)) (by omega)).mono ?_
  rintro e w2 ⟨A2, n2, c2, rfl, hn2, hr2, ho2, hx2⟩
  go_wp2_with fail
  go_ret
  rw [hv1.out] at hn2 hr2 ho2
  exact ⟨A2, n2, c2, rfl, hn2, hr2, ho2.mono hx1.size, hx1.trans hx2⟩
/-- a list of one word, laid in a block of its own -/
theorem Rd.one (w : World) {x : Nat} (hx : x ≤ 18446744073709551615) : Rd (w.alloc (.cells #[.int .u64 (x : Int)] 47)) (some ⟨w.heap.size, 0, none⟩) 1 1 [x] :=
  ⟨Rv.one w 47 _, Wf_one (by rw [WB_def]; omega)⟩
end Go.Proofs.Ytmaconeeonkdgaa

namespace Go.Proofs.Ytmaconeeonkdgaa
open Go.RowKit
/-- a word of a slice of the call's own, and what the slice is after a store -/
theorem Own.word {w : World} {base : Nat} {A : Option Addr} {n cap : Nat} {xs : List Nat} (h : Own w base 47 1 A n cap (xs.map W64)) (hw : Wf xs) {i : Nat} (hi : i < n) :
    ∃ g x, A = some ⟨g, 0, none⟩ ∧ base ≤ g ∧ Hid (xs.getD i 0 = x) ∧ x ≤ 18446744073709551615 ∧ w.cell? ⟨g, i, none⟩ = some (.int .u64 (x : Int)) ∧ w.frozen? ⟨g, i, none⟩ = false ∧
      ∀ u : Nat, Own (w.setCell ⟨g, i, none⟩ (.int .u64 (u : Int))) base 47 1 (some ⟨g, 0, none⟩) n cap ((xs.set i u).map W64) := by
  have hlen : xs.length = n := by simpa using h.rv.len
  rcases h with ⟨rfl, rfl, rfl, _⟩ | ⟨g, cs, rfl, hb, hk, hn, hm, hl, hv⟩
  · omega
  · have hlt := Wf_getD hw i
    have hi2 : i < cs.length := by omega
    refine ⟨g, _, rfl, hb, rfl, by rw [WB_def] at hlt; omega, ?_, hk.frozen i, fun u => ?_⟩
    · rw [hk.cell hi2]
      have : cs.getD i undef = (cs.take (n * 1)).getD i undef := by
        simp only [List.getD_eq_getElem?_getD, List.getElem?_take]
        rw [if_pos (by omega)]
      rw [this, hv]
      simp [List.getD_eq_getElem?_getD, List.getElem?_map, List.getElem?_eq_getElem (show i < xs.length by omega)]
    · refine Own.mk_ hb (hk.set i _) hn hm (by rw [List.length_set]; exact hl) ?_
      rw [← map_W64_set, ← hv, List.take_set]
def RetWord (w : World) (q r : Nat) (e : Ending) (w' : World) : Prop :=
  ∃ A n cap r', e = .returned (.tuple #[.slice A n cap, .int .u64 (r' : Nat), .int .i64 0]) ∧ Hid (r' = r) ∧ r' ≤ 18446744073709551615 ∧ Hid (n = (wd q).length) ∧ Rd w' A n cap (wd q) ∧ Own w' w.heap.size 47 1 A n cap ((wd q).map W64) ∧ Ext w w'
theorem word_step {l : List Nat} {k x rest d r' v V : Nat} (hk : k < l.length) (h : WB ^ (k + 1) * nv (l.drop (k + 1)) * v + WB ^ (k + 1) * rest + nv (l.take (k + 1)) = V) (hx : l.getD k 0 = x) (hs : rest * WB + x = d * v + r') :
    WB ^ k * nv ((l.set k d).drop k) * v + WB ^ k * r' + nv ((l.set k d).take k) = V := by
  have e1 : (l.set k d).take k = l.take k := by rw [List.take_set_of_le (Nat.le_refl k)]
  have e2 : (l.set k d).drop k = d :: l.drop (k + 1) := by
    rw [List.drop_eq_getElem_cons (by rw [List.length_set]; exact hk)]
    congr 1
    · simp
    · rw [List.drop_set_of_lt (by omega)]
  rw [e1, e2, nv_cons, ← h, nv_take_snoc l k hk, hx, Nat.pow_succ]
  have e3 : WB ^ k * (rest * WB + x) = WB ^ k * (d * v + r') := by rw [hs]
  have e4 : WB ^ k * (d + WB * nv (l.drop (k + 1))) * v = WB ^ k * WB * nv (l.drop (k + 1)) * v + WB ^ k * (d * v) := by
    rw [Nat.mul_add, Nat.add_mul, Nat.add_comm, ← Nat.mul_assoc (WB ^ k) WB, Nat.mul_assoc (WB ^ k) d]
  have e5 : WB ^ k * WB * rest = WB ^ k * (rest * WB) := by rw [Nat.mul_assoc, Nat.mul_comm WB rest]
  rw [e4, e5]
  simp only [Nat.mul_add] at e3
  omega
theorem divnat_Word {w : World} {A : Option Addr} {n cap : Nat} {xs : List Nat} (hx : Rd w A n cap xs) (hl : n ≤ 1099511627775) {v : Nat} (hv0 : v ≠ 0) (hvb : v ≤ 18446744073709551615) :
    Calls Try.prog 104 #[.slice A n cap, .int .u64 (v : Int)] w (RetWord w (nv xs / v) (nv xs % v)) := by
  have h0 : ((v : Int) == 0) = false := by simp; omega
  go_enter Try.func104, Try.ntmps104
  go_wp2_with fail
  refine (nat_Least hx (by omega)).mono ?_
  rintro e w1 ⟨A1, n1, c1, rfl, hn1, hr1, ho1, hx1⟩
  have hn1b : n1 ≤ n := by
    have := len_wd_nv hx.wf
    rw [hn1.out, ← hx.len]; exact this
  clear h0
  have h0 : ((v : Int) == 0) = false := by simp; omega
  go_wp2_with fail
  obtain ⟨l0, hl0⟩ : ∃ l0, wd (nv xs) = l0 := ⟨_, rfl⟩
  have hnl0 : Hid (nv l0 = nv xs) := (show _ = _ by rw [← hl0, nv_wd])
  rw [hl0] at hr1 ho1
  have hll0 : Hid (l0.length = n1) := hr1.len
  have hwl0 := hr1.wf
  clear hr1 hl0
  go_loopw [9, 8] (fun a b wr => ∃ (k r : Nat) (l : List Nat), k ≤ n1 ∧ r < v ∧ a = .int .i64 ((k : Int) - 1) ∧ b = .int .u64 (r : Int) ∧ Hid (l.length = n1) ∧ Wf l ∧ Own wr w.heap.size 47 1 A1 n1 c1 (l.map W64) ∧
    Hid (WB ^ k * nv (l.drop k) * v + WB ^ k * r + nv (l.take k) = nv xs) ∧ Ext w wr) (fun a b wr => (intOf a + 1).toNat)
  case atStart => exact ⟨n1, 0, l0, Nat.le_refl _, by omega, by go_num, rfl, hll0, hwl0, ho1, (show _ = _ by rw [List.drop_of_length_le (by rw [hll0.out]; exact Nat.le_refl _), List.take_of_length_le (by rw [hll0.out]; exact Nat.le_refl _), hnl0.out]; simp [nv]), hx1⟩
  case round =>
    obtain ⟨k, r, l, hk, hr, rfl, rfl, hll, hwl, ho, hV, hxr⟩ := hrel
    clear hll0 hwl0 ho1 hnl0
    by_cases hk0 : 0 < k
    · obtain ⟨k, rfl⟩ : ∃ j, k = j + 1 := ⟨k - 1, by omega⟩
      obtain ⟨g, x, rfl, hg, hxk, hxb, hc, hfr, hset⟩ := ho.word hwl (i := k) (by omega)
      have ek : ((k + 1 : Nat) : Int) - 1 = (k : Int) := by omega
      rw [ek]
      go_wp2_with fail
      refine (bits_Div64 hr hxb hvb _).mono ?_
      rintro e w2 ⟨d, r', hd, hr', hdb, hrv, rfl, m2, hm2⟩
      have hx2 : Ext wr w2 := by rw [hm2]; exact (Ext.refl wr).drewN m2
      clear hm2
      have ho2 := ho.ext hx2
      obtain ⟨g', x', hg', _, _, _, hc2, hfr2, hset2⟩ := ho2.word hwl (i := k) (by omega)
      cases hg'
      go_wp2_with fail
      go_roundw
      case rel =>
        refine ⟨k, r', l.set k d, by omega, hrv, rfl, rfl, (show _ = _ by rw [List.length_set]; exact hll.out), Wf_set hwl k (by rw [WB_def]; omega), hset2 d, ?_, (hxr.trans hx2).setCell hg _⟩
        refine word_step (by rw [hll.out]; omega) hV.out hxk.out ?_
        rw [hd.out, hr'.out, Nat.mul_comm _ v]; exact (Nat.div_add_mod _ _).symm
      case measure => simp [intOf]
    · obtain rfl : k = 0 := by omega
      have hVl : nv l * v + r = nv xs := by simpa [nv] using hV.out
      have hq : nv l = nv xs / v := by rw [← hVl, Nat.mul_comm, Nat.mul_add_div (by omega), Nat.div_eq_of_lt hr]; rfl
      have hrr : Hid (r = nv xs % v) := (show _ = _ by rw [← hVl, Nat.mul_comm, Nat.mul_add_mod, Nat.mod_eq_of_lt hr])
      have HQ := Lib.hid hq
      clear hq hVl
      have ek : ((0 : Nat) : Int) - 1 = -1 := rfl
      rw [ek]
      go_wp2_with fail
      refine (nat_Least (ho.rd hwl) (by omega)).mono ?_
      rintro e w2 ⟨A2, n2, c2, rfl, hn2, hr2, ho2, hx2⟩
      rw [HQ.out] at hn2 hr2 ho2
      go_wp2_with fail
      go_ret3
      exact ⟨A2, n2, c2, r, rfl, hrr, by omega, hn2, hr2, ho2.mono hxr.size, hxr.trans hx2⟩
/-- a block made by the call -/
def NewB (w : World) (v n : Nat) (e : Ending) (w' : World) : Prop :=
  ∃ g zs, e = .returned (.slice (some ⟨g, 0, none⟩) n n) ∧ w.heap.size ≤ g ∧ Bk w' g 47 (zs.map W64) ∧ Wf zs ∧ Hid (zs.length = n) ∧ Hid (nv zs = v) ∧ Ext w w'
theorem shl_word {x s : Nat} (hs : s < 64) : x * 2 ^ s % 18446744073709551616 = (x % 2 ^ (64 - s)) * 2 ^ s ∧ x * 2 ^ s = x * 2 ^ s % 18446744073709551616 + WB * (x / 2 ^ (64 - s)) := by
  have e : 18446744073709551616 = 2 ^ (64 - s) * 2 ^ s := by rw [← Nat.pow_add, Nat.sub_add_cancel (by omega)]
  have h1 : x * 2 ^ s % 18446744073709551616 = (x % 2 ^ (64 - s)) * 2 ^ s := by rw [e, Nat.mul_mod_mul_right]
  refine ⟨h1, ?_⟩
  rw [h1, WB_def, e]
  have h2 := Nat.mod_add_div x (2 ^ (64 - s))
  conv => lhs; rw [← h2]
  rw [Nat.add_mul, Nat.mul_assoc, Nat.mul_comm (x / 2 ^ (64 - s)), ← Nat.mul_assoc]
theorem shifted_step {l xs : List Nat} {i c x s r30 r32 d : Nat} (hs : s < 64) (hx : xs.getD i 0 = x) (hi : i < l.length) (hc : c < 2 ^ s) (h30 : r30 = x * 2 ^ s % 18446744073709551616) (h32 : r32 = r30 ||| c) (hd : d = x / 2 ^ (64 - s))
    (h : nv (l.take i) + WB ^ i * c = nv (xs.take i) * 2 ^ s) : nv ((l.set i r32).take (i + 1)) + WB ^ (i + 1) * d = nv (xs.take (i + 1)) * 2 ^ s := by
  obtain ⟨e1, e2⟩ := shl_word (x := x) hs
  have e3 : r32 = r30 + c := by rw [h32, h30, e1, or_join hc]
  have e4 : nv (xs.take (i + 1)) = nv (xs.take i) + WB ^ i * x := by
    by_cases hi2 : i < xs.length
    · rw [nv_take_snoc xs i hi2, hx]
    · have : x = 0 := by rw [← hx]; simp [List.getD_eq_getElem?_getD, List.getElem?_eq_none (show xs.length ≤ i by omega)]
      rw [this, List.take_of_length_le (by omega), List.take_of_length_le (by omega)]; simp
  rw [nv_set_snoc hi, e4, Nat.add_mul, ← h, e3, hd, Nat.pow_succ, Nat.mul_assoc (WB ^ i) WB, Nat.mul_assoc (WB ^ i) x, e2, ← h30]
  simp only [Nat.mul_add]
  omega
theorem shifted_lt {x s : Nat} (hx : x ≤ 18446744073709551615) (hs : s < 64) : x / 2 ^ (64 - s) < 2 ^ s := by
  refine Nat.div_lt_of_lt_mul ?_
  rw [← Nat.pow_add, Nat.sub_add_cancel (by omega)]
  omega
set_option maxHeartbeats 1000000 in
theorem divnat_shifted {w : World} {A : Option Addr} {m cap : Nat} {xs : List Nat} (hx : Rd w A m cap xs) (_hl : m ≤ 1099511627775) {s n : Nat} (hs : s < 64) (hn : n ≤ 1099511627776) (hmn : m ≤ n) (hfit : nv xs * 2 ^ s < WB ^ n) :
    Calls Try.prog 117 #[.slice A m cap, .int .u64 (s : Int), .int .i64 (n : Int)] w (NewB w (nv xs * 2 ^ s) n) := by
  have hlx := Lib.hid hx.len
  have HF := Lib.hid hfit
  clear hfit
  have hsi : (s : Int) ≤ 63 := by omega
  have hmk := run_make1 (P := Try.prog) Try.underlying25 info64 rfl (by decide) (n : Int) (by omega) (by omega)
  rw [Int.toNat_natCast] at hmk
  go_enter Try.func117, Try.ntmps117
  go_wp2_with fail
  clear hmk
  obtain ⟨g, hg⟩ : ∃ g, w.heap.size = g := ⟨_, rfl⟩
  rw [hg]
  obtain ⟨wa, hwa⟩ : ∃ wa, w.alloc (.cells (zc (.int .u64 0) n) 47) = wa := ⟨_, rfl⟩
  rw [hwa]
  have hbk : Bk wa g 47 ((List.replicate n 0).map W64) := by
    rw [← hwa, ← hg, ← replicate_W64]; exact Bk.new' _ _ _
  have hea : Ext w wa := by rw [← hwa]; exact (Ext.refl w).alloc _
  have hgs : w.heap.size ≤ g := by rw [hg]; exact Nat.le_refl _
  clear hg hwa
  go_loopw [15, 8] (fun u v wr => ∃ (i c : Nat) (l : List Nat), i ≤ n ∧ c ≤ 18446744073709551615 ∧ Hid (c < 2 ^ s) ∧ u = .int .i64 (i : Int) ∧ v = .int .u64 (c : Int) ∧ Hid (l.length = n) ∧ Wf l ∧ Bk wr g 47 (l.map W64) ∧
    Hid (nv (l.take i) + WB ^ i * c = nv (xs.take i) * 2 ^ s) ∧ Ext w wr) (fun u v wr => n - (intOf u).toNat)
  case atStart => exact ⟨0, 0, _, Nat.zero_le _, Nat.zero_le _, Nat.two_pow_pos s, rfl, rfl, List.length_replicate, Wf_zeros _, hbk, by simp [Hid, nv], hea⟩
  case round =>
    obtain ⟨i, c, l, hi, hcb, hc, rfl, rfl, hll, hwl, hb, hv, hr⟩ := hrel
    clear hbk hea
    by_cases hin : i < n
    · obtain ⟨o, ho, _, hco⟩ := hb.word hwl (i := i) (by rw [hll.out]; omega)
      have hfr := hb.frozen i
      have key : ∀ x r32 d r30 : Nat, xs.getD i 0 = x → r30 = x * 2 ^ s % 18446744073709551616 → r32 = r30 ||| c → d = x / 2 ^ (64 - s) → r32 ≤ 18446744073709551615 → x ≤ 18446744073709551615 → ∀ w2, Upd g wr w2 → Bk w2 g 47 ((l.set i r32).map W64) → Ext w w2 →
          ∃ (j c : Nat) (l : List Nat), j ≤ n ∧ c ≤ 18446744073709551615 ∧ Hid (c < 2 ^ s) ∧ Value.int .i64 ((i : Int) + 1) = .int .i64 (j : Int) ∧ Value.int .u64 (d : Int) = .int .u64 (c : Int) ∧ Hid (l.length = n) ∧ Wf l ∧ Bk w2 g 47 (l.map W64) ∧
            Hid (nv (l.take j) + WB ^ j * c = nv (xs.take j) * 2 ^ s) ∧ Ext w w2 := by
        intro x r32 d r30 h1 h2 h3 h4 h5 h6 w2 hu hb2 he
        have h7 := shifted_lt h6 hs
        rw [← h4] at h7
        have h8 : 2 ^ s ≤ 2 ^ 63 := Nat.pow_le_pow_right (by omega) (by omega)
        exact ⟨i + 1, d, l.set i r32, by omega, by omega, h7, rfl, rfl, (show _ = _ by rw [List.length_set]; exact hll.out), Wf_set hwl i (by rw [WB_def]; omega), hb2, shifted_step hs h1 (by rw [hll.out]; omega) hc.out h2 h3 h4 hv.out, he⟩
      have KEY := Lib.hid key
      clear key
      have hs64 : s ≤ 64 := by omega
      by_cases him : i < m
      · obtain ⟨a, x, rfl, hxk, hxb, hcx⟩ := (hx.ext hr).get (i := i) (by omega)
        by_cases hs0 : 0 < s
        · go_wp2_with (first
            | ((with_reducible refine at_slot (some 30) ?_); refine wpl_u64 rfl rfl rfl rfl rfl (u64_shl hs64) (by omega) ?_; intro r30 h30 hb30)
            | ((with_reducible refine at_slot (some 32) ?_); refine wpl_u64 rfl rfl rfl rfl rfl (u64_or hb30 hcb) (by have := Nat.or_lt_two_pow (n := 64) (x := r30) (y := c) (by omega) (by omega); omega) ?_; intro r32 h32 hb32)
            | ((with_reducible refine at_slot (some 38) ?_); refine wpl_u64 rfl rfl rfl rfl rfl (u64_sub (x := 64) (y := s) (by omega)) (by omega) ?_; intro r38 h38 hb38; obtain rfl : r38 = 64 - s := (by have := h38.out; omega))
            | ((with_reducible refine at_slot (some 39) ?_); refine wpl_u64 rfl rfl rfl rfl rfl (u64_shr (s := 64 - s) (by omega)) (by have := Nat.div_le_self x (2 ^ (64 - s)); omega) ?_; intro d hd hdb))
          go_roundw
          case rel => exact KEY.out x r32 d r30 hxk.out h30.out h32.out hd.out hb32 hxb _ ((Upd.refl _ _).setCell _ _) (by rw [← map_W64_set]; exact hb.set _ _) (hr.setCell hgs _)
          case measure => simp [intOf]; omega
        · go_wp2_with (first
            | ((with_reducible refine at_slot (some 30) ?_); refine wpl_u64 rfl rfl rfl rfl rfl (u64_shl hs64) (by omega) ?_; intro r30 h30 hb30)
            | ((with_reducible refine at_slot (some 32) ?_); refine wpl_u64 rfl rfl rfl rfl rfl (u64_or hb30 hcb) (by have := Nat.or_lt_two_pow (n := 64) (x := r30) (y := c) (by omega) (by omega); omega) ?_; intro r32 h32 hb32))
          go_roundw
          case rel => exact KEY.out x r32 0 r30 hxk.out h30.out h32.out (by rw [show s = 0 from by omega, Nat.div_eq_of_lt (by omega)]) hb32 hxb _ ((Upd.refl _ _).setCell _ _) (by rw [← map_W64_set]; exact hb.set _ _) (hr.setCell hgs _)
          case measure => simp [intOf]; omega
      · have hx0 : Hid (xs.getD i 0 = 0) := by
          show _ = _
          rw [List.getD_eq_getElem?_getD, List.getElem?_eq_none (by rw [hlx.out]; omega)]; rfl
        by_cases hs0 : 0 < s
        · go_wp2_with (first
            | ((with_reducible refine at_slot (some 30) ?_); refine wpl_u64 rfl rfl rfl rfl rfl (u64_shl (x := 0) hs64) (by omega) ?_; intro r30 h30 hb30)
            | ((with_reducible refine at_slot (some 32) ?_); refine wpl_u64 rfl rfl rfl rfl rfl (u64_or hb30 hcb) (by have := Nat.or_lt_two_pow (n := 64) (x := r30) (y := c) (by omega) (by omega); omega) ?_; intro r32 h32 hb32)
            | ((with_reducible refine at_slot (some 38) ?_); refine wpl_u64 rfl rfl rfl rfl rfl (u64_sub (x := 64) (y := s) (by omega)) (by omega) ?_; intro r38 h38 hb38; obtain rfl : r38 = 64 - s := (by have := h38.out; omega))
            | ((with_reducible refine at_slot (some 39) ?_); refine wpl_u64 rfl rfl rfl rfl rfl (u64_shr (x := 0) (s := 64 - s) (by omega)) (by have := Nat.div_le_self 0 (2 ^ (64 - s)); omega) ?_; intro d hd hdb))
          go_roundw
          case rel => exact KEY.out 0 r32 d r30 hx0.out h30.out h32.out hd.out hb32 (by omega) _ ((Upd.refl _ _).setCell _ _) (by rw [← map_W64_set]; exact hb.set _ _) (hr.setCell hgs _)
          case measure => simp [intOf]; omega
        · go_wp2_with (first
            | ((with_reducible refine at_slot (some 30) ?_); refine wpl_u64 rfl rfl rfl rfl rfl (u64_shl (x := 0) hs64) (by omega) ?_; intro r30 h30 hb30)
            | ((with_reducible refine at_slot (some 32) ?_); refine wpl_u64 rfl rfl rfl rfl rfl (u64_or hb30 hcb) (by have := Nat.or_lt_two_pow (n := 64) (x := r30) (y := c) (by omega) (by omega); omega) ?_; intro r32 h32 hb32))
          go_roundw
          case rel => exact KEY.out 0 r32 0 r30 hx0.out h30.out h32.out (by simp) hb32 (by omega) _ ((Upd.refl _ _).setCell _ _) (by rw [← map_W64_set]; exact hb.set _ _) (hr.setCell hgs _)
          case measure => simp [intOf]; omega
    · obtain rfl : i = n := by omega
      go_wp2_with fail
      go_ret
      refine ⟨g, l, rfl, hgs, hb, hwl, hll, ?_, hr⟩
      have h1 := hv.out
      rw [List.take_of_length_le (by rw [hll.out]; exact Nat.le_refl _), List.take_of_length_le (by rw [hlx.out]; exact hmn)] at h1
      have h2 := HF.out
      show _ = _
      rcases Nat.eq_zero_or_pos c with h0 | h0
      · rw [h0, Nat.mul_zero] at h1; exact h1
      · have := Nat.le_mul_of_pos_right (WB ^ i) h0
        omega
end Go.Proofs.Ytmaconeeonkdgaa

namespace Go.Proofs.Ytmaconeeonkdgaa
open Go.RowKit
/-- the block after give or take: all from place K on stayed -/
def GiveP (g : Nat) (zs : List Nat) (K : Nat) (P : Nat → Nat → Prop) (w w' : World) : Prop :=
  ∃ zs' c, Bk w' g 47 (zs'.map W64) ∧ Wf zs' ∧ Hid (zs'.length = zs.length) ∧ Hid (zs'.drop K = zs.drop K) ∧ c ≤ 1 ∧ Hid (P (nv zs') c) ∧ Upd g w w'
theorem drop_set_lt {l : List Nat} {i K : Nat} (h : i < K) (x : Nat) : (l.set i x).drop K = l.drop K := by rw [List.drop_set_of_lt h]
set_option maxHeartbeats 1000000 in
theorem divnat_give {w : World} {g o cap : Nat} {B : Option Addr} {m cap' : Nat} {zs ys : List Nat} (hz : Bk w g 47 (zs.map W64)) (hwz : Wf zs) (hy : Rd w B m cap' ys) (hne : ∀ a, B = some a → a.block ≠ g)
    (hK : o + m + 1 ≤ zs.length) (hm : m ≤ 1099511627776) (_ho : o ≤ 1099511627776) :
    Calls Try.prog 120 #[.slice (some ⟨g, o, none⟩) (m + 1) cap, .slice B m cap'] w (fun e w' => e = .returned (.tuple #[]) ∧ GiveP g zs (o + m + 1) (fun v c => v + WB ^ (o + m + 1) * c = nv zs + WB ^ o * nv ys) w w') := by
  have hly := Lib.hid hy.len
  have HK := Lib.hid hK
  clear hK
  go_enter Try.func120, Try.ntmps120
  go_wp2_with fail
  go_loopw [8, 4] (fun u v wr => ∃ (i c : Nat) (l : List Nat), i ≤ m ∧ c ≤ 1 ∧ u = .int .i64 (i : Int) ∧ v = .int .u64 (c : Int) ∧ Hid (l.length = zs.length) ∧ Wf l ∧ Bk wr g 47 (l.map W64) ∧ Hid (l.drop (o + m + 1) = zs.drop (o + m + 1)) ∧
    Hid (nv l + WB ^ (o + i) * c = nv zs + WB ^ o * nv (ys.take i)) ∧ Upd g w wr) (fun u v wr => m - (intOf u).toNat)
  case atStart => exact ⟨0, 0, zs, Nat.zero_le _, Nat.zero_le _, rfl, rfl, rfl, hwz, hz, rfl, by simp [Hid, nv], Upd.refl _ _⟩
  case round =>
    obtain ⟨i, c, l, hi, hc, rfl, rfl, hll, hwl, hb, hdr, hv, hr⟩ := hrel
    by_cases him : i < m
    · obtain ⟨a, y, rfl, hyk, hyb, hcy⟩ := (hy.upd hr hne).get (i := i) (by omega)
      obtain ⟨z, hzk, hzb, hcz⟩ := hb.word hwl (i := o + i) (by rw [hll.out]; have := HK.out; omega)
      have hfr := hb.frozen (o + i)
      obtain ⟨s, d, hs, hsb, hd, hadd⟩ := add64_run hc hzb hyb
      go_wp2_with fail
      go_region
      go_wp2_with fail
      go_roundw
      case rel => exact ⟨i + 1, d, l.set (o + i) s, by omega, hd, by go_num, rfl, by show _ = _; rw [List.length_set]; exact hll.out, Wf_set hwl _ (by rw [WB_def]; omega), by rw [← map_W64_set]; exact (hb.set _ _).drew,
        (show _ = _ by rw [drop_set_lt (by omega)]; exact hdr.out), addto_step (by rw [hll.out]; have := HK.out; omega) hv.out hzk.out (by rw [hly.out]; omega) hyk.out hs.out, (hr.setCell _ _).drew⟩
      case measure => simp [intOf]; omega
    · obtain rfl : i = m := by omega
      obtain ⟨z, hzk, hzb, hcz⟩ := hb.word hwl (i := o + i) (by rw [hll.out]; have := HK.out; omega)
      have hfr := hb.frozen (o + i)
      go_wp2_with ((with_reducible refine at_slot (some 34) ?_); refine wpl_u64 rfl rfl rfl rfl rfl u64_add (by omega) ?_; intro s hs hsb)
      go_end0
      refine ⟨rfl, l.set (o + i) s, (z + c) / 18446744073709551616, by rw [← map_W64_set]; exact hb.set _ _, Wf_set hwl _ (by rw [WB_def]; omega), (show _ = _ by rw [List.length_set]; exact hll.out), (show _ = _ by rw [drop_set_lt (by omega)]; exact hdr.out), by omega, ?_, hr.setCell _ _⟩
      have h := addto_step2 (k := o + i) (c := c) (s := s) (d := (z + c) / 18446744073709551616) (by rw [hll.out]; have := HK.out; omega) hv.out hzk.out (by rw [hs.out, WB_def]; exact Nat.mod_add_div _ _)
      rwa [List.take_of_length_le (by rw [hly.out]; exact Nat.le_refl _)] at h
theorem take_step {l ys : List Nat} {o i c t z y s u d hi lo lo2 cc V : Nat} (hi2 : o + i < l.length) (h : nv l + WB ^ o * (d * nv (ys.take i)) = V + WB ^ (o + i) * (c + t)) (hz : l.getD (o + i) 0 = z) (hy : i < ys.length) (hyk : ys.getD i 0 = y)
    (hp : lo + WB * hi = d * y) (ha : lo2 + WB * cc = lo + c) (hs : s + lo2 + t = z + WB * u) : nv (l.set (o + i) s) + WB ^ o * (d * nv (ys.take (i + 1))) = V + WB ^ (o + i + 1) * ((hi + cc) + u) := by
  have e1 := nv_set hi2 s
  rw [hz] at e1
  rw [nv_take_snoc ys i hy, hyk, Nat.mul_add d, Nat.mul_add (WB ^ o), show WB ^ o * (d * (WB ^ i * y)) = WB ^ (o + i) * (d * y) from by rw [Nat.pow_add, Nat.mul_left_comm d, ← Nat.mul_assoc (WB ^ o)], Nat.pow_succ, Nat.mul_assoc (WB ^ (o + i)), ← hp]
  have e2 : WB ^ (o + i) * (s + lo2 + t) = WB ^ (o + i) * (z + WB * u) := by rw [hs]
  have e3 : WB ^ (o + i) * (lo2 + WB * cc) = WB ^ (o + i) * (lo + c) := by rw [ha]
  simp only [Nat.mul_add] at e2 e3 h ⊢
  omega
theorem take_step2 {l : List Nat} {k c t z s u A V : Nat} (hi2 : k < l.length) (h : nv l + A = V + WB ^ k * (c + t)) (hz : l.getD k 0 = z) (hs : s + c + t = z + WB * u) :
    nv (l.set k s) + A = V + WB ^ (k + 1) * u := by
  have e1 := nv_set hi2 s
  rw [hz] at e1
  rw [Nat.pow_succ, Nat.mul_assoc]
  have e2 : WB ^ k * (s + c + t) = WB ^ k * (z + WB * u) := by rw [hs]
  simp only [Nat.mul_add] at e2 h ⊢
  omega
theorem take_carry {hi lo c lo2 cc d y : Nat} (hd : d ≤ 18446744073709551615) (hy : y ≤ 18446744073709551615) (hc : c ≤ 18446744073709551615) (hp : lo + WB * hi = d * y) (ha : lo2 + WB * cc = lo + c) : hi + cc ≤ 18446744073709551615 := by
  have h1 : d * y ≤ 18446744073709551615 * 18446744073709551615 := Nat.mul_le_mul hd hy
  rw [WB_def] at hp ha
  omega
set_option maxHeartbeats 2000000 in
theorem divnat_take {w : World} {g o cap : Nat} {B : Option Addr} {m cap' : Nat} {zs ys : List Nat} (hz : Bk w g 47 (zs.map W64)) (hwz : Wf zs) (hy : Rd w B m cap' ys) (hne : ∀ a, B = some a → a.block ≠ g)
    (hK : o + m + 1 ≤ zs.length) (hm : m ≤ 1099511627776) (_ho : o ≤ 1099511627776) {d : Nat} (hd : d ≤ 18446744073709551615) :
    Calls Try.prog 119 #[.slice (some ⟨g, o, none⟩) (m + 1) cap, .slice B m cap', .int .u64 (d : Int)] w (fun e w' => ∃ b : Bool, e = .returned (.bool b) ∧ GiveP g zs (o + m + 1) (fun v c => (b = true ↔ c = 1) ∧ v + WB ^ o * (d * nv ys) = nv zs + WB ^ (o + m + 1) * c) w w') := by
  have hly := Lib.hid hy.len
  have HK := Lib.hid hK
  clear hK
  go_enter Try.func119, Try.ntmps119
  go_wp2_with fail
  go_loopw [16, 7, 8] (fun u v x wr => ∃ (i c t : Nat) (l : List Nat), i ≤ m ∧ c ≤ 18446744073709551615 ∧ t ≤ 1 ∧ u = .int .i64 (i : Int) ∧ v = .int .u64 (c : Int) ∧ x = .int .u64 (t : Int) ∧ Hid (l.length = zs.length) ∧ Wf l ∧ Bk wr g 47 (l.map W64) ∧ Hid (l.drop (o + m + 1) = zs.drop (o + m + 1)) ∧
    Hid (nv l + WB ^ o * (d * nv (ys.take i)) = nv zs + WB ^ (o + i) * (c + t)) ∧ Upd g w wr) (fun u v x wr => m - (intOf u).toNat)
  case atStart => exact ⟨0, 0, 0, zs, Nat.zero_le _, Nat.zero_le _, Nat.zero_le _, rfl, rfl, rfl, rfl, hwz, hz, rfl, by simp [Hid, nv], Upd.refl _ _⟩
  case round =>
    obtain ⟨i, c, t, l, hi, hc, ht, rfl, rfl, rfl, hll, hwl, hb, hdr, hv, hr⟩ := hrel
    by_cases him : i < m
    · obtain ⟨a, y, rfl, hyk, hyb, hcy⟩ := (hy.upd hr hne).get (i := i) (by omega)
      obtain ⟨z, hzk, hzb, hcz⟩ := hb.word hwl (i := o + i) (by rw [hll.out]; have := HK.out; omega)
      have hfr := hb.frozen (o + i)
      go_wp2_with fail
      refine (bits_Mul64 d y hd hyb _).mono ?_
      rintro e w1 ⟨hi', lo, hp, hhb, hlb, rfl, rfl⟩
      obtain ⟨lo2, cc, hlo2, hlo2b, hccb, hadd⟩ := add64_run0 hlb hc
      obtain ⟨s, u, hs, hsb, hu, hsub⟩ := sub64_run ht hzb hlo2b
      have hcar : (hi' : Int) + (cc : Int) ≤ 18446744073709551615 := by have := take_carry hd hyb hc hp.out hlo2.out; omega
      go_wp2_with fail
      go_roundw
      case rel => exact ⟨i + 1, hi' + cc, u, l.set (o + i) s, by omega, by omega, hu, by go_num, by go_num, rfl, by show _ = _; rw [List.length_set]; exact hll.out, Wf_set hwl _ (by rw [WB_def]; omega), by rw [← map_W64_set]; exact (hb.set _ _),
        (show _ = _ by rw [drop_set_lt (by omega)]; exact hdr.out), take_step (by rw [hll.out]; have := HK.out; omega) hv.out hzk.out (by rw [hly.out]; omega) hyk.out hp.out hlo2.out hs.out, (hr.setCell _ _)⟩
      case measure => simp [intOf]; omega
    · obtain rfl : i = m := by omega
      obtain ⟨z, hzk, hzb, hcz⟩ := hb.word hwl (i := o + i) (by rw [hll.out]; have := HK.out; omega)
      have hfr := hb.frozen (o + i)
      obtain ⟨s, u, hs, hsb, hu, hsub⟩ := sub64_run ht hzb hc
      have hfin := take_step2 (k := o + i) (by rw [hll.out]; have := HK.out; omega) hv.out hzk.out hs.out
      rw [List.take_of_length_le (by rw [hly.out]; exact Nat.le_refl _)] at hfin
      have HFIN := Lib.hid hfin
      clear hfin
      go_wp2_with fail
      go_ret
      refine ⟨_, rfl, l.set (o + i) s, u, by rw [← map_W64_set]; exact hb.set _ _, Wf_set hwl _ (by rw [WB_def]; omega), (show _ = _ by rw [List.length_set]; exact hll.out), (show _ = _ by rw [drop_set_lt (by omega)]; exact hdr.out), hu, ⟨?_, HFIN.out⟩, hr.setCell _ _⟩
      simp
      omega
def GuessP (u2 u1 u0 v1 v0 : Nat) (w : World) (e : Ending) (w' : World) : Prop :=
  ∃ d : Nat, e = .returned (.int .u64 (d : Int)) ∧ d ≤ 18446744073709551615 ∧ Hid (d * (v1 * WB + v0) ≤ (u2 * WB + u1) * WB + u0) ∧ Hid (d = 18446744073709551615 ∨ (u2 * WB + u1) * WB + u0 < (d + 1) * (v1 * WB + v0)) ∧ ∃ m, w' = w.drewN m
theorem guess_only {d D T V : Nat} (h1 : d ≤ 18446744073709551615) (h2 : d * V ≤ T) (h3 : d = 18446744073709551615 ∨ T < (d + 1) * V) (k1 : D ≤ 18446744073709551615) (k2 : D * V ≤ T) (k3 : D = 18446744073709551615 ∨ T < (D + 1) * V) : d = D := by
  have key : ∀ a b : Nat, a ≤ 18446744073709551615 → a * V ≤ T → (b = 18446744073709551615 ∨ T < (b + 1) * V) → a ≤ b := by
    intro a b ha h k
    rcases k with k | k
    · omega
    · refine Nat.le_of_not_lt (fun hlt => ?_)
      have := Nat.mul_le_mul_right V (Nat.succ_le_of_lt hlt)
      rw [Nat.succ_eq_add_one] at this
      omega
  exact Nat.le_antisymm (key _ _ h1 h2 k3) (key _ _ k1 k2 h3)
theorem guess_is (T V : Nat) (hV : 0 < V) : ∃ D : Nat, D ≤ 18446744073709551615 ∧ D * V ≤ T ∧ (D = 18446744073709551615 ∨ T < (D + 1) * V) := by
  by_cases h : T / V ≤ 18446744073709551615
  · exact ⟨T / V, h, Nat.div_mul_le_self _ _, Or.inr (by rw [Nat.mul_comm]; exact Nat.lt_mul_div_succ T hV)⟩
  · refine ⟨18446744073709551615, Nat.le_refl _, ?_, Or.inl rfl⟩
    have h1 := Nat.div_mul_le_self T V
    have h2 := Nat.mul_le_mul_right V (Nat.le_of_lt (Nat.lt_of_not_le h))
    omega
/-- the guess under way -/
structure Gs (u2 u1 u0 v1 v0 d rest : Nat) : Prop where
  eq : d * v1 + rest = u2 * WB + u1
  top : d = 18446744073709551615 ∨ (u2 * WB + u1) * WB + u0 < (d + 1) * (v1 * WB + v0)
theorem Gs.done {u2 u1 u0 v1 v0 d rest : Nat} (h : Gs u2 u1 u0 v1 v0 d rest) (hd : d * v0 ≤ rest * WB + u0) : d * (v1 * WB + v0) ≤ (u2 * WB + u1) * WB + u0 := by
  rw [← h.eq, Nat.add_mul, Nat.mul_add, ← Nat.mul_assoc]
  omega
theorem Gs.step {u2 u1 u0 v1 v0 d rest : Nat} (h : Gs u2 u1 u0 v1 v0 (d + 1) rest) (hd : rest * WB + u0 < (d + 1) * v0) : Gs u2 u1 u0 v1 v0 d (rest + v1) := by
  refine ⟨?_, Or.inr ?_⟩
  · rw [← h.eq, Nat.succ_mul]; omega
  · rw [← h.eq, Nat.mul_add, Nat.add_mul, ← Nat.mul_assoc]
    omega
theorem Gs.cmp {hi lo p rest u0 : Nat} (hp : lo + WB * hi = p) (hlo : lo ≤ 18446744073709551615) (hu : u0 ≤ 18446744073709551615) : (hi < rest ∨ hi = rest ∧ lo ≤ u0) ↔ p ≤ rest * WB + u0 := by
  rw [← hp, WB_def]
  omega
theorem Gs.over {d v0 rest u0 : Nat} (hd : d ≤ 18446744073709551615) (hv : v0 ≤ 18446744073709551615) (hr : 18446744073709551616 ≤ rest) : d * v0 ≤ rest * WB + u0 := by
  have h1 : d * v0 ≤ 18446744073709551615 * 18446744073709551615 := Nat.mul_le_mul hd hv
  rw [WB_def]
  omega
theorem divnat_guess {u2 u1 u0 v1 v0 : Nat} (h2 : u2 ≤ v1) (h1 : u1 ≤ 18446744073709551615) (h0 : u0 ≤ 18446744073709551615) (hv1 : v1 ≤ 18446744073709551615) (hv0 : v0 ≤ 18446744073709551615) (hpos : 0 < v1) (w : World) :
    Calls Try.prog 118 #[.int .u64 (u2 : Int), .int .u64 (u1 : Int), .int .u64 (u0 : Int), .int .u64 (v1 : Int), .int .u64 (v0 : Int)] w (GuessP u2 u1 u0 v1 v0 w) := by
  go_enter Try.func118, Try.ntmps118
  go_wp2_with fail
  go_step3
  go_upto_if 21 with (fail)
  go_cut [11, 12] (fun a b wc => ∃ d r : Nat, a = .int .u64 (d : Int) ∧ b = .int .u64 (r : Int) ∧ d ≤ 18446744073709551615 ∧ r ≤ 18446744073709551615 ∧ Hid (Gs u2 u1 u0 v1 v0 d r) ∧ ∃ m, wc = w.drewN m)
  case first =>
    by_cases hlt : v1 ≤ u2
    · obtain ⟨s, c, hs, hsb, hc, hadd⟩ := add64_run0 h1 hv1
      have hG : Hid (Gs u2 u1 u0 v1 v0 18446744073709551615 (u1 + v1)) := by
        refine ⟨?_, Or.inl rfl⟩
        obtain rfl : u2 = v1 := by omega
        rw [WB_def]; omega
      by_cases hc0 : c = 0
      · subst hc0
        have b0 : ((0 : Int) != 0) = false := rfl
        go_wp2_with fail
        go_meet
        case rel =>
          have e : s = u1 + v1 := by have := hs.out; omega
          exact ⟨18446744073709551615, s, rfl, rfl, by omega, hsb, by rw [e]; exact hG, 0, rfl⟩
      · obtain rfl : c = 1 := by omega
        have b1 : ((1 : Int) != 0) = true := rfl
        go_wp2_with fail
        simp only [Exit.noGoto_ret]
        go_ret
        exact ⟨18446744073709551615, rfl, by omega, hG.out.done (Gs.over (by omega) hv0 (by have := hs.out; rw [WB_def] at this; omega)), Or.inl rfl, 0, rfl⟩
    · go_wp2_with fail
      refine (bits_Div64 (show u2 < v1 by omega) h1 hv1 _).mono ?_
      rintro e w1 ⟨d, r, hd, hr, hdb, hrb, rfl, m1, rfl⟩
      go_wp2_with fail
      go_meet
      case rel =>
        have e1 : d * v1 + r = u2 * WB + u1 := by rw [hd.out, hr.out, Nat.mul_comm]; exact Nat.div_add_mod _ _
        refine ⟨d, r, rfl, rfl, hdb, by omega, ⟨e1, Or.inr ?_⟩, m1, rfl⟩
        rw [← e1, Nat.add_mul, Nat.add_mul, Nat.one_mul, Nat.mul_add, ← Nat.mul_assoc]
        have h3 : r * WB + WB ≤ v1 * WB := by
          have := Nat.mul_le_mul_right WB (Nat.succ_le_of_lt hrb)
          rwa [Nat.succ_mul] at this
        have h4 : u0 < WB := by rw [WB_def]; omega
        omega
  case rest =>
    obtain ⟨d0, r0, rfl, rfl, hd0, hr0, hG0, hx0⟩ := hcut
    go_wp2_with fail
    go_step3
    go_wp2_with fail
    go_loopw [11, 12] (fun a b wr => ∃ d r : Nat, a = .int .u64 (d : Int) ∧ b = .int .u64 (r : Int) ∧ d ≤ 18446744073709551615 ∧ r ≤ 18446744073709551615 ∧ Hid (Gs u2 u1 u0 v1 v0 d r) ∧ wc = wr) (fun a b wr => (intOf a).toNat)
    case atStart => exact ⟨d0, r0, rfl, rfl, hd0, hr0, hG0, rfl⟩
    case round =>
      obtain ⟨d, r, rfl, rfl, hd, hr, hG, rfl⟩ := hrel
      clear hG0 hd0 hr0
      go_wp2_with fail
      refine (bits_Mul64 d v0 hd hv0 _).mono ?_
      rintro e w1 ⟨hi, lo, hp, hhb, hlb, rfl, rfl⟩
      have hcmp := Lib.hid (Gs.cmp (rest := r) hp.out hlb h0)
      have fin : ∀ d : Nat, d ≤ 18446744073709551615 → d * (v1 * WB + v0) ≤ (u2 * WB + u1) * WB + u0 → (d = 18446744073709551615 ∨ (u2 * WB + u1) * WB + u0 < (d + 1) * (v1 * WB + v0)) → GuessP u2 u1 u0 v1 v0 w (.returned (.int .u64 (d : Int))) wc := fun d a b c => ⟨d, rfl, a, b, c, hx0⟩
      have FIN := Lib.hid fin
      clear fin
      have bad : ¬ d * v0 ≤ r * WB + u0 → ∃ d', d = d' + 1 ∧ Gs u2 u1 u0 v1 v0 d' (r + v1) := by
        intro h
        cases d with
        | zero => simp at h
        | succ d' => exact ⟨d', rfl, hG.out.step (by omega)⟩
      have BAD := Lib.hid bad
      clear bad
      obtain ⟨s, c, hs, hsb, hc, hadd⟩ := add64_run0 hr hv1
      by_cases hA : hi < r
      · go_wp2_with fail
        go_ret
        exact FIN.out d hd (hG.out.done (hcmp.out.1 (Or.inl hA))) hG.out.top
      · by_cases hB : hi = r
        · have b1 : ((hi : Int) == (r : Int)) = true := by simp [hB]
          have HB := Lib.hid hB
          clear hB
          by_cases hC : lo ≤ u0
          · go_wp2_with fail
            go_ret
            exact FIN.out d hd (hG.out.done (hcmp.out.1 (Or.inr ⟨HB.out, hC⟩))) hG.out.top
          · obtain ⟨d', rfl, hG'⟩ := BAD.out (fun h => by have := hcmp.out.2 h; have := HB.out; omega)
            have HG' := Lib.hid hG'
            clear hG'
            have ed : ((d' + 1 : Nat) : Int) - 1 = (d' : Int) := by omega
            by_cases hc0 : c = 0
            · subst hc0
              have b0 : ((0 : Int) != 0) = false := rfl
              go_wp2_with fail
              go_roundw
              case rel => exact ⟨d', s, rfl, rfl, by omega, hsb, by rw [show s = r + v1 from by have := hs.out; omega]; exact HG', trivial⟩
              case measure => simp [intOf]
            · obtain rfl : c = 1 := by omega
              have b0 : ((1 : Int) != 0) = true := rfl
              go_wp2_with fail
              go_ret
              exact FIN.out d' (by omega) (HG'.out.done (Gs.over (by omega) hv0 (by have := hs.out; rw [WB_def] at this; omega))) HG'.out.top
        · have b1 : ((hi : Int) == (r : Int)) = false := by simp; omega
          obtain ⟨d', rfl, hG'⟩ := BAD.out (fun h => by have := hcmp.out.2 h; omega)
          have HG' := Lib.hid hG'
          clear hG'
          have ed : ((d' + 1 : Nat) : Int) - 1 = (d' : Int) := by omega
          by_cases hc0 : c = 0
          · subst hc0
            have b0 : ((0 : Int) != 0) = false := rfl
            go_wp2_with fail
            go_roundw
            case rel => exact ⟨d', s, rfl, rfl, by omega, hsb, by rw [show s = r + v1 from by have := hs.out; omega]; exact HG', trivial⟩
            case measure => simp [intOf]
          · obtain rfl : c = 1 := by omega
            have b0 : ((1 : Int) != 0) = true := rfl
            go_wp2_with fail
            go_ret
            exact FIN.out d' (by omega) (HG'.out.done (Gs.over (by omega) hv0 (by have := hs.out; rw [WB_def] at this; omega))) HG'.out.top
end Go.Proofs.Ytmaconeeonkdgaa

namespace Go.Proofs.Ytmaconeeonkdgaa
open Go.RowKit
theorem wrap_i64_nat {n : Nat} (h : n ≤ 9223372036854775807) : IntKind.i64.wrap (n : Int) = (n : Int) := by
  simp only [IntKind.wrap, IntKind.bits, IntKind.signed]
  simp
  omega
theorem i64_quo {x y : Nat} (hy : y ≠ 0) (hx : x ≤ 9223372036854775807) (P : Program) (t : TypeId) (w : World) : (binOp .quo t (.int .i64 (x : Int)) (.int .i64 (y : Int))).run P w = .ok (.int .i64 ((x / y : Nat) : Int)) w := by
  have h1 := Nat.div_le_self x y
  have e : IntKind.i64.wrap ((x : Int).tdiv (y : Int)) = ((x / y : Nat) : Int) := by
    have : (x : Int).tdiv (y : Int) = ((x / y : Nat) : Int) := by rw [Int.tdiv_eq_ediv_of_nonneg (by omega)]; simp
    rw [this, wrap_i64_nat (by omega)]
  simp only [binOp, Op.intDiv]
  simp [hy]
  rw [show (↑x / ↑y : Int) = ((x / y : Nat) : Int) from by simp] at *
  simpa [Int.tdiv_eq_ediv_of_nonneg] using e
theorem i64_rem {x y : Nat} (hy : y ≠ 0) (hx : x ≤ 9223372036854775807) (P : Program) (t : TypeId) (w : World) : (binOp .rem t (.int .i64 (x : Int)) (.int .i64 (y : Int))).run P w = .ok (.int .i64 ((x % y : Nat) : Int)) w := by
  have h1 := Nat.mod_le x y
  have e : IntKind.i64.wrap ((x : Int).tmod (y : Int)) = ((x % y : Nat) : Int) := by
    have : (x : Int).tmod (y : Int) = ((x % y : Nat) : Int) := by rw [Int.tmod_eq_emod_of_nonneg (by omega)]; simp
    rw [this, wrap_i64_nat (by omega)]
  simp only [binOp, Op.intDiv]
  simp [hy]
  rw [show (↑x % ↑y : Int) = ((x % y : Nat) : Int) from by simp] at *
  simp [Int.tmod_eq_emod_of_nonneg]
/-- a rule of one operation of two places, with its result behind a name -/
theorem wpl_i64 {P : Program} {w : World} {ops : Array Oper} {rest : List Oper} {o : Oper} {a : Act} {Q : Exit → Act → World → Prop} (hgd : o.guard = none) {op : BinOp} {t ty : TypeId} {x y : Operand} (ho : o.op = .binOp op t x y ty)
    {vx vy : Value} {f : Nat} (hx : a.eval x = vx) (hy : a.eval y = vy) (hne : (op matches .eql | .neq) = false) (hr : ∀ (P : Program) (t : TypeId) (w : World), (binOp op t vx vy).run P w = .ok (.int .i64 (f : Int)) w)
    (h : ∀ r : Nat, Hid (r = f) → wpList P ops Q rest (a.put o.dst (.int .i64 (r : Int))) w) : wpList P ops Q (o :: rest) a w :=
  wpl_bin hgd ho hx hy hne (fun w => hr P t w) (h f rfl)
theorem bits_or_u64 {x y : Nat} (hx : x ≤ 18446744073709551615) (hy : y ≤ 18446744073709551615) : bits BinOp.or IntKind.u64 (x : Int) (y : Int) = ((x ||| y : Nat) : Int) := by
  have e : IntKind.u64.wrap ((BitVec.ofInt 64 (x : Int) ||| BitVec.ofInt 64 (y : Int)).toNat : Int) = ((x ||| y : Nat) : Int) := by
    rw [BitVec.toNat_or, ofInt_64 hx, ofInt_64 hy, wrap_u64_nat, Nat.mod_eq_of_lt (Nat.or_lt_two_pow (n := 64) (by omega) (by omega))]
  exact e
theorem wrap_shl (x k : Nat) : IntKind.u64.wrap ((x : Int) * 2 ^ k) = ((x * 2 ^ k % 18446744073709551616 : Nat) : Int) := by
  rw [← wrap_u64_nat]; simp
theorem shr_word {x y s : Nat} (hs : s < 64) : x / 2 ^ s ||| (y * 2 ^ (64 - s) % 18446744073709551616) = x / 2 ^ s + (y % 2 ^ s) * 2 ^ (64 - s) ∨ 18446744073709551616 ≤ x := by
  by_cases hx : x < 18446744073709551616
  · left
    have e : 18446744073709551616 = 2 ^ s * 2 ^ (64 - s) := by rw [← Nat.pow_add, show s + (64 - s) = 64 from by omega]
    have h1 : y * 2 ^ (64 - s) % 18446744073709551616 = (y % 2 ^ s) * 2 ^ (64 - s) := by rw [e, Nat.mul_mod_mul_right]
    have h2 : x / 2 ^ s < 2 ^ (64 - s) := Nat.div_lt_of_lt_mul (by rw [← e]; exact hx)
    rw [h1, Nat.or_comm, or_join h2, Nat.add_comm]
  · right; omega
theorem shr_step {l xs : List Nat} {i x y z s : Nat} (hi : i < l.length) (hix : i < xs.length) (hx : xs.getD i 0 = x) (_hy : xs.getD (i + 1) 0 = y) (hz : z = x / 2 ^ s + (y % 2 ^ s) * 2 ^ (64 - s)) (hs : s < 64) {r0 : Nat}
    (h : nv (l.take i) * 2 ^ s + r0 = nv (xs.take i) + WB ^ i * (x % 2 ^ s)) : nv ((l.set i z).take (i + 1)) * 2 ^ s + r0 = nv (xs.take (i + 1)) + WB ^ (i + 1) * (y % 2 ^ s) := by
  rw [nv_set_snoc hi, nv_take_snoc xs i hix, hx, Nat.add_mul]
  have e1 : z * 2 ^ s = x / 2 ^ s * 2 ^ s + WB * (y % 2 ^ s) := by
    rw [hz, Nat.add_mul, Nat.mul_assoc, ← Nat.pow_add, Nat.sub_add_cancel (by omega), ← WB_pow, Nat.mul_comm WB]
  have e2 : x / 2 ^ s * 2 ^ s + x % 2 ^ s = x := by rw [Nat.mul_comm]; exact Nat.div_add_mod _ _
  have e3 : WB ^ i * x = WB ^ i * (x / 2 ^ s * 2 ^ s) + WB ^ i * (x % 2 ^ s) := by rw [← Nat.mul_add, e2]
  rw [Nat.mul_assoc (WB ^ i) z, e1, e3, Nat.pow_succ, Nat.mul_assoc (WB ^ i) WB, Nat.mul_add]
  omega
set_option maxHeartbeats 2000000 in
theorem nat_Shr {w : World} {A : Option Addr} {m cap : Nat} {xs : List Nat} (hx : Rd w A m cap xs) (hl : m ≤ 1099511627775) {n : Nat} (hn : n ≤ 9223372036854775807) :
    Calls Try.prog 121 #[.slice A m cap, .int .i64 (n : Int)] w (RetWE w (nv xs / 2 ^ n) 0) := by
  go_enter Try.func121, Try.ntmps121
  go_wp2_with fail
  refine (nat_size hx (by omega)).mono ?_
  rintro e w' ⟨k, hk, hkn, rfl, rfl⟩
  go_upto_region 4 with (first
    | ((with_reducible refine at_slot (some 16) ?_); refine wpl_i64 rfl rfl rfl rfl rfl (i64_quo (x := n) (y := 64) (by omega) hn) ?_; intro q hq)
    | ((with_reducible refine at_slot (some 18) ?_); refine wpl_i64 rfl rfl rfl rfl rfl (i64_rem (x := n) (y := 64) (by omega) hn) ?_; intro s hs; have hs64 : s < 64 := (by rw [hs.out]; exact Nat.mod_lt _ (by omega)); have hqb : q ≤ 9223372036854775807 := (by have := hq.out; omega)))
  have hnqs : Hid (n = 64 * q + s) := (show _ = _ by rw [hq.out, hs.out]; exact (Nat.div_add_mod _ _).symm)
  clear hq hs
  have hlx := Lib.hid hx.len
  by_cases hkq : k ≤ q
  · go_wp2_with fail
    go_ret2
    refine RetWE_of (RetW_nil ?_ (Ext.refl w))
    refine Nat.div_eq_of_lt ?_
    rw [hnqs.out, Nat.pow_add, Nat.pow_mul, ← WB_pow]
    have h1 := lt_pow_len (nv xs)
    rw [← hk.out] at h1
    have h2 : WB ^ k ≤ WB ^ q := Nat.pow_le_pow_right WB_pos hkq
    have h3 := Nat.le_mul_of_pos_right (WB ^ q) (Nat.two_pow_pos s)
    omega
  · obtain ⟨p, hkp⟩ : ∃ p, k = q + p := ⟨k - q, by omega⟩
    have hp : 0 < p := by omega
    obtain ⟨ys, hys⟩ : ∃ ys, (xs.take k).drop q = ys := ⟨_, rfl⟩
    have hyl : Hid (ys.length = p) := (show _ = _ by rw [← hys, List.length_drop, List.length_take, hlx.out]; omega)
    have hyv : Hid (nv xs / 2 ^ n = nv ys / 2 ^ s) := by
      show _ = _
      rw [hnqs.out, Nat.pow_add, Nat.pow_mul, ← WB_pow, ← Nat.div_div_eq_div_mul]
      congr 1
      have h1 := nv_take_len hx.wf hk.out
      have h2 := nv_split (xs.take k) q (by rw [List.length_take, hlx.out]; omega)
      have h3 := nv_take_lt (Wf_take hx.wf k) q
      rw [← h1, h2, hys, Nat.add_comm, Nat.mul_add_div (Nat.pow_pos WB_pos), Nat.div_eq_of_lt h3, Nat.add_zero]
    have hyg : Hid (∀ i, i < p → ys.getD i 0 = xs.getD (q + i) 0) := by
      intro i hi
      rw [← hys]
      simp only [List.getD_eq_getElem?_getD, List.getElem?_drop, List.getElem?_take]
      rw [if_pos (by omega)]
    clear hys hk
    have hmk := run_make1 (P := Try.prog) Try.underlying25 info64 rfl (by decide) ((k : Int) - (q : Int)) (by omega) (by omega)
    have et : ((k : Int) - (q : Int)).toNat = p := by omega
    rw [et] at hmk
    clear et
    have hxn := Lib.hid hnqs.out
    clear hnqs
    have hnk : ¬ (k : Int) ≤ (q : Int) := by omega
    have hnk0 : ¬ (k : Int) - (q : Int) < 0 := by omega
    have HL := Lib.hid hl
    clear hqb hn
    have hkp1 : k ≤ q + p := by omega
    have hkp2 : q + p ≤ k := by omega
    clear hkp
    go_wp2_with fail
    clear hmk
    obtain ⟨g, hg⟩ : ∃ g, w.heap.size = g := ⟨_, rfl⟩
    rw [hg]
    obtain ⟨wa, hwa⟩ : ∃ wa, w.alloc (.cells (zc (.int .u64 0) p) 47) = wa := ⟨_, rfl⟩
    rw [hwa]
    have hbk : Bk wa g 47 ((List.replicate p 0).map W64) := by
      rw [← hwa, ← hg, ← replicate_W64]; exact Bk.new' _ _ _
    have hea : Ext w wa := by rw [← hwa]; exact (Ext.refl w).alloc _
    have hgs : w.heap.size ≤ g := by rw [hg]; exact Nat.le_refl _
    clear hg hwa
    have hsb : (s : Int) ≤ 63 := by omega
    have hs64' : s ≤ 64 := by omega
    go_loopw [29] (fun u wr => ∃ (i : Nat) (l : List Nat), i ≤ p ∧ u = .int .i64 (i : Int) ∧ Hid (l.length = p) ∧ Wf l ∧ Bk wr g 47 (l.map W64) ∧
      Hid (nv (l.take i) * 2 ^ s + ys.getD 0 0 % 2 ^ s = nv (ys.take i) + WB ^ i * (ys.getD i 0 % 2 ^ s)) ∧ Ext w wr) (fun u wr => p - (intOf u).toNat)
    case atStart => exact ⟨0, _, Nat.zero_le _, rfl, List.length_replicate, Wf_zeros _, hbk, by simp [Hid, nv], hea⟩
    case round =>
      obtain ⟨i, l, hi, rfl, hll, hwl, hb, hv, hr⟩ := hrel
      clear hbk hea
      by_cases hip : i < p
      · obtain ⟨a, x, rfl, hxk, hxb, hcx⟩ := (hx.ext hr).get (i := q + i) (by omega)
        obtain ⟨o, ho, _, hco⟩ := hb.word hwl (i := i) (by rw [hll.out]; omega)
        have hfr := hb.frozen i
        have hxy : Hid (ys.getD i 0 = x) := (show _ = _ by rw [hyg.out i hip]; exact hxk.out)
        by_cases hi1 : i + 1 < p
        · obtain ⟨a', y, ha', hyk, hyb, hcy⟩ := (hx.ext hr).get (i := q + i + 1) (by omega)
          cases ha'
          have hyy : Hid (ys.getD (i + 1) 0 = y) := (show _ = _ by rw [hyg.out (i + 1) hi1]; exact hyk.out)
          go_upto_region 12 with ((with_reducible refine at_slot (some 41) ?_); refine wpl_u64 rfl rfl rfl rfl rfl (u64_shr hs64') (by have := Nat.div_le_self x (2 ^ s); omega) ?_; intro z hz hzb)
          obtain ⟨w2, hw2⟩ : ∃ w2, wr.setCell ⟨g, i, none⟩ (.int .u64 (z : Int)) = w2 := ⟨_, rfl⟩
          rw [hw2]
          have hb2 : Bk w2 g 47 ((l.set i z).map W64) := by rw [← hw2, ← map_W64_set]; exact hb.set i _
          have hr2 : Ext w w2 := by rw [← hw2]; exact hr.setCell hgs _
          have hwl2 : Wf (l.set i z) := Wf_set hwl i (by rw [WB_def]; omega)
          have hll2 : Hid ((l.set i z).length = p) := (show _ = _ by rw [List.length_set]; exact hll.out)
          have hz2 : Hid ((l.set i z).getD i 0 = z) := (show _ = _ by have := hll.out; simp [List.getD_eq_getElem?_getD, this, hip])
          clear hw2
          obtain ⟨z2, hzk2, hzb2, hcz2⟩ := hb2.word hwl2 (i := i) (by rw [hll2.out]; omega)
          obtain rfl : z2 = z := by rw [← hzk2.out, hz2.out]
          have hfr2 := hb2.frozen i
          obtain ⟨a2, y2, ha2, hyk2, _, hcy2⟩ := (hx.ext hr2).get (i := q + i + 1) (by omega)
          cases ha2
          obtain rfl : y2 = y := by rw [← hyk2.out, hyk.out]
          clear hcy hco hb hr hfr hcx hzk2 hyk2
          have hcy4 : w2.cell? (⟨a.block, a.off + (q + i + 1), none⟩ : Addr) = some (.int .u64 (y2 : Int)) := by simpa [Addr.add] using hcy2
          clear hcy2
          have hmb : y2 * 2 ^ (64 - s) % 18446744073709551616 ≤ 18446744073709551615 := by omega
          obtain ⟨r, hrd⟩ : ∃ r, z2 ||| (y2 * 2 ^ (64 - s) % 18446744073709551616) = r := ⟨_, rfl⟩
          have hrb : r ≤ 18446744073709551615 := by
            have := Nat.or_lt_two_pow (n := 64) (x := z2) (y := y2 * 2 ^ (64 - s) % 18446744073709551616) (by omega) (by omega)
            omega
          have hbits : Hid (bits BinOp.or IntKind.u64 (z2 : Int) (IntKind.u64.wrap ((y2 : Int) * 2 ^ (64 - s))) = (r : Int)) := by
            show _ = _
            rw [wrap_shl, bits_or_u64 hzb hmb, hrd]
          have hsum : Hid (r = x / 2 ^ s + (y2 % 2 ^ s) * 2 ^ (64 - s)) := by
            show _ = _
            rw [← hrd, hz.out]
            rcases shr_word (x := x) (y := y2) hs64 with h | h
            · exact h
            · omega
          clear hrd hmb
          go_region
          rw [hbits.out]
          go_wp2_with fail
          go_roundw
          case rel =>
            refine ⟨i + 1, (l.set i z2).set i r, by omega, by go_num, (show _ = _ by rw [List.length_set, hll2.out]), Wf_set hwl2 i (by rw [WB_def]; omega), by rw [← map_W64_set]; exact (hb2.set i _).drew, ?_, (hr2.setCell hgs _).drew⟩
            show _ = _
            rw [List.set_set, hyy.out]
            exact shr_step (by rw [hll.out]; omega) (by rw [hyl.out]; omega) hxy.out hyy.out hsum.out hs64 (by rw [← hxy.out]; exact hv.out)
          case measure => simp [intOf]; omega
        · have hi2 : ¬ (q : Int) + (i : Int) + 1 < (k : Int) := by omega
          have hyz : Hid (ys.getD (i + 1) 0 = 0) := by
            show _ = _
            rw [List.getD_eq_getElem?_getD, List.getElem?_eq_none (by rw [hyl.out]; omega)]; rfl
          go_wp2_with ((with_reducible refine at_slot (some 41) ?_); refine wpl_u64 rfl rfl rfl rfl rfl (u64_shr hs64') (by have := Nat.div_le_self x (2 ^ s); omega) ?_; intro z hz hzb)
          go_roundw
          case rel =>
            refine ⟨i + 1, l.set i z, by omega, by go_num, (show _ = _ by rw [List.length_set, hll.out]), Wf_set hwl i (by rw [WB_def]; omega), by rw [← map_W64_set]; exact hb.set i _, ?_, hr.setCell hgs _⟩
            have := shr_step (l := l) (y := 0) (z := z) (by rw [hll.out]; omega) (by rw [hyl.out]; omega) hxy.out hyz.out (by rw [hz.out]; simp) hs64 (by rw [← hxy.out]; exact hv.out)
            show _ = _
            rw [hyz.out]
            exact this
          case measure => simp [intOf]; omega
      · obtain rfl : i = p := by omega
        have hval : Hid (nv l = nv xs / 2 ^ n) := by
          show _ = _
          have h := hv.out
          rw [List.take_of_length_le (by rw [hll.out]; exact Nat.le_refl _), List.take_of_length_le (by rw [hyl.out]; exact Nat.le_refl _)] at h
          have h0 : ys.getD i 0 = 0 := by rw [List.getD_eq_getElem?_getD, List.getElem?_eq_none (by rw [hyl.out]; exact Nat.le_refl _)]; rfl
          rw [h0, Nat.zero_mod, Nat.mul_zero, Nat.add_zero] at h
          have h1 := Nat.mod_lt (ys.getD 0 0) (Nat.two_pow_pos s)
          rw [hyv.out, ← h, Nat.mul_comm, Nat.mul_add_div (Nat.two_pow_pos s), Nat.div_eq_of_lt h1, Nat.add_zero]
        have hr2 : Rd wr (some ⟨g, 0, none⟩) i i l := by
          have := hb.rd hwl (o := 0) (n := i) (cap := i) (Nat.le_refl _) (by rw [hll.out]; omega) (by rw [len_maxLen]; omega)
          rwa [List.drop_zero, List.take_of_length_le (by rw [hll.out]; omega)] at this
        have hpm : i ≤ m := by omega
        clear hkp1 hkp2
        go_wp2_with fail
        refine (nat_size hr2 (by omega)).mono ?_
        rintro e w' ⟨t, ht, htn, rfl, rfl⟩
        go_wp2_with fail
        go_ret2
        rw [← hval.out]
        exact RetWE_of (RetW_mk (ys := l) hgs hb hll.out htn (by rw [len_maxLen]; omega) (wd_take_len hwl ht.out).symm hr)
end Go.Proofs.Ytmaconeeonkdgaa

namespace Go.Proofs.Ytmaconeeonkdgaa
open Go.RowKit
/-- a quotient and a rest -/
def RetQR (w : World) (q r : Nat) (e : Ending) (w' : World) : Prop :=
  ∃ A n cap B m cap', e = .returned (.tuple #[.slice A n cap, .slice B m cap']) ∧ Hid (n = (wd q).length) ∧ Rd w' A n cap (wd q) ∧ Own w' w.heap.size 47 1 A n cap ((wd q).map W64) ∧
    Hid (m = (wd r).length) ∧ Rd w' B m cap' (wd r) ∧ Own w' w.heap.size 47 1 B m cap' ((wd r).map W64) ∧ Ext w w'
/-- the guess of a quotient's digit: right, or one too great -/
theorem guess_near {U V M Uh Vh d : Nat} (hM : 0 < M) (hUh : Uh = U / M) (hVh : Vh = V / M) (hbig : WB ≤ Vh) (hd : d < WB) (h1 : d * Vh ≤ Uh) (h2 : d = 18446744073709551615 ∨ Uh < (d + 1) * Vh) (hU : U < V * WB) : U / V ≤ d ∧ d ≤ U / V + 1 := by
  have hV : 0 < V := by
    rcases Nat.eq_zero_or_pos V with h | h
    · rw [h, Nat.zero_mul] at hU; omega
    · exact h
  constructor
  · rcases h2 with h | h
    · have : U / V < WB := Nat.div_lt_of_lt_mul hU
      rw [WB_def] at this
      omega
    · have h3 : U / V * Vh ≤ Uh := by
        rw [hUh, Nat.le_div_iff_mul_le hM]
        have h4 : Vh * M ≤ V := by rw [hVh]; exact Nat.div_mul_le_self _ _
        have h5 := Nat.mul_le_mul_left (U / V) h4
        have h6 := Nat.div_mul_le_self U V
        rw [← Nat.mul_assoc] at h5
        omega
      have h7 : U / V * Vh < (d + 1) * Vh := by omega
      have := Nat.lt_of_mul_lt_mul_right h7
      omega
  · refine Nat.le_of_not_lt (fun hlt => ?_)
    have h3 : d * Vh * M ≤ U := by
      have := Nat.mul_le_mul_right M h1
      have h4 : Uh * M ≤ U := by rw [hUh]; exact Nat.div_mul_le_self _ _
      omega
    have h4 : V < (Vh + 1) * M := by rw [hVh, Nat.mul_comm]; exact Nat.lt_mul_div_succ V hM
    have h5 : U < (U / V + 1) * V := by rw [Nat.mul_comm]; exact Nat.lt_mul_div_succ U hV
    have h6 : (U / V + 1) * V ≤ (d - 1) * V := Nat.mul_le_mul_right V (by omega)
    have h7 : (d - 1) * V ≤ (d - 1) * ((Vh + 1) * M) := Nat.mul_le_mul_left _ (Nat.le_of_lt h4)
    have h8 : d * Vh * M < (d - 1) * (Vh + 1) * M := by
      rw [Nat.mul_assoc (d - 1)]
      exact Nat.lt_of_le_of_lt h3 (Nat.lt_of_lt_of_le h5 (Nat.le_trans h6 h7))
    have h9 := Nat.lt_of_mul_lt_mul_right h8
    have hd0 : 0 < d := Nat.lt_of_le_of_lt (Nat.zero_le _) hlt
    clear hlt h3 h4 h5 h6 h7 h8
    obtain ⟨d, rfl⟩ : ∃ e, d = e + 1 := ⟨d - 1, by omega⟩
    rw [Nat.add_sub_cancel, Nat.succ_mul, Nat.mul_add, Nat.mul_one] at h9
    omega
theorem long_case {D L K L1 d c : Nat} (hD : 0 < D) (hd1 : L / D ≤ d) (hd2 : d ≤ L / D + 1) (_hK : L < K) (hL1 : L1 < K) (h : L1 + d * D = L + K * c) (hc : c ≤ 1) :
    (c = 0 → d = L / D ∧ L1 = L % D) ∧ (c = 1 → d = L / D + 1 ∧ ∀ L2 c2, c2 ≤ 1 → L2 < K → L2 + K * c2 = L1 + D → L2 = L % D) := by
  have e1 := Nat.div_add_mod L D
  have e2 := Nat.mod_lt L hD
  generalize L / D = q at *
  generalize L % D = r at *
  have hdd : d = q ∨ d = q + 1 := by omega
  have e3 : d * D = D * q ∨ d * D = D * q + D ∧ d = q + 1 := by
    rcases hdd with rfl | rfl
    · left; exact Nat.mul_comm _ _
    · right; exact ⟨by rw [Nat.succ_mul, Nat.mul_comm], rfl⟩
  have e4 : d * D = D * q + D ∨ d * D = D * q ∧ d = q := by
    rcases hdd with rfl | rfl
    · right; exact ⟨Nat.mul_comm _ _, rfl⟩
    · left; rw [Nat.succ_mul, Nat.mul_comm]
  generalize d * D = a at *
  generalize D * q = b at *
  constructor
  · rintro rfl
    rw [Nat.mul_zero, Nat.add_zero] at h
    rcases e4 with e4 | ⟨e4, e5⟩
    · omega
    · exact ⟨e5, by omega⟩
  · rintro rfl
    rw [Nat.mul_one] at h
    rcases e3 with e3 | ⟨e3, e5⟩
    · omega
    · refine ⟨e5, fun L2 c2 hc2 hL2 h2 => ?_⟩
      rcases (show c2 = 0 ∨ c2 = 1 by omega) with rfl | rfl <;> omega
/-- what the loop holds, k digits before its end -/
structure Lg (V U0 k : Nat) (l ql : List Nat) : Prop where
  eq : U0 = WB ^ k * nv (ql.drop k) * V + nv l
  lt : nv l < V * WB ^ k
theorem Lg.step {V U0 j q : Nat} {l l2 ql : List Nat} (h : Lg V U0 (j + 1) l ql) (hj : j < ql.length) (hV : 0 < V) (hq : q = nv l / (WB ^ j * V)) (hl2 : nv l2 = nv l % (WB ^ j * V)) : Lg V U0 j l2 (ql.set j q) := by
  have hD : 0 < WB ^ j * V := Nat.mul_pos (Nat.pow_pos WB_pos) hV
  have e2 : (ql.set j q).drop j = q :: ql.drop (j + 1) := by
    rw [List.drop_eq_getElem_cons (by rw [List.length_set]; exact hj)]
    congr 1
    · simp
    · rw [List.drop_set_of_lt (by omega)]
  refine ⟨?_, ?_⟩
  · have e3 := Nat.div_add_mod (nv l) (WB ^ j * V)
    rw [← hq, ← hl2] at e3
    rw [h.eq, e2, nv_cons, Nat.mul_add, Nat.add_mul, Nat.pow_succ, Nat.mul_assoc (WB ^ j) WB, ← e3]
    have e4 : WB ^ j * q * V = WB ^ j * V * q := Nat.mul_right_comm _ _ _
    omega
  · rw [hl2, Nat.mul_comm V]; exact Nat.mod_lt _ hD
/-- the three words at the top of a list -/
theorem top_three {l : List Nat} {j n : Nat} (hn : 2 ≤ n) (hl : j + n + 1 ≤ l.length) (hw : Wf l) (hlt : nv l < WB ^ (j + n + 1)) :
    nv l / WB ^ (j + n - 2) = (l.getD (j + n) 0 * WB + l.getD (j + n - 1) 0) * WB + l.getD (j + n - 2) 0 := by
  obtain ⟨m, rfl⟩ : ∃ m, n = m + 2 := ⟨n - 2, by omega⟩
  have e0 := nv_split l (j + (m + 2) + 1) hl
  have e00 : nv l = nv (l.take (j + (m + 2) + 1)) := by
    rcases Nat.eq_zero_or_pos (nv (l.drop (j + (m + 2) + 1))) with h | h
    · rw [h, Nat.mul_zero, Nat.add_zero] at e0; exact e0
    · have := Nat.le_mul_of_pos_right (WB ^ (j + (m + 2) + 1)) h
      omega
  have e1 := nv_take_snoc l (j + (m + 2)) (by omega)
  have e2 := nv_take_snoc l (j + m + 1) (by omega)
  have e3 := nv_take_snoc l (j + m) (by omega)
  rw [show j + m + 1 + 1 = j + (m + 2) from by omega] at e2
  rw [show j + (m + 2) - 2 = j + m from by omega, show j + (m + 2) - 1 = j + m + 1 from by omega, e00, e1, e2, e3]
  have h4 := nv_take_lt hw (j + m)
  rw [show WB ^ (j + (m + 2)) = WB ^ (j + m) * (WB * WB) from by rw [show j + (m + 2) = j + m + 1 + 1 from by omega, Nat.pow_succ, Nat.pow_succ, Nat.mul_assoc], show WB ^ (j + m + 1) = WB ^ (j + m) * WB from Nat.pow_succ _ _]
  generalize l.getD (j + (m + 2)) 0 = u2
  generalize l.getD (j + m + 1) 0 = u1
  generalize l.getD (j + m) 0 = u0
  have e5 : nv (l.take (j + m)) + WB ^ (j + m) * u0 + WB ^ (j + m) * WB * u1 + WB ^ (j + m) * (WB * WB) * u2 = WB ^ (j + m) * ((u2 * WB + u1) * WB + u0) + nv (l.take (j + m)) := by
    have e6 : WB ^ (j + m) * WB * u1 = WB ^ (j + m) * (u1 * WB) := by rw [Nat.mul_assoc, Nat.mul_comm WB u1]
    have e7 : WB ^ (j + m) * (WB * WB) * u2 = WB ^ (j + m) * (u2 * WB * WB) := by rw [Nat.mul_assoc, Nat.mul_comm (WB * WB), ← Nat.mul_assoc u2]
    rw [e6, e7, Nat.add_mul, Nat.mul_add, Nat.mul_add]
    omega
  rw [e5, Nat.mul_add_div (Nat.pow_pos WB_pos), Nat.div_eq_of_lt h4, Nat.add_zero]
theorem top_two {l : List Nat} {n : Nat} (hn : 2 ≤ n) (hl : l.length = n) (hw : Wf l) : nv l / WB ^ (n - 2) = l.getD (n - 1) 0 * WB + l.getD (n - 2) 0 := by
  obtain ⟨m, rfl⟩ : ∃ m, n = m + 2 := ⟨n - 2, by omega⟩
  have e0 : nv l = nv (l.take (m + 1 + 1)) := by rw [List.take_of_length_le (by omega)]
  have e1 := nv_take_snoc l (m + 1) (by omega)
  have e2 := nv_take_snoc l m (by omega)
  have h4 := nv_take_lt hw m
  rw [show m + 2 - 2 = m from rfl, show m + 2 - 1 = m + 1 from rfl, e0, e1, e2, Nat.pow_succ]
  generalize l.getD (m + 1) 0 = u1
  generalize l.getD m 0 = u0
  have e5 : nv (l.take m) + WB ^ m * u0 + WB ^ m * WB * u1 = WB ^ m * (u1 * WB + u0) + nv (l.take m) := by
    rw [Nat.mul_assoc, Nat.mul_comm WB u1, Nat.mul_add]; omega
  rw [e5, Nat.mul_add_div (Nat.pow_pos WB_pos), Nat.div_eq_of_lt h4, Nat.add_zero]
/-- the guess, for the list under way -/
theorem long_guess {V U0 j n d : Nat} {l vs ql : List Nat} (h : Lg V U0 (j + 1) l ql) (hn : 2 ≤ n) (hl : j + n + 1 ≤ l.length) (hw : Wf l) (hvl : vs.length = n) (hvw : Wf vs) (hV : nv vs = V) (hv1 : 0 < vs.getD (n - 1) 0) :
    nv l < WB ^ (j + n + 1) ∧ l.getD (j + n) 0 ≤ vs.getD (n - 1) 0 ∧ (d ≤ 18446744073709551615 → d * (vs.getD (n - 1) 0 * WB + vs.getD (n - 2) 0) ≤ (l.getD (j + n) 0 * WB + l.getD (j + n - 1) 0) * WB + l.getD (j + n - 2) 0 →
      (d = 18446744073709551615 ∨ (l.getD (j + n) 0 * WB + l.getD (j + n - 1) 0) * WB + l.getD (j + n - 2) 0 < (d + 1) * (vs.getD (n - 1) 0 * WB + vs.getD (n - 2) 0)) → nv l / (WB ^ j * V) ≤ d ∧ d ≤ nv l / (WB ^ j * V) + 1) := by
  have hVlt : V < WB ^ n := by rw [← hV, ← hvl]; exact nv_lt hvw
  have hlt : nv l < WB ^ (j + n + 1) := by
    have h1 := h.lt
    have h2 : V * WB ^ (j + 1) ≤ WB ^ n * WB ^ (j + 1) := Nat.mul_le_mul_right _ (Nat.le_of_lt hVlt)
    rw [← Nat.pow_add, show n + (j + 1) = j + n + 1 from by omega] at h2
    omega
  have t3 := top_three hn hl hw hlt
  have t2 := top_two hn hvl hvw
  rw [hV] at t2
  refine ⟨hlt, ?_, ?_⟩
  · have h1 : WB ^ (j + n) * l.getD (j + n) 0 ≤ nv l := by
      have e0 := nv_split l (j + n + 1) hl
      have e1 := nv_take_snoc l (j + n) (by omega)
      omega
    have h2 : V < WB ^ (n - 1) * (vs.getD (n - 1) 0 + 1) := by
      have e1 := nv_take_snoc vs (n - 1) (by omega)
      rw [Nat.sub_add_cancel (by omega), List.take_of_length_le (by omega), hV] at e1
      have e2 := nv_take_lt hvw (n - 1)
      rw [e1, Nat.mul_add, Nat.mul_one]
      omega
    have h3 : V * WB ^ (j + 1) < WB ^ (n - 1) * (vs.getD (n - 1) 0 + 1) * WB ^ (j + 1) := Nat.mul_lt_mul_of_pos_right h2 (Nat.pow_pos WB_pos)
    rw [Nat.mul_right_comm, ← Nat.pow_add, show n - 1 + (j + 1) = j + n from by omega] at h3
    have h4 := h.lt
    have h5 : WB ^ (j + n) * l.getD (j + n) 0 < WB ^ (j + n) * (vs.getD (n - 1) 0 + 1) := by omega
    have := Nat.lt_of_mul_lt_mul_left h5
    omega
  · intro hd h1 h2
    rw [← t3] at h1 h2
    rw [← t2] at h1 h2
    have hVh : V / WB ^ (n - 2) = (WB ^ j * V) / WB ^ (j + n - 2) := by
      rw [show j + n - 2 = j + (n - 2) from by omega, Nat.pow_add, Nat.mul_div_mul_left _ _ (Nat.pow_pos WB_pos)]
    refine guess_near (M := WB ^ (j + n - 2)) (Nat.pow_pos WB_pos) rfl hVh ?_ (by rw [WB_def]; omega) h1 h2 ?_
    · rw [t2]
      have := Nat.le_mul_of_pos_left WB hv1
      omega
    · have := h.lt
      rw [Nat.pow_succ, ← Nat.mul_assoc, Nat.mul_comm V] at this
      exact this
theorem long_end {X Y s Q L : Nat} (hY : 0 < Y) (h : X * 2 ^ s = Q * (Y * 2 ^ s) + L) (hL : L < Y * 2 ^ s) : Q = X / Y ∧ L / 2 ^ s = X % Y := by
  have hp := Nat.two_pow_pos s
  have h1 : X * 2 ^ s / (Y * 2 ^ s) = Q := by rw [h, Nat.mul_comm Q, Nat.mul_add_div (Nat.mul_pos hY hp), Nat.div_eq_of_lt hL, Nat.add_zero]
  have h2 : X * 2 ^ s % (Y * 2 ^ s) = L := by rw [h, Nat.mul_comm Q, Nat.mul_add_mod, Nat.mod_eq_of_lt hL]
  rw [Nat.mul_div_mul_right _ _ hp] at h1
  rw [Nat.mul_mod_mul_right] at h2
  exact ⟨h1.symm, by rw [← h2, Nat.mul_div_cancel _ hp]⟩
/-- the lists that the division begins with -/
theorem long_start {xs ys : List Nat} {N n s y : Nat} (hx : Wf xs) (hy : Wf ys) (hxl : xs.length = N) (hyl : ys.length = n) (hn : 1 ≤ n) (hnN : n ≤ N) (hyk : ys.getD (n - 1) 0 = y) (hy0 : y ≠ 0) (hyb : y ≤ 18446744073709551615) (hs : s + blen y = 64) :
    s < 64 ∧ nv ys * 2 ^ s < WB ^ n ∧ nv xs * 2 ^ s < WB ^ (N + 1) ∧ 0 < nv ys * 2 ^ s ∧ WB ^ (n - 1) ≤ nv ys * 2 ^ s ∧ nv xs * 2 ^ s < nv ys * 2 ^ s * WB ^ (N + 1 - n) := by
  have hb : blen y ≠ 0 := fun h => hy0 (blen_eq_zero.1 h)
  have hp := Nat.two_pow_pos s
  have e1 := nv_take_snoc ys (n - 1) (by omega)
  rw [Nat.sub_add_cancel hn, List.take_of_length_le (by omega), hyk] at e1
  have h1 := nv_take_lt hy (n - 1)
  have h2 : WB ^ (n - 1) ≤ nv ys := by
    have := Nat.le_mul_of_pos_right (WB ^ (n - 1)) (show 0 < y by omega)
    omega
  have h3 : nv ys ≤ nv ys * 2 ^ s := Nat.le_mul_of_pos_right _ hp
  have h4 := lt_blen y
  have hX := nv_lt hx
  rw [hxl] at hX
  have hpw := Nat.pow_pos (n := n - 1) WB_pos
  refine ⟨by omega, ?_, ?_, by omega, by omega, ?_⟩
  · have h5 : nv ys < WB ^ (n - 1) * (y + 1) := by rw [Nat.mul_add, Nat.mul_one]; omega
    have h6 : WB ^ (n - 1) * (y + 1) ≤ WB ^ (n - 1) * 2 ^ blen y := Nat.mul_le_mul_left _ h4
    have h7 : nv ys * 2 ^ s < WB ^ (n - 1) * 2 ^ blen y * 2 ^ s := Nat.mul_lt_mul_of_pos_right (by omega) hp
    rw [Nat.mul_assoc, ← Nat.pow_add, Nat.add_comm (blen y), hs, ← WB_pow, ← Nat.pow_succ, Nat.succ_eq_add_one, Nat.sub_add_cancel hn] at h7
    exact h7
  · rw [Nat.pow_succ]
    have h5 : 2 ^ s ≤ WB := by rw [WB_pow]; exact Nat.pow_le_pow_right (by omega) (by omega)
    have h6 := Nat.mul_lt_mul_of_pos_right hX hp
    have h7 := Nat.mul_le_mul_left (WB ^ N) h5
    omega
  · have h5 : WB ^ N ≤ nv ys * WB ^ (N + 1 - n) := by
      have := Nat.mul_le_mul_right (WB ^ (N + 1 - n)) h2
      rw [← Nat.pow_add, show n - 1 + (N + 1 - n) = N from by omega] at this
      exact this
    rw [Nat.mul_right_comm]
    exact Nat.mul_lt_mul_of_pos_right (by omega) hp
end Go.Proofs.Ytmaconeeonkdgaa

namespace Go.Proofs.Ytmaconeeonkdgaa
open Go.RowKit
theorem guess_quiet {u2 u1 u0 v1 v0 D : Nat} (h2 : u2 ≤ v1) (h1 : u1 ≤ 18446744073709551615) (h0 : u0 ≤ 18446744073709551615) (hv1 : v1 ≤ 18446744073709551615) (hv0 : v0 ≤ 18446744073709551615) (hpos : 0 < v1)
    (k1 : D ≤ 18446744073709551615) (k2 : D * (v1 * WB + v0) ≤ (u2 * WB + u1) * WB + u0) (k3 : D = 18446744073709551615 ∨ (u2 * WB + u1) * WB + u0 < (D + 1) * (v1 * WB + v0)) (w : World) (n : Nat) :
    Calls Try.prog 118 #[.int .u64 (u2 : Int), .int .u64 (u1 : Int), .int .u64 (u0 : Int), .int .u64 (v1 : Int), .int .u64 (v0 : Int)] (w.drewN n) (fun e w'' => e = .returned (.int .u64 (D : Int)) ∧ ∃ m, w'' = w.drewN m) := by
  refine Calls.quiet_of ((divnat_guess h2 h1 h0 hv1 hv0 hpos (w.drewN n)).mono ?_)
  rintro e w' ⟨d, rfl, a, b, c, m, rfl⟩
  rw [guess_only a b.out c.out k1 k2 k3]
  exact ⟨rfl, m, rfl⟩
theorem lt_of_drop {l l1 : List Nat} {K : Nat} (hl : K ≤ l.length) (hl1 : K ≤ l1.length) (hw : Wf l1) (hd : l1.drop K = l.drop K) (h : nv l < WB ^ K) : nv l1 < WB ^ K := by
  have e1 := nv_split l K hl
  have e2 := nv_split l1 K hl1
  have h3 := nv_take_lt hw K
  rw [hd] at e2
  rcases Nat.eq_zero_or_pos (nv (l.drop K)) with h0 | h0
  · rw [h0, Nat.mul_zero] at e2; omega
  · have := Nat.le_mul_of_pos_right (WB ^ K) h0
    omega
set_option maxRecDepth 10000 in
set_option maxHeartbeats 8000000 in
theorem divnat_long {w : World} {A B : Option Addr} {N cap n cap' : Nat} {xs ys : List Nat} (hx : Rd w A N cap xs) (hN : N ≤ 274877906944) (hy : Rd w B n cap' ys) (hn : 2 ≤ n) (hnN : n ≤ N) (htop : ys.getD (n - 1) 0 ≠ 0) :
    Calls Try.prog 105 #[.slice A N cap, .slice B n cap'] w (RetQR w (nv xs / nv ys) (nv xs % nv ys)) := by
  obtain ⟨b, y, rfl, hyk, hyb, hcy⟩ := hy.get (i := n - 1) (by omega)
  have hlx := Lib.hid hx.len
  have hly := Lib.hid hy.len
  have hyp : (0 : Int) < (n : Int) := by omega
  go_enter Try.func105, Try.ntmps105
  go_wp2_with fail
  refine (bits_LeadingZeros64 y hyb _).mono ?_
  rintro e w' ⟨s, hs, hs64', rfl, rfl⟩
  have hstart := long_start hx.wf hy.wf hlx.out hly.out (by omega) hnN hyk.out (by rw [← hyk.out]; exact htop) hyb hs.out
  obtain ⟨hs64, hVfit, hUfit, hVpos, hVlow, hUV⟩ := hstart
  have HVfit := Lib.hid hVfit
  have HUfit := Lib.hid hUfit
  have HVpos := Lib.hid hVpos
  have HVlow := Lib.hid hVlow
  have HUV := Lib.hid hUV
  clear hVfit hUfit hVpos hVlow hUV htop
  go_wp2_with fail
  refine (divnat_shifted hy (by omega) hs64 (by omega) (Nat.le_refl _) HVfit.out).mono ?_
  rintro e w1 ⟨gv, vs, rfl, hgv, hbv, hwv, hlv, hvv, hx1⟩
  go_wp2_with fail
  refine (divnat_shifted (n := N + 1) (hx.ext hx1) (by omega) hs64 (by omega) (by omega) HUfit.out).mono ?_
  rintro e w2 ⟨gu, us, rfl, hgu, hbu, hwu, hlu, hvu, hx2⟩
  obtain ⟨M, hM1, hM2⟩ : ∃ M, M + n ≤ N + 1 ∧ N + 1 ≤ M + n := ⟨N + 1 - n, by omega, by omega⟩
  have hmk := run_make1 (P := Try.prog) Try.underlying25 info64 rfl (by decide) ((N : Int) - (n : Int) + 1) (by omega) (by omega)
  have et : ((N : Int) - (n : Int) + 1).toNat = M := by omega
  rw [et] at hmk
  clear et
  go_wp2_with fail
  clear hmk
  have hbv2 := hbv.ext hx2
  have hguv : gv < gu := Nat.lt_of_lt_of_le hbv.lt hgu
  obtain ⟨gq, hgq⟩ : ∃ gq, w2.heap.size = gq := ⟨_, rfl⟩
  rw [hgq]
  have hguq : gu < gq := by rw [← hgq]; exact hbu.lt
  obtain ⟨wa, hwa⟩ : ∃ wa, w2.alloc (.cells (zc (.int .u64 0) M) 47) = wa := ⟨_, rfl⟩
  rw [hwa]
  have hbq : Bk wa gq 47 ((List.replicate M 0).map W64) := by
    rw [← hwa, ← hgq, ← replicate_W64]; exact Bk.new' _ _ _
  have hea : Ext w2 wa := by rw [← hwa]; exact (Ext.refl w2).alloc _
  have hgw : w.heap.size ≤ gv := hgv
  have hgw2 : w.heap.size ≤ gu := by omega
  have hgw3 : w.heap.size ≤ gq := by omega
  have hbva := hbv2.ext hea
  have hbua := hbu.ext hea
  have hexa : Ext w wa := (hx1.trans hx2).trans hea
  clear hgq hwa hbv hbu hbv2 hea hcy
  have hL0 : Hid (Lg (nv ys * 2 ^ s) (nv xs * 2 ^ s) M us (List.replicate M 0)) := by
    refine ⟨?_, ?_⟩
    · rw [List.drop_of_length_le (by rw [List.length_replicate]; exact Nat.le_refl _), hvu.out]; simp [nv]
    · rw [hvu.out, show M = N + 1 - n from by omega]; exact HUV.out
  have hv1 : Hid (0 < vs.getD (n - 1) 0) := by
    refine Nat.pos_of_ne_zero (fun h0 => ?_)
    have e1 := nv_take_zero vs (n - 1) (by rw [hlv.out]; omega) h0
    rw [Nat.sub_add_cancel (by omega), List.take_of_length_le (by rw [hlv.out]; exact Nat.le_refl _), hvv.out] at e1
    have e2 := nv_take_lt hwv (n - 1)
    have := HVlow.out
    omega
  go_loopw [11] (fun u wr => ∃ (k : Nat) (l ql : List Nat), k ≤ M ∧ u = .int .i64 ((k : Int) - 1) ∧ Hid (l.length = N + 1) ∧ Wf l ∧ Hid (ql.length = M) ∧ Wf ql ∧ Bk wr gv 47 (vs.map W64) ∧ Bk wr gu 47 (l.map W64) ∧ Bk wr gq 47 (ql.map W64) ∧
    Hid (Lg (nv ys * 2 ^ s) (nv xs * 2 ^ s) k l ql) ∧ Ext w wr) (fun u wr => (intOf u + 1).toNat)
  case atStart => exact ⟨M, us, _, Nat.le_refl _, val_int (by omega), hlu, hwu, List.length_replicate, Wf_zeros _, hbva, hbua, hbq, hL0, hexa⟩
  case round =>
    obtain ⟨k, l, ql, hk, rfl, hll, hwl, hlq, hwq, hbv, hbu, hbq', hL, hr⟩ := hrel
    clear hbva hbua hbq hexa hL0 hlu hvu
    by_cases hk0 : 0 < k
    · obtain ⟨j, rfl⟩ : ∃ j, k = j + 1 := ⟨k - 1, by omega⟩
      have ek : ((j + 1 : Nat) : Int) - 1 = (j : Int) := by omega
      rw [ek]
      obtain ⟨u2, hu2k, hu2b, hcu2⟩ := hbu.word hwl (i := j + n) (by rw [hll.out]; omega)
      obtain ⟨u1, hu1k, hu1b, hcu1⟩ := hbu.word hwl (i := j + n - 1) (by rw [hll.out]; omega)
      obtain ⟨u0, hu0k, hu0b, hcu0⟩ := hbu.word hwl (i := j + n - 2) (by rw [hll.out]; omega)
      obtain ⟨v1, hv1k, hv1b, hcv1⟩ := hbv.word hwv (i := n - 1) (by rw [hlv.out]; omega)
      obtain ⟨v0, hv0k, hv0b, hcv0⟩ := hbv.word hwv (i := n - 2) (by rw [hlv.out]; omega)
      have hgs := fun d => long_guess (d := d) hL.out hn (by rw [hll.out]; omega) hwl hlv.out hwv hvv.out hv1.out
      rw [hu2k.out, hu1k.out, hu0k.out, hv1k.out, hv0k.out] at hgs
      have hu2v : u2 ≤ v1 := (hgs 0).2.1
      have hv1p : 0 < v1 := by rw [← hv1k.out]; exact hv1.out
      have HGS := Lib.hid hgs
      clear hgs
      have hfin : ∀ (q : Nat) (l2 : List Nat) (wr2 : World), q = nv l / (WB ^ j * (nv ys * 2 ^ s)) → nv l2 = nv l % (WB ^ j * (nv ys * 2 ^ s)) → q ≤ 18446744073709551615 → l2.length = N + 1 → Wf l2 → Bk wr2 gv 47 (vs.map W64) → Bk wr2 gu 47 (l2.map W64) → Bk wr2 gq 47 ((ql.set j q).map W64) → Ext w wr2 →
          ∃ (k : Nat) (l ql : List Nat), k ≤ M ∧ Value.int .i64 ((j : Int) - 1) = .int .i64 ((k : Int) - 1) ∧ Hid (l.length = N + 1) ∧ Wf l ∧ Hid (ql.length = M) ∧ Wf ql ∧ Bk wr2 gv 47 (vs.map W64) ∧ Bk wr2 gu 47 (l.map W64) ∧ Bk wr2 gq 47 (ql.map W64) ∧
            Hid (Lg (nv ys * 2 ^ s) (nv xs * 2 ^ s) k l ql) ∧ Ext w wr2 := by
        intro q l2 wr2 h1 h2 h3 h4 h5 h6 h7 h8 h9
        exact ⟨j, l2, ql.set j q, by omega, rfl, h4, h5, (show _ = _ by rw [List.length_set]; exact hlq.out), Wf_set hwq j (by rw [WB_def]; omega), h6, h7, h8, hL.out.step (by rw [hlq.out]; omega) HVpos.out h1 h2, h9⟩
      have FIN := Lib.hid hfin
      clear hfin
      go_upto_region 9 with (fail)
      obtain ⟨d, hdb, hd1, hd2⟩ := guess_is ((u2 * WB + u1) * WB + u0) (v1 * WB + v0) (by rw [WB_def]; omega)
      have hdd := Lib.hid ((HGS.out d).2.2 hdb hd1 hd2)
      have HLT := Lib.hid (HGS.out d).1
      have HD1 := Lib.hid hd1
      have HD2 := Lib.hid hd2
      clear hd1 hd2 HGS
      have w1e : IntKind.i64.wrap ((j : Int) + (n : Int)) = (j : Int) + (n : Int) := IntWalk.i64_in _ (by omega)
      have w2e : IntKind.i64.wrap ((j : Int) + (n : Int) - 1) = (j : Int) + (n : Int) - 1 := IntWalk.i64_in _ (by omega)
      have w3e : IntKind.i64.wrap ((j : Int) + (n : Int) - 2) = (j : Int) + (n : Int) - 2 := IntWalk.i64_in _ (by omega)
      have w4e : IntKind.i64.wrap ((n : Int) - 1) = (n : Int) - 1 := IntWalk.i64_in _ (by omega)
      have w5e : IntKind.i64.wrap ((n : Int) - 2) = (n : Int) - 2 := IntWalk.i64_in _ (by omega)
      have t1 : ((j : Int) + (n : Int)).toNat = j + n := by omega
      have t2 : ((j : Int) + (n : Int) - 1).toNat = j + n - 1 := by omega
      have t3 : ((j : Int) + (n : Int) - 2).toNat = j + n - 2 := by omega
      have t4 : ((n : Int) - 1).toNat = n - 1 := by omega
      have t5 : ((n : Int) - 2).toNat = n - 2 := by omega
      have b1 : 0 ≤ (j : Int) + (n : Int) := by omega
      have b2 : 0 ≤ (j : Int) + (n : Int) - 1 := by omega
      have b3 : 0 ≤ (j : Int) + (n : Int) - 2 := by omega
      have b4 : 0 ≤ (n : Int) - 1 := by omega
      have b5 : 0 ≤ (n : Int) - 2 := by omega
      have c1 : (j : Int) + (n : Int) < (N : Int) + 1 := by omega
      have c2 : (j : Int) + (n : Int) - 1 < (N : Int) + 1 := by omega
      have c3 : (j : Int) + (n : Int) - 2 < (N : Int) + 1 := by omega
      have c4 : (n : Int) - 1 < (n : Int) := by omega
      have c5 : (n : Int) - 2 < (n : Int) := by omega
      go_quiet (exact guess_quiet hu2v hu1b hu0b hv1b hv0b hv1p hdb HD1.out HD2.out _ _)
      clear w1e w2e w3e w4e w5e t1 t2 t3 t4 t5 b1 b2 b3 b4 b5 c1 c2 c3 c4 c5
      obtain ⟨wd, hwd⟩ : ∃ wd, wr.drewN nq = wd := ⟨_, rfl⟩
      rw [hwd]
      have hbu1 : Bk wd gu 47 (l.map W64) := by rw [← hwd]; exact hbu.drewN nq
      have hbv1 : Bk wd gv 47 (vs.map W64) := by rw [← hwd]; exact hbv.drewN nq
      have hbq1 : Bk wd gq 47 (ql.map W64) := by rw [← hwd]; exact hbq'.drewN nq
      have hr1 : Ext w wd := by rw [← hwd]; exact hr.drewN nq
      clear hwd hcu2 hcu1 hcu0 hcv1 hcv0
      have hvrd := hbv1.rd hwv (o := 0) (n := n) (cap := n) (Nat.le_refl _) (by rw [hlv.out]; omega) (by rw [len_maxLen]; omega)
      rw [List.drop_zero, List.take_of_length_le (by rw [hlv.out]; exact Nat.le_refl _)] at hvrd
      go_wp2_with fail
      rw [show j + n + 1 - j = n + 1 from by omega]
      refine (divnat_take (o := j) (m := n) hbu1 hwl hvrd (fun a ha => by cases ha; show gv ≠ gu; omega) (by rw [hll.out]; omega) (by omega) (by omega) hdb).mono ?_
      rintro e w4 ⟨bb, rfl, l1, c, hb4, hw4, hll4, hdr4, hc4, hP4, hu4⟩
      have hll4' : Hid (l1.length = N + 1) := (show _ = _ by rw [hll4.out, hll.out])
      have hL1 : Hid (nv l1 < WB ^ (j + n + 1)) := lt_of_drop (by rw [hll.out]; omega) (by rw [hll4'.out]; omega) hw4 hdr4.out HLT.out
      have hcase := long_case (D := WB ^ j * (nv ys * 2 ^ s)) (Nat.mul_pos (Nat.pow_pos WB_pos) HVpos.out) hdd.out.1 hdd.out.2 HLT.out hL1.out (by
        have h := hP4.out.2
        rw [hvv.out, Nat.mul_left_comm] at h
        exact h) hc4
      have hbc := hP4.out.1
      have hbv4 := hbv1.upd hu4 (by omega)
      have hbq4 := hbq1.upd hu4 (by omega)
      have hr4 := hu4.ext hr1 hgw2
      have hbb : bb = false ∧ c = 0 ∨ bb = true ∧ c = 1 := by
        rcases bb with _ | _
        · left; refine ⟨rfl, ?_⟩; simp at hbc; omega
        · right; exact ⟨rfl, hbc.1 rfl⟩
      clear hP4 hbc hc4 hbv hbu hbq' hbu1 hbv1 hbq1 hr hr1 hvrd
      rcases hbb with ⟨rfl, hc⟩ | ⟨rfl, hc⟩
      · have h0 := Lib.hid (hcase.1 hc)
        clear hcase hc
        obtain ⟨z, hz, _, hcz⟩ := hbq4.word hwq (i := j) (by rw [hlq.out]; omega)
        have hfz := hbq4.frozen j
        have hjM : (j : Int) < (M : Int) := by omega
        go_wp2_with fail
        go_roundw
        case rel => exact FIN.out d l1 _ h0.out.1 h0.out.2 hdb hll4'.out hw4 (hbv4.far (by show gv ≠ gq; omega) _) (hb4.far (by show gu ≠ gq; omega) _) (by rw [← map_W64_set]; exact hbq4.set _ _) (hr4.setCell hgw3 _)
        case measure => simp [intOf]
      · have h0 := Lib.hid (hcase.2 hc)
        clear hcase hc
        obtain ⟨q, rfl⟩ : ∃ q, d = q + 1 := ⟨_, h0.out.1⟩
        have hq : Hid (q = nv l / (WB ^ j * (nv ys * 2 ^ s))) := (show _ = _ from Nat.succ.inj h0.out.1)
        have hvrd := hbv4.rd hwv (o := 0) (n := n) (cap := n) (Nat.le_refl _) (by rw [hlv.out]; omega) (by rw [len_maxLen]; omega)
        rw [List.drop_zero, List.take_of_length_le (by rw [hlv.out]; exact Nat.le_refl _)] at hvrd
        go_wp2_with fail
        rw [show j + n + 1 - j = n + 1 from by omega]
        refine (divnat_give (o := j) (m := n) hb4 hw4 hvrd (fun a ha => by cases ha; show gv ≠ gu; omega) (by rw [hll4'.out]; omega) (by omega) (by omega)).mono ?_
        rintro e w5 ⟨rfl, l2, c2, hb5, hw5, hll5, hdr5, hc5, hP5, hu5⟩
        have hll5' : Hid (l2.length = N + 1) := (show _ = _ by rw [hll5.out, hll4'.out])
        have hL2 : Hid (nv l2 < WB ^ (j + n + 1)) := lt_of_drop (by rw [hll4'.out]; omega) (by rw [hll5'.out]; omega) hw5 hdr5.out hL1.out
        have hfin2 : Hid (nv l2 = nv l % (WB ^ j * (nv ys * 2 ^ s))) := h0.out.2 (nv l2) c2 hc5 hL2.out (by have h := hP5.out; rw [hvv.out] at h; exact h)
        have hbv5 := hbv4.upd hu5 (by omega)
        have hbq5 := hbq4.upd hu5 (by omega)
        have hr5 := hu5.ext hr4 hgw2
        clear hP5 hc5 hbv4 hbq4 hr4 hb4 hvrd h0
        obtain ⟨z, hz, _, hcz⟩ := hbq5.word hwq (i := j) (by rw [hlq.out]; omega)
        have hfz := hbq5.frozen j
        have hjM : (j : Int) < (M : Int) := by omega
        go_wp2_with fail
        go_roundw
        case rel => exact FIN.out q l2 _ hq.out hfin2.out (by omega) hll5'.out hw5 (hbv5.far (by show gv ≠ gq; omega) _) (hb5.far (by show gu ≠ gq; omega) _) (by rw [← map_W64_set]; exact hbq5.set _ _) (hr5.setCell hgw3 _)
        case measure => simp [intOf]
    · obtain rfl : k = 0 := by omega
      have ek : ((0 : Nat) : Int) - 1 = -1 := rfl
      rw [ek]
      have hLv : Hid (nv l < nv ys * 2 ^ s) := by
        have := hL.out.lt
        rw [Nat.pow_zero, Nat.mul_one] at this
        exact this
      have hQ := long_end (X := nv xs) (Y := nv ys) (s := s) (Q := nv ql) (L := nv l) (Nat.pos_of_mul_pos_right HVpos.out) (by have := hL.out.eq; simpa using this) hLv.out
      have hln : Hid (nv (l.take n) = nv l) := by
        show _ = _
        have e1 := nv_split l n (by rw [hll.out]; omega)
        rcases Nat.eq_zero_or_pos (nv (l.drop n)) with h0 | h0
        · rw [h0, Nat.mul_zero, Nat.add_zero] at e1; exact e1.symm
        · have := Nat.le_mul_of_pos_right (WB ^ n) h0
          have h2 := hLv.out
          have h3 := HVfit.out
          omega
      have HQ := Lib.hid hQ
      clear hQ
      have hurd := hbu.rd hwl (o := 0) (n := n) (cap := N + 1) (by omega) (by rw [hll.out]; omega) (by rw [len_maxLen]; omega)
      rw [List.drop_zero] at hurd
      go_wp2_with fail
      refine (nat_Shr hurd (by omega) (by omega)).mono ?_
      rintro e w6 ⟨A6, n6, c6, rfl, hn6, hr6, ho6, hx6⟩
      rw [hln.out, HQ.out.2] at hn6 hr6 ho6
      have hqrd := (hbq'.ext hx6).rd hwq (o := 0) (n := M) (cap := M) (Nat.le_refl _) (by rw [hlq.out]; omega) (by rw [len_maxLen]; omega)
      rw [List.drop_zero, List.take_of_length_le (by rw [hlq.out]; exact Nat.le_refl _)] at hqrd
      go_wp2_with fail
      refine (nat_Least hqrd (by omega)).mono ?_
      rintro e w7 ⟨A7, n7, c7, rfl, hn7, hr7, ho7, hx7⟩
      rw [HQ.out.1] at hn7 hr7 ho7
      go_wp2_with fail
      go_ret2
      exact ⟨A7, n7, c7, A6, n6, c6, rfl, hn7, hr7, ho7.mono (hr.trans hx6).size, hn6, hr6.ext hx7, (ho6.mono hr.size).ext hx7, (hr.trans hx6).trans hx7⟩
end Go.Proofs.Ytmaconeeonkdgaa

namespace Go.Proofs.Ytmaconeeonkdgaa
open Go.RowKit
/-- a quotient, a rest and an error -/
def RetQRE (w : World) (q r : Nat) (er : Int) (e : Ending) (w' : World) : Prop :=
  ∃ A n cap B m cap', e = .returned (.tuple #[.slice A n cap, .slice B m cap', .int .i64 er]) ∧ Hid (n = (wd q).length) ∧ Rd w' A n cap (wd q) ∧ Own w' w.heap.size 47 1 A n cap ((wd q).map W64) ∧
    Hid (m = (wd r).length) ∧ Rd w' B m cap' (wd r) ∧ Own w' w.heap.size 47 1 B m cap' ((wd r).map W64) ∧ Ext w w'
theorem wd_top {m : Nat} (h : m ≠ 0) : (wd m).getD ((wd m).length - 1) 0 ≠ 0 := by
  intro h0
  have hl : 0 < (wd m).length := Nat.pos_of_ne_zero (fun e => h (len_wd_zero.1 e))
  have e1 := nv_take_zero (wd m) ((wd m).length - 1) (by omega) h0
  rw [Nat.sub_add_cancel (by omega), List.take_of_length_le (Nat.le_refl _), nv_wd] at e1
  have h2 := nv_take_lt (Wf_wd m) ((wd m).length - 1)
  have h3 := pow_len_le h
  omega
theorem wd_len_one {m v : Nat} (h : 1 = (wd m).length) (hv : (wd m).getD 0 0 = v) : m = v := by
  have e1 := nv_take_snoc (wd m) 0 (by omega)
  rw [List.take_of_length_le (by omega), nv_wd, hv] at e1
  simpa [nv] using e1
theorem divnat_DivMod {w : World} {A B : Option Addr} {n cap n' cap' : Nat} {xs ys : List Nat} (hx : Rd w A n cap xs) (hl : n ≤ 274877906944) (hy : Rd w B n' cap' ys) (hl' : n' ≤ 274877906944) (h0 : nv ys ≠ 0) :
    Calls Try.prog 86 #[.slice A n cap, .slice B n' cap'] w (RetQRE w (nv xs / nv ys) (nv xs % nv ys) 0) := by
  go_enter Try.func86, Try.ntmps86
  go_wp2_with fail
  refine (nat_Least hy (by omega)).mono ?_
  rintro e w1 ⟨A1, n1, c1, rfl, hn1, hr1, ho1, hx1⟩
  have hn1p : 0 < n1 := by
    rw [hn1.out]; exact Nat.pos_of_ne_zero (fun e => h0 (len_wd_zero.1 e))
  have hn1b : n1 ≤ n' := by
    have := len_wd_nv hy.wf
    rw [hn1.out, ← hy.len]; exact this
  have b0 : ((n1 : Int) == 0) = false := by simp; omega
  by_cases h1 : n1 = 1
  · subst h1
    obtain ⟨a, v, rfl, hvk, hvb, hcv⟩ := hr1.get (i := 0) (by omega)
    have hv : Hid (nv ys = v) := wd_len_one hn1.out hvk.out
    have hcv0 : w1.cell? a = some (.int .u64 (v : Int)) := by simpa [Addr.add] using hcv
    go_wp2_with fail
    refine (divnat_Word (hx.ext hx1) (by omega) (v := v) (by rw [← hv.out]; exact h0) hvb).mono ?_
    rintro e w2 ⟨A2, n2, c2, r, rfl, hr, hrb, hn2, hr2, ho2, hx2⟩
    go_wp2_with fail
    have hone := Rd.one w2 hrb
    refine (nat_Least hone (by omega)).mono ?_
    rintro e w3 ⟨A3, n3, c3, rfl, hn3, hr3, ho3, hx3⟩
    rw [nv_one, hr.out, ← hv.out] at hn3 hr3 ho3
    rw [← hv.out] at hn2 hr2 ho2
    have hal : Ext w2 w3 := ((Ext.refl w2).alloc _).trans hx3
    go_wp2_with fail
    go_ret3
    exact ⟨A2, n2, c2, A3, n3, c3, rfl, hn2, hr2.ext hal, (ho2.mono hx1.size).ext hal, hn3, hr3, ho3.mono (Nat.le_trans (hx1.trans hx2).size (by simp)), (hx1.trans hx2).trans hal⟩
  · have b1 : ((n1 : Int) == 1) = false := by simp; omega
    go_wp2_with fail
    refine (nat_Least (hx.ext hx1) (by omega)).mono ?_
    rintro e w2 ⟨A2, n2, c2, rfl, hn2, hr2, ho2, hx2⟩
    have hn2b : n2 ≤ n := by
      have := len_wd_nv hx.wf
      rw [hn2.out, ← hx.len]; exact this
    go_wp2_with fail
    refine (nat_Cmp hr2 (by omega) (hr1.ext hx2) (by omega)).mono ?_
    rintro e w3 ⟨c, hc, hcl, hch, rfl, hx3⟩
    rw [nv_wd, nv_wd] at hc
    by_cases hlt : nv xs < nv ys
    · have hneg : c < 0 := by rw [hc.out]; exact cmp3_neg.2 hlt
      go_wp2_with fail
      go_ret3
      rw [Nat.div_eq_of_lt hlt, Nat.mod_eq_of_lt hlt]
      exact ⟨none, 0, 0, A2, n2, c2, rfl, rfl, Rd.nil _, Own.nil _ _ _ _, hn2, hr2.ext hx3, (ho2.mono hx1.size).ext hx3, (hx1.trans hx2).trans hx3⟩
    · have hneg : ¬ c < 0 := by rw [hc.out, cmp3_neg]; exact hlt
      have HL := Lib.hid hlt
      have hn12 : n1 ≤ n2 := by rw [hn1.out, hn2.out]; exact len_wd_mono (by omega)
      clear hlt
      go_wp2_with fail
      refine (divnat_long (hr2.ext hx3) (by omega) ((hr1.ext hx2).ext hx3) (by omega) hn12 (by rw [hn1.out]; exact wd_top h0)).mono ?_
      rintro e w4 ⟨A4, n4, c4, A5, n5, c5, rfl, hn4, hr4, ho4, hn5, hr5, ho5, hx4⟩
      rw [nv_wd, nv_wd] at hn4 hr4 ho4 hn5 hr5 ho5
      go_wp2_with fail
      go_ret3
      have hs := ((hx1.trans hx2).trans hx3)
      exact ⟨A4, n4, c4, A5, n5, c5, rfl, hn4, hr4, ho4.mono hs.size, hn5, hr5, ho5.mono hs.size, hs.trans hx4⟩
theorem divnat_Exact_not {w : World} {A B : Option Addr} {n cap n' cap' : Nat} {xs ys : List Nat} (hx : Rd w A n cap xs) (hl : n ≤ 274877906944) (hy : Rd w B n' cap' ys) (hl' : n' ≤ 274877906944) (h0 : nv ys ≠ 0) (h1 : nv xs % nv ys ≠ 0) :
    Calls Try.prog 82 #[.slice A n cap, .slice B n' cap'] w (fun e w' => e = .returned (.tuple #[.slice none 0 0, .int .i64 8]) ∧ Ext w w') := by
  go_enter Try.func82, Try.ntmps82
  go_wp2_with fail
  refine (divnat_DivMod hx hl hy hl' h0).mono ?_
  rintro e w1 ⟨A4, n4, c4, A5, n5, c5, rfl, hn4, hr4, ho4, hn5, hr5, ho5, hx4⟩
  have hp : 0 < n5 := by rw [hn5.out]; exact Nat.pos_of_ne_zero (fun e => h1 (len_wd_zero.1 e))
  go_wp2_with fail
  go_ret2
  exact ⟨rfl, hx4⟩
theorem divnat_Exact {w : World} {A B : Option Addr} {n cap n' cap' : Nat} {xs ys : List Nat} (hx : Rd w A n cap xs) (hl : n ≤ 274877906944) (hy : Rd w B n' cap' ys) (hl' : n' ≤ 274877906944) (h0 : nv ys ≠ 0) (h1 : nv xs % nv ys = 0) :
    Calls Try.prog 82 #[.slice A n cap, .slice B n' cap'] w (RetWE w (nv xs / nv ys) 0) := by
  go_enter Try.func82, Try.ntmps82
  have H1 := Lib.hid h1
  clear h1
  go_wp2_with fail
  refine (divnat_DivMod hx hl hy hl' h0).mono ?_
  rintro e w1 ⟨A4, n4, c4, A5, n5, c5, rfl, hn4, hr4, ho4, hn5, hr5, ho5, hx4⟩
  obtain rfl : n5 = 0 := by rw [hn5.out, H1.out]; rfl
  go_wp2_with fail
  go_ret2
  exact ⟨A4, n4, c4, rfl, hn4, hr4, ho4, hx4⟩
end Go.Proofs.Ytmaconeeonkdgaa

namespace Go.Proofs.Ytmaconeeonkdgaa
open Go.RowKit
/-- what a value of words stands for, read in a world (for a measure) -/
def wordOf : Option Value → Nat
  | some (.int _ z) => z.toNat
  | _ => 0
def numAt (w : World) : Value → Nat
  | .slice (some a) n _ => nv ((List.range n).map fun i => wordOf (w.cell? (a.add i)))
  | _ => 0
theorem Rd.numAt {w : World} {A : Option Addr} {n cap : Nat} {xs : List Nat} (h : Rd w A n cap xs) : Go.Proofs.Ytmaconeeonkdgaa.numAt w (.slice A n cap) = nv xs := by
  have hlen := h.len
  cases A with
  | none =>
    have hn : n = 0 := by
      rcases Nat.eq_zero_or_pos n with h0 | h0
      · exact h0
      · obtain ⟨a, ha, _⟩ := h.rv.get 0 (by omega)
        cases ha
    have : xs = [] := List.eq_nil_of_length_eq_zero (by omega)
    subst this
    rfl
  | some a =>
    show nv _ = _
    congr 1
    apply List.ext_getElem
    · simp [hlen]
    · intro i h1 h2
      obtain ⟨a', x, ha, hx, hxb, hc⟩ := h.get (i := i) (by omega)
      cases ha
      have e : xs[i] = x := by
        have := hx.out
        simpa [List.getD_eq_getElem?_getD, List.getElem?_eq_getElem h2] using this
      simp [hc, wordOf, e]
theorem gcd_step (a b : Nat) : Nat.gcd a b = Nat.gcd b (a % b) := by
  rw [Nat.gcd_comm a b, Nat.gcd_rec b a, Nat.gcd_comm]
/-- a list of one word, made by the call -/
def OneP (w : World) (x : Nat) (e : Ending) (w' : World) : Prop :=
  ∃ g, e = .returned (.slice (some ⟨g, 0, none⟩) 1 1) ∧ w.heap.size ≤ g ∧ Bk w' g 47 ([x].map W64) ∧ x ≤ 18446744073709551615 ∧ Ext w w'
theorem divnat_words {x y : Nat} (hx : x ≤ 18446744073709551615) (hy : y ≤ 18446744073709551615) (w : World) :
    Calls Try.prog 94 #[.int .u64 (x : Int), .int .u64 (y : Int)] w (OneP w (Nat.gcd x y)) := by
  go_enter Try.func94, Try.ntmps94
  go_wp2_with fail
  go_loopw [0, 1] (fun u v wr => ∃ a b : Nat, u = .int .u64 (a : Int) ∧ v = .int .u64 (b : Int) ∧ a ≤ 18446744073709551615 ∧ b ≤ 18446744073709551615 ∧ Hid (Nat.gcd a b = Nat.gcd x y) ∧ Ext w wr) (fun u v wr => (intOf v).toNat)
  case atStart => exact ⟨x, y, rfl, rfl, hx, hy, rfl, Ext.refl w⟩
  case round =>
    obtain ⟨a, b, rfl, rfl, ha, hb, hg, hr⟩ := hrel
    by_cases h0 : b = 0
    · subst h0
      have b0 : ((0 : Int) != 0) = false := rfl
      go_wp2_with fail
      go_ret
      have e : Nat.gcd x y = a := by rw [← hg.out, Nat.gcd_zero_right]
      rw [e]
      exact ⟨wr.heap.size, rfl, hr.size, Bk.new wr 47 [.int .u64 (a : Int)], ha, hr.alloc _⟩
    · have b0 : ((b : Int) != 0) = true := by simp; omega
      have b1 : ((b : Int) == 0) = false := by simp; omega
      have h2 : ¬ (b : Int) ≤ 0 := by omega
      have h5 := Int.emod_nonneg (a : Int) (b := (b : Int)) (by omega)
      have h6 := Int.emod_lt_of_pos (a : Int) (b := (b : Int)) (by omega)
      have HM := Lib.hid (Nat.mod_lt a (show 0 < b by omega))
      go_wp2_with fail
      go_quiet (fail)
      go_wp2_with fail
      go_roundw
      case rel => exact ⟨b, a % b, rfl, val_int (by simp), hb, by have := HM.out; omega, (show _ = _ by rw [← hg.out, ← gcd_step]), hr.drewN _⟩
      case measure => have := HM.out; simp [intOf]; omega
set_option maxHeartbeats 2000000 in
theorem divnat_Gcd {w : World} {A B : Option Addr} {n cap n' cap' : Nat} {xs ys : List Nat} (hx : Rd w A n cap xs) (hl : n ≤ 274877906944) (hy : Rd w B n' cap' ys) (hl' : n' ≤ 274877906944) :
    Calls Try.prog 75 #[.slice A n cap, .slice B n' cap'] w (RetW w (Nat.gcd (nv xs) (nv ys))) := by
  go_enter Try.func75, Try.ntmps75
  go_wp2_with fail
  refine (nat_Least hx (by omega)).mono ?_
  rintro e w1 ⟨A1, n1, c1, rfl, hn1, hr1, ho1, hx1⟩
  have hn1b : n1 ≤ 274877906944 := by rw [hn1.out]; exact Nat.le_trans (by have := len_wd_nv hx.wf; rw [hx.len] at this; exact this) hl
  go_wp2_with fail
  refine (nat_Least (hy.ext hx1) (by omega)).mono ?_
  rintro e w2 ⟨A2, n2, c2, rfl, hn2, hr2, ho2, hx2⟩
  have hn2b : n2 ≤ 274877906944 := by rw [hn2.out]; exact Nat.le_trans (by have := len_wd_nv hy.wf; rw [hy.len] at this; exact this) hl'
  go_wp2_with fail
  go_loopw [5, 6] (fun u v wr => ∃ (A B : Option Addr) (n cap m cap' a b : Nat), u = .slice A n cap ∧ v = .slice B m cap' ∧ n ≤ 274877906944 ∧ m ≤ 274877906944 ∧ Hid (n = (wd a).length) ∧ Hid (m = (wd b).length) ∧ Rd wr A n cap (wd a) ∧ Own wr w.heap.size 47 1 A n cap ((wd a).map W64) ∧
    Rd wr B m cap' (wd b) ∧ Own wr w.heap.size 47 1 B m cap' ((wd b).map W64) ∧ Hid (Nat.gcd a b = Nat.gcd (nv xs) (nv ys)) ∧ Ext w wr) (fun u v wr => numAt wr v)
  case atStart => exact ⟨A1, A2, n1, c1, n2, c2, nv xs, nv ys, rfl, rfl, hn1b, hn2b, hn1, hn2, hr1.ext hx2, ho1.ext hx2, hr2, ho2.mono hx1.size, rfl, hx1.trans hx2⟩
  case round =>
    obtain ⟨A, B, n, cap, m, cap', a, b, rfl, rfl, hnb, hmb, hn, hm, hra, hoa, hrb, hob, hg, hr⟩ := hrel
    clear hr1 hr2 ho1 ho2 hx hy hn1 hn2
    by_cases hm0 : 0 < m
    · have hb0 : b ≠ 0 := fun h => by rw [hm.out, h] at hm0; simp [wd_zero] at hm0
      have HB := Lib.hid hb0
      clear hb0
      by_cases hcase : n = 1 ∧ m = 1
      · obtain ⟨rfl, rfl⟩ := hcase
        obtain ⟨p, x, rfl, hxk, hxb, hcx⟩ := hra.get (i := 0) (by omega)
        obtain ⟨q, y, rfl, hyk, hyb, hcy⟩ := hrb.get (i := 0) (by omega)
        have ea : Hid (a = x) := wd_len_one hn.out hxk.out
        have eb : Hid (b = y) := wd_len_one hm.out hyk.out
        have hcx0 : wr.cell? p = some (.int .u64 (x : Int)) := by simpa [Addr.add] using hcx
        have hcy0 : wr.cell? q = some (.int .u64 (y : Int)) := by simpa [Addr.add] using hcy
        clear hcx hcy
        go_wp2_with fail
        go_region_with (first
          | (go_at_call 94; refine (divnat_words hxb hyb _).mono ?_; rintro er w5 ⟨g5, rfl, hg5, hb5, hx5b, hx5⟩))
        all_goals
          go_wp2_with fail
          go_ret
          have h5 : Ext w w5 := hr.trans (Ext.trans (by repeat (first | exact Ext.refl _ | assumption | apply Ext.drewN | apply Ext.drew | apply Ext.alloc)) hx5)
          have hgs : wr.heap.size ≤ g5 := hg5
          have hne : Nat.gcd x y ≠ 0 := by
            have := Nat.gcd_pos_of_pos_right x (n := y) (Nat.pos_of_ne_zero (by rw [← eb.out]; exact HB.out))
            omega
          have e6 : Nat.gcd (nv xs) (nv ys) = Nat.gcd x y := by rw [← hg.out, ea.out, eb.out]
          rw [e6]
          exact RetW_mk (ys := [Nat.gcd x y]) (Nat.le_trans hr.size hgs) hb5 rfl (Nat.le_refl _) (by rw [len_maxLen]; omega) (by rw [wd_small (by rw [WB_def]; omega) hne]; rfl) h5
      · have hd : decide ((n : Int) = 1) = false ∨ decide ((m : Int) = 1) = false := by
          by_cases h : n = 1
          · right; simp; omega
          · left; simp; omega
        have key : ∀ (Q' R' : Option Addr) (nq cq nr cr : Nat) (w5 : World), Hid (nr = (wd (a % b)).length) → Rd w5 R' nr cr (wd (a % b)) → Own w5 wr.heap.size 47 1 R' nr cr ((wd (a % b)).map W64) → Ext wr w5 →
            (∃ (A B' : Option Addr) (n cap m' cap'' a b : Nat), Value.slice B m cap' = .slice A n cap ∧ Value.slice R' nr cr = .slice B' m' cap'' ∧ n ≤ 274877906944 ∧ m' ≤ 274877906944 ∧ Hid (n = (wd a).length) ∧ Hid (m' = (wd b).length) ∧ Rd w5 A n cap (wd a) ∧ Own w5 w.heap.size 47 1 A n cap ((wd a).map W64) ∧
              Rd w5 B' m' cap'' (wd b) ∧ Own w5 w.heap.size 47 1 B' m' cap'' ((wd b).map W64) ∧ Hid (Nat.gcd a b = Nat.gcd (nv xs) (nv ys)) ∧ Ext w w5) ∧ numAt w5 (.slice R' nr cr) < numAt wr (.slice B m cap') := by
          intro Q' R' nq cq nr cr w5 h1 h2 h3 h4
          have hmod : a % b < b := Nat.mod_lt a (Nat.pos_of_ne_zero HB.out)
          refine ⟨⟨B, R', m, cap', nr, cr, b, a % b, rfl, rfl, hmb, ?_, hm, h1, hrb.ext h4, hob.ext h4, h2, h3.mono hr.size, (show _ = _ by rw [← hg.out, ← gcd_step]), hr.trans h4⟩, ?_⟩
          · rw [h1.out]
            refine Nat.le_trans (len_wd_mono (Nat.le_of_lt hmod)) ?_
            rw [← hm.out]; exact hmb
          · rw [h2.numAt, hrb.numAt, nv_wd, nv_wd]; exact hmod
        have KEY := Lib.hid key
        clear key
        by_cases hn1' : n = 1
        · have hm1 : ((m : Int) == 1) = false := by
            have : ¬ m = 1 := fun h => hcase ⟨hn1', h⟩
            simp; omega
          have bn1 : ((n : Int) == 1) = true := by simp; omega
          clear hcase hd hn1'
          go_wp2_with fail
          refine (divnat_DivMod hra (by omega) hrb (by omega) (by rw [nv_wd]; exact HB.out)).mono ?_
          rintro e w5 ⟨Aq, nq, cq, Ar, nr, cr, rfl, hnq, hrq, hoq, hnr, hrr, hor, hx5⟩
          rw [nv_wd, nv_wd] at hnr hrr hor
          go_wp2_with fail
          go_roundw
          case rel => exact (KEY.out Aq Ar nq cq nr cr w5 hnr hrr hor hx5).1
          case measure => exact (KEY.out Aq Ar nq cq nr cr w5 hnr hrr hor hx5).2
        · have bn1 : ((n : Int) == 1) = false := by simp; omega
          clear hcase hd hn1'
          go_wp2_with fail
          refine (divnat_DivMod hra (by omega) hrb (by omega) (by rw [nv_wd]; exact HB.out)).mono ?_
          rintro e w5 ⟨Aq, nq, cq, Ar, nr, cr, rfl, hnq, hrq, hoq, hnr, hrr, hor, hx5⟩
          rw [nv_wd, nv_wd] at hnr hrr hor
          go_wp2_with fail
          go_roundw
          case rel => exact (KEY.out Aq Ar nq cq nr cr w5 hnr hrr hor hx5).1
          case measure => exact (KEY.out Aq Ar nq cq nr cr w5 hnr hrr hor hx5).2
    · have hb0 : b = 0 := len_wd_zero.1 (by rw [← hm.out]; omega)
      have e : Nat.gcd (nv xs) (nv ys) = a := by rw [← hg.out, hb0, Nat.gcd_zero_right]
      have HE := Lib.hid e
      clear e hb0
      go_wp2_with fail
      go_ret
      rw [HE.out]
      exact ⟨A, n, cap, rfl, hn, hra, hoa, hr⟩
end Go.Proofs.Ytmaconeeonkdgaa

namespace Go.Proofs.Ytmaconeeonkdgaa
open Go.RowKit
/-- the integer of a sign and a size -/
def sg (s : Bool) (m : Nat) : Int := if s then -(m : Int) else m
theorem sg_false (m : Nat) : sg false m = m := rfl
theorem sg_true (m : Nat) : sg true m = -(m : Int) := rfl
theorem sg_abs (s : Bool) (m : Nat) : (sg s m).natAbs = m := by cases s <;> simp [sg]
theorem sg_self (z : Int) : sg (decide (z < 0)) z.natAbs = z := by
  by_cases h : z < 0
  · rw [decide_eq_true h, sg_true]; omega
  · rw [decide_eq_false h, sg_false]; omega
theorem sg_zero (s : Bool) : sg s 0 = 0 := by cases s <;> rfl
theorem sg_eq_zero {s : Bool} {m : Nat} : sg s m = 0 ↔ m = 0 := by cases s <;> simp [sg]
theorem sg_not (s : Bool) (m : Nat) : sg (!s) m = -sg s m := by cases s <;> simp [sg]
theorem sg_lt (s : Bool) (m : Nat) : decide (sg s m < 0) = (s && decide (0 < m)) := by
  cases s
  · simp [sg]
  · by_cases h : 0 < m
    · simp [sg, h]
    · have : m = 0 := by omega
      subst this
      simp [sg]
theorem sg_add (s : Bool) (m k : Nat) : sg s (m + k) = sg s m + sg s k := by cases s <;> simp [sg] <;> omega
theorem sg_sub {s : Bool} {m k : Nat} (h : k ≤ m) : sg s (m - k) = sg s m + sg (!s) k := by cases s <;> simp [sg] <;> omega
theorem sg_mul (s t : Bool) (m k : Nat) : sg (s != t) (m * k) = sg s m * sg t k := by
  cases s <;> cases t <;> simp [sg, Int.mul_neg, Int.neg_mul]
theorem sg_tdiv (s t : Bool) (m k : Nat) : sg (s != t) (m / k) = (sg s m).tdiv (sg t k) := by
  cases s <;> cases t <;> simp [sg, Int.tdiv_neg, Int.neg_tdiv]
theorem sg_tmod (s t : Bool) (m k : Nat) : sg s (m % k) = (sg s m).tmod (sg t k) := by
  cases s <;> cases t <;> simp [sg, Int.tmod_neg, Int.neg_tmod] <;> rfl
/-- the words of an integer's size -/
def ln (z : Int) : Nat := (wd z.natAbs).length
theorem ln_mono {x y : Int} (h : x.natAbs ≤ y.natAbs) : ln x ≤ ln y := len_wd_mono h
theorem ln_neg (x : Int) : ln (-x) = ln x := by unfold ln; rw [Int.natAbs_neg]
theorem ln_add {x y : Int} {a b : Nat} (hx : ln x ≤ a) (hy : ln y ≤ b) : ln (x + y) ≤ max a b + 1 := by
  have h1 := len_wd_mono (Int.natAbs_add_le x y)
  have h2 := len_wd_add x.natAbs y.natAbs
  unfold ln at *
  omega
theorem ln_sub {x y : Int} {a b : Nat} (hx : ln x ≤ a) (hy : ln y ≤ b) : ln (x - y) ≤ max a b + 1 := by
  rw [Int.sub_eq_add_neg]
  exact ln_add hx (by rw [ln_neg]; exact hy)
theorem ln_mul {x y : Int} {a b : Nat} (hx : ln x ≤ a) (hy : ln y ≤ b) : ln (x * y) ≤ a + b := by
  have h2 := len_wd_mul x.natAbs y.natAbs
  unfold ln at *
  rw [Int.natAbs_mul]
  omega
theorem ln_nat (m : Nat) : ln (m : Int) = (wd m).length := by unfold ln; rw [Int.natAbs_natCast]
theorem ln_zero : ln 0 = 0 := rfl
theorem ln_one : ln 1 = 1 := by decide +kernel
/-- an integer handed in: any words -/
def Zi (w : World) (s : Bool) (A : Option Addr) (n cap : Nat) (z : Int) : Prop := ∃ xs, Rd w A n cap xs ∧ sg s (nv xs) = z
theorem Zi.ext {w w' : World} {s : Bool} {A : Option Addr} {n cap : Nat} {z : Int} (h : Zi w s A n cap z) (e : Ext w w') : Zi w' s A n cap z := by
  obtain ⟨xs, h1, h2⟩ := h
  exact ⟨xs, h1.ext e, h2⟩
theorem Zi.ln {w : World} {s : Bool} {A : Option Addr} {n cap : Nat} {z : Int} (h : Zi w s A n cap z) : Go.Proofs.Ytmaconeeonkdgaa.ln z ≤ n := by
  obtain ⟨xs, h1, rfl⟩ := h
  have := len_wd_nv h1.wf
  rw [h1.len] at this
  unfold Go.Proofs.Ytmaconeeonkdgaa.ln
  rw [sg_abs]
  exact this
theorem Zi.not {w : World} {s : Bool} {A : Option Addr} {n cap : Nat} {z : Int} (h : Zi w s A n cap z) : Zi w (!s) A n cap (-z) := by
  obtain ⟨xs, h1, rfl⟩ := h
  exact ⟨xs, h1, sg_not _ _⟩
/-- an integer in least form, of the call's own -/
structure Zr (w : World) (base : Nat) (s : Bool) (A : Option Addr) (n cap : Nat) (z : Int) : Prop where
  sgn : s = decide (z < 0)
  len : n = ln z
  own : Own w base 47 1 A n cap ((wd z.natAbs).map W64)
theorem Zr.rd {w : World} {base : Nat} {s : Bool} {A : Option Addr} {n cap : Nat} {z : Int} (h : Zr w base s A n cap z) : Rd w A n cap (wd z.natAbs) := h.own.rd (Wf_wd _)
theorem Zr.ext {w w' : World} {base : Nat} {s : Bool} {A : Option Addr} {n cap : Nat} {z : Int} (h : Zr w base s A n cap z) (e : Ext w w') : Zr w' base s A n cap z := ⟨h.sgn, h.len, h.own.ext e⟩
theorem Zr.mono {w : World} {base base' : Nat} {s : Bool} {A : Option Addr} {n cap : Nat} {z : Int} (h : Zr w base s A n cap z) (e : base' ≤ base) : Zr w base' s A n cap z := ⟨h.sgn, h.len, h.own.mono e⟩
theorem Zr.zi {w : World} {base : Nat} {s : Bool} {A : Option Addr} {n cap : Nat} {z : Int} (h : Zr w base s A n cap z) : Zi w s A n cap z := ⟨_, h.rd, by rw [nv_wd, h.sgn, sg_self]⟩
theorem Zr.upd {w w' : World} {base g : Nat} {s : Bool} {A : Option Addr} {n cap : Nat} {z : Int} (h : Zr w base s A n cap z) (hg : g < base) (e : Upd g w w') : Zr w' base s A n cap z :=
  ⟨h.sgn, h.len, h.own.upd e (fun a ha => by have := (h.own.block a ha).1; omega)⟩
theorem Zr.cast {w : World} {base : Nat} {s : Bool} {A : Option Addr} {n cap : Nat} {z z' : Int} (h : Zr w base s A n cap z) (e : z = z') : Zr w base s A n cap z' := e ▸ h
theorem Zr.le {w : World} {base : Nat} {s : Bool} {A : Option Addr} {n cap : Nat} {z : Int} (h : Zr w base s A n cap z) {b : Nat} (hb : ln z ≤ b) : n ≤ b := by rw [h.len]; exact hb
theorem Zr.zero {w : World} {base : Nat} : Zr w base false none 0 0 0 := ⟨by decide, rfl, Own.nil _ _ _ _⟩
/-- an integer is answered -/
def RetZ (w : World) (z : Int) (e : Ending) (w' : World) : Prop :=
  ∃ s A n cap, e = .returned (.agg #[.bool s, .slice A n cap]) ∧ Zr w' w.heap.size s A n cap z ∧ Ext w w'
/-- two integers and an error -/
def RetZZE (w : World) (q r : Int) (er : Int) (e : Ending) (w' : World) : Prop :=
  ∃ s A n cap s' B m cap', e = .returned (.tuple #[.agg #[.bool s, .slice A n cap], .agg #[.bool s', .slice B m cap'], .int .i64 er]) ∧ Zr w' w.heap.size s A n cap q ∧ Zr w' w.heap.size s' B m cap' r ∧ Ext w w'
theorem Zr_of {w : World} {base : Nat} {s s' : Bool} {A : Option Addr} {n cap m : Nat} {z : Int} (h : s' = decide (sg s m < 0)) (hn : n = (wd m).length) (ho : Own w base 47 1 A n cap ((wd m).map W64)) (hz : sg s m = z) : Zr w base s' A n cap z := by
  have e : z.natAbs = m := by rw [← hz, sg_abs]
  rw [hz] at h
  exact ⟨h, by unfold ln; rw [e]; exact hn, by rw [e]; exact ho⟩
/-- a variable of two cells -/
theorem Bk.two {w : World} {g : Nat} {t : TypeId} {a b : Value} (h : Bk w g t [a, b]) : w.cell? ⟨g, 0, none⟩ = some a ∧ w.cell? ⟨g, 1, none⟩ = some b ∧ w.frozen? ⟨g, 0, none⟩ = false ∧ w.frozen? ⟨g, 1, none⟩ = false :=
  ⟨h.cell (i := 0) (by simp), h.cell (i := 1) (by simp), h.frozen 0, h.frozen 1⟩
theorem Bk.two_set {w : World} {g : Nat} {t : TypeId} {a b : Value} (h : Bk w g t [a, b]) (u v : Value) : Bk ((w.setCell ⟨g, 0, none⟩ u).setCell ⟨g, 1, none⟩ v) g t [u, v] := (h.set 0 u).set 1 v
theorem Upd.two {w : World} {g : Nat} (u v : Value) : Upd g w ((w.setCell ⟨g, 0, none⟩ u).setCell ⟨g, 1, none⟩ v) := ((Upd.refl g w).setCell 0 u).setCell 1 v
theorem Bk.sec {w : World} {t t' : TypeId} {l : Array Value} {a b : Value} : Bk ((w.alloc (.cells l t')).alloc (.cells #[a, b] t)) (w.heap.size + 1) t [a, b] := by
  have := Bk.new (w.alloc (.cells l t')) t [a, b]
  simpa using this
theorem Bk.thi {w : World} {t t' t'' : TypeId} {l l' : Array Value} {a b : Value} : Bk (((w.alloc (.cells l t')).alloc (.cells l' t'')).alloc (.cells #[a, b] t)) (w.heap.size + 2) t [a, b] := by
  have := Bk.new ((w.alloc (.cells l t')).alloc (.cells l' t'')) t [a, b]
  simpa using this
theorem Bk.fou {w : World} {t t' t'' t''' : TypeId} {l l' l'' : Array Value} {a b : Value} : Bk ((((w.alloc (.cells l t')).alloc (.cells l' t'')).alloc (.cells l'' t''')).alloc (.cells #[a, b] t)) (w.heap.size + 3) t [a, b] := by
  have := Bk.new (((w.alloc (.cells l t')).alloc (.cells l' t'')).alloc (.cells l'' t''')) t [a, b]
  simpa using this
/-- two variables of structs laid at the call's beginning -/
theorem boxes2 (w : World) (t t' : TypeId) (a b c d : Value) : ∃ g g2 wa, w.heap.size + 1 = g2 ∧ w.heap.size = g ∧ (w.alloc (.cells #[a, b] t)).alloc (.cells #[c, d] t') = wa ∧ Bk wa g t [a, b] ∧ Bk wa g2 t' [c, d] ∧ Ext w wa ∧ g < g2 ∧ g2 < wa.heap.size ∧ g ≠ g2 ∧ g2 ≠ g :=
  ⟨_, _, _, rfl, rfl, rfl, (Bk.new w t [a, b]).alloc _, Bk.sec, ((Ext.refl w).alloc _).alloc _, by omega, by simp, by omega, by omega⟩
theorem boxes3 (w : World) (t t' t'' : TypeId) (a b c d e f : Value) : ∃ g g2 g3 wa, w.heap.size + 1 + 1 = g3 ∧ w.heap.size + 1 = g2 ∧ w.heap.size = g ∧ ((w.alloc (.cells #[a, b] t)).alloc (.cells #[c, d] t')).alloc (.cells #[e, f] t'') = wa ∧ Bk wa g t [a, b] ∧ Bk wa g2 t' [c, d] ∧ Bk wa g3 t'' [e, f] ∧ Ext w wa ∧ g < g2 ∧ g2 < g3 ∧ g3 < wa.heap.size ∧ g ≠ g2 ∧ g2 ≠ g ∧ g ≠ g3 ∧ g3 ≠ g ∧ g2 ≠ g3 ∧ g3 ≠ g2 :=
  ⟨_, _, _, _, rfl, rfl, rfl, rfl, ((Bk.new w t [a, b]).alloc _).alloc _, Bk.sec.alloc _, Bk.thi, (((Ext.refl w).alloc _).alloc _).alloc _, by omega, by omega, by simp, by omega, by omega, by omega, by omega, by omega, by omega⟩
theorem boxes4 (w : World) (t t' t'' t''' : TypeId) (a b c d e f i j : Value) : ∃ g g2 g3 g4 wa, w.heap.size + 1 + 1 + 1 = g4 ∧ w.heap.size + 1 + 1 = g3 ∧ w.heap.size + 1 = g2 ∧ w.heap.size = g ∧ (((w.alloc (.cells #[a, b] t)).alloc (.cells #[c, d] t')).alloc (.cells #[e, f] t'')).alloc (.cells #[i, j] t''') = wa ∧ Bk wa g t [a, b] ∧ Bk wa g2 t' [c, d] ∧ Bk wa g3 t'' [e, f] ∧ Bk wa g4 t''' [i, j] ∧ Ext w wa ∧ g < g2 ∧ g2 < g3 ∧ g3 < g4 ∧ g4 < wa.heap.size ∧ g ≠ g2 ∧ g2 ≠ g ∧ g ≠ g3 ∧ g3 ≠ g ∧ g2 ≠ g3 ∧ g3 ≠ g2 ∧ g ≠ g4 ∧ g4 ≠ g ∧ g2 ≠ g4 ∧ g4 ≠ g2 ∧ g3 ≠ g4 ∧ g4 ≠ g3 :=
  ⟨_, _, _, _, _, rfl, rfl, rfl, rfl, rfl, (((Bk.new w t [a, b]).alloc _).alloc _).alloc _, (Bk.sec.alloc _).alloc _, Bk.thi.alloc _, Bk.fou, ((((Ext.refl w).alloc _).alloc _).alloc _).alloc _, by omega, by omega, by omega, by simp, by omega, by omega, by omega, by omega, by omega, by omega, by omega, by omega, by omega, by omega, by omega, by omega⟩
/-- the result's variable is written, and handed back -/
theorem fin_int {w w2 : World} {g base : Nat} {T : TypeId} {x y : Value} {s : Bool} {A : Option Addr} {n cap : Nat} {z : Int} (_hb : Bk w2 g T [x, y]) (hz : Zr w2 base s A n cap z) (hg : g < base) (hw : w.heap.size ≤ g) (he : Ext w w2) :
    RetZ w z (.returned (.agg #[.bool s, .slice A n cap])) ((w2.setCell ⟨g, 0, none⟩ (.bool s)).setCell ⟨g, 1, none⟩ (.slice A n cap)) :=
  ⟨s, A, n, cap, rfl, (hz.upd hg (Upd.two _ _)).mono (by omega), (Upd.two _ _).ext he hw⟩
theorem res_int {w : World} {g : Nat} {t : TypeId} {a b : Value} {fn : Func} {s : Tmp} (hf : fn.results = #[.cell s 27]) {tmps : Array Value} (hs : tmps.getD s undef = .pointer (some ⟨g, 0, none⟩)) (h : Bk w g t [a, b]) : (results fn tmps).run Try.prog w = .ok (.agg #[a, b]) w := by
  obtain ⟨h1, h2, _, _⟩ := h.two
  have hs2 : tmps[s]?.getD undef = .pointer (some ⟨g, 0, none⟩) := by simpa using hs
  simp [results, hf, hs2, loadVar, loadCells, loadCellsFrom, go_sem, h1, h2]
/-- -1, 0, 1 -/
def scmp (x y : Int) : Int := if x < y then -1 else if x = y then 0 else 1
theorem scmp_bd (x y : Int) : -1 ≤ scmp x y ∧ scmp x y ≤ 1 := by unfold scmp; split <;> (try split) <;> omega
theorem scmp_neg {x y : Int} : scmp x y < 0 ↔ x < y := by unfold scmp; split <;> (try split) <;> omega
theorem scmp_zero {x y : Int} : scmp x y = 0 ↔ x = y := by unfold scmp; split <;> (try split) <;> omega
/-- an int of -1, 0 or 1 is answered -/
def SgnP (v : Int) (w : World) (e : Ending) (w' : World) : Prop := ∃ c : Int, Hid (c = v) ∧ -1 ≤ c ∧ c ≤ 1 ∧ e = .returned (.int .i64 c) ∧ Ext w w'
theorem zint_of {w : World} {s : Bool} {A : Option Addr} {n cap m : Nat} (hn : n = (wd m).length) :
    Calls Try.prog 55 #[.bool s, .slice A n cap] w fun e w' => ∃ s', e = .returned (.agg #[.bool s', .slice A n cap]) ∧ Hid (s' = decide (sg s m < 0)) ∧ Ext w w' := by
  have hm : decide (0 < m) = decide (0 < n) := by
    by_cases h : m = 0
    · rw [h] at hn ⊢; rw [hn]; rfl
    · have : n ≠ 0 := fun e => h (len_wd_zero.1 (by rw [← hn, e]))
      rw [decide_eq_true (show 0 < m by omega), decide_eq_true (show 0 < n by omega)]
  have HM : Hid (decide (sg s m < 0) = (s && decide (0 < n))) := (show _ = _ by rw [sg_lt, hm])
  clear hm hn
  go_enter Try.func55, Try.ntmps55
  cases s
  · go_wp2_with fail
    refine bodyPost_ret (v := .agg #[.bool false, .slice A n cap]) (by simp [results, Try.results55, go_sem]) rfl ?_
    exact ⟨_, rfl, (show _ = _ by rw [HM.out]; rfl), (Ext.refl w).alloc _⟩
  · by_cases h : n = 0
    · subst h
      go_wp2_with fail
      refine bodyPost_ret (v := .agg #[.bool false, .slice A 0 cap]) (by simp [results, Try.results55, go_sem]) rfl ?_
      exact ⟨_, rfl, (show _ = _ by rw [HM.out]; rfl), (Ext.refl w).alloc _⟩
    · have h0 : 0 < n := by omega
      have hd : decide (0 < n) = true := decide_eq_true h0
      have hi : 0 < (n : Int) := by omega
      go_wp2_with fail
      refine bodyPost_ret (v := .agg #[.bool true, .slice A n cap]) (by simp [results, Try.results55, go_sem]) rfl ?_
      exact ⟨_, rfl, (show _ = _ by rw [HM.out, hd]; rfl), (Ext.refl w).alloc _⟩
theorem zint_Neg {w : World} {s : Bool} {A : Option Addr} {n cap : Nat} {x : Int} (hx : Zi w s A n cap x) (hl : n ≤ 68719476736) :
    Calls Try.prog 61 #[.agg #[.bool s, .slice A n cap]] w (RetZ w (-x)) := by
  obtain ⟨xs, hr, rfl⟩ := hx
  go_enter Try.func61, Try.ntmps61
  go_upto_region 1 with (fail)
  obtain ⟨g, g2, wa, hg2, hg, hwa, hb1, hb2, hea, l12, l2, n12, n21⟩ := boxes2 w 27 27 (.bool s) (.slice A n cap) (.bool false) (.slice none 0 0)
  rw [hg2, hg, hwa]
  have hgw : w.heap.size ≤ g := Nat.le_of_eq hg
  clear hwa hg hg2
  obtain ⟨f1, f2, f3, f4⟩ := hb1.two
  obtain ⟨k1, k2, k3, k4⟩ := hb2.two
  go_region_held3 (fun w' => w'.cell? ⟨g, 0, none⟩ = some (.bool s) ∧ w'.cell? ⟨g, 1, none⟩ = some (.slice A n cap)) (go_keep)
    (first
    | (go_at_call 56; refine (nat_Least (hr.ext (by repeat (first | exact Ext.refl _ | assumption | apply Ext.drewN | apply Ext.drew | apply Ext.alloc))) (by omega)).mono ?_; rintro e w1 ⟨A1, n1, c1, rfl, hn1, hr1, ho1, hx1⟩; have he1 : Ext wa w1 := Ext.trans (by repeat (first | exact Ext.refl _ | assumption | apply Ext.drewN | apply Ext.drew | apply Ext.alloc)) hx1; have hc1 := hb1.ext he1; have hc2 := hb2.ext he1; obtain ⟨f1', f2', f3', f4'⟩ := hc1.two; obtain ⟨k1', k2', k3', k4'⟩ := hc2.two)
    | (go_at_call 55; refine (zint_of hn1.out).mono ?_; rintro e w2 ⟨s', rfl, hs', hx2⟩; have hd1 := hc1.ext hx2; have hd2 := hc2.ext hx2; obtain ⟨f1'', f2'', f3'', f4''⟩ := hd1.two; obtain ⟨k1'', k2'', k3'', k4''⟩ := hd2.two))
  go_wp2_with fail
  refine bodyPost_ret (res_int rfl rfl (hd2.two_set _ _)) rfl ?_
  exact fin_int hd2 ((Zr_of hs'.out hn1.out ho1 (sg_not _ _)).ext hx2) (by first | omega | (simp; omega)) (by omega) (hea.trans (he1.trans hx2))
theorem zint_Abs {w : World} {s : Bool} {A : Option Addr} {n cap : Nat} {x : Int} (hx : Zi w s A n cap x) (hl : n ≤ 68719476736) :
    Calls Try.prog 68 #[.agg #[.bool s, .slice A n cap]] w (RetZ w (x.natAbs : Int)) := by
  obtain ⟨xs, hr, rfl⟩ := hx
  go_enter Try.func68, Try.ntmps68
  go_upto_region 1 with (fail)
  obtain ⟨g, g2, wa, hg2, hg, hwa, hb1, hb2, hea, l12, l2, n12, n21⟩ := boxes2 w 27 27 (.bool s) (.slice A n cap) (.bool false) (.slice none 0 0)
  rw [hg2, hg, hwa]
  have hgw : w.heap.size ≤ g := Nat.le_of_eq hg
  clear hwa hg hg2
  obtain ⟨f1, f2, f3, f4⟩ := hb1.two
  go_wp2_with fail
  refine (nat_Least (hr.ext hea) (by omega)).mono ?_
  rintro e w1 ⟨A1, n1, c1, rfl, hn1, hr1, ho1, hx1⟩
  have hc2 := hb2.ext hx1
  go_wp2_with fail
  refine (zint_of hn1.out).mono ?_
  rintro e w2 ⟨s', rfl, hs', hx2⟩
  have hd2 := hc2.ext hx2
  obtain ⟨k1, k2, k3, k4⟩ := hd2.two
  go_wp2_with fail
  refine bodyPost_ret (res_int rfl rfl (hd2.two_set _ _)) rfl ?_
  exact fin_int hd2 ((Zr_of hs'.out hn1.out ho1 (by rw [sg_abs, sg_false])).ext hx2) (by omega) (by omega) (hea.trans (hx1.trans hx2))
theorem zint_Mul {w : World} {s t : Bool} {A B : Option Addr} {n cap m cap' : Nat} {x y : Int} (hx : Zi w s A n cap x) (hl : n ≤ 68719476736) (hy : Zi w t B m cap' y) (hl' : m ≤ 68719476736) :
    Calls Try.prog 17 #[.agg #[.bool s, .slice A n cap], .agg #[.bool t, .slice B m cap']] w (RetZ w (x * y)) := by
  obtain ⟨xs, hr, rfl⟩ := hx
  obtain ⟨ys, hq, rfl⟩ := hy
  go_enter Try.func17, Try.ntmps17
  go_upto_region 1 with (fail)
  obtain ⟨g, g2, g3, wa, hg3, hg2, hg, hwa, hb1, hb2, hb3, hea, l12, l23, l3, n12, n21, n13, n31, n23, n32⟩ := boxes3 w 27 27 27 (.bool s) (.slice A n cap) (.bool t) (.slice B m cap') (.bool false) (.slice none 0 0)
  rw [hg3, hg2, hg, hwa]
  have hgw : w.heap.size ≤ g := Nat.le_of_eq hg
  clear hwa hg hg2 hg3
  obtain ⟨f1, f2, f3, f4⟩ := hb1.two
  obtain ⟨h1, h2, h3, h4⟩ := hb2.two
  obtain ⟨k1, k2, k3, k4⟩ := hb3.two
  go_region_held3 (fun w' => w'.cell? ⟨g, 0, none⟩ = some (.bool s) ∧ w'.cell? ⟨g, 1, none⟩ = some (.slice A n cap) ∧ w'.cell? ⟨g2, 0, none⟩ = some (.bool t) ∧ w'.cell? ⟨g2, 1, none⟩ = some (.slice B m cap')) (go_keep)
    (first
    | (go_at_call 57; refine (mulnat_Mul (hr.ext (by repeat (first | exact Ext.refl _ | assumption | apply Ext.drewN | apply Ext.drew | apply Ext.alloc))) (hq.ext (by repeat (first | exact Ext.refl _ | assumption | apply Ext.drewN | apply Ext.drew | apply Ext.alloc))) (by omega)).mono ?_; rintro e w1 ⟨A1, n1, c1, rfl, hn1, hr1, ho1, hx1⟩; have he1 : Ext wa w1 := Ext.trans (by repeat (first | exact Ext.refl _ | assumption | apply Ext.drewN | apply Ext.drew | apply Ext.alloc)) hx1; have hc1 := hb1.ext he1; have hc2 := hb2.ext he1; have hc3 := hb3.ext he1; obtain ⟨f1', f2', f3', f4'⟩ := hc1.two; obtain ⟨h1', h2', h3', h4'⟩ := hc2.two; obtain ⟨k1', k2', k3', k4'⟩ := hc3.two)
    | (go_at_call 55; refine (zint_of hn1.out).mono ?_; rintro e w2 ⟨s', rfl, hs', hx2⟩; have hd1 := hc1.ext hx2; have hd2 := hc2.ext hx2; have hd3 := hc3.ext hx2; obtain ⟨f1'', f2'', f3'', f4''⟩ := hd1.two; obtain ⟨h1'', h2'', h3'', h4''⟩ := hd2.two; obtain ⟨k1'', k2'', k3'', k4''⟩ := hd3.two))
  go_wp2_with fail
  refine bodyPost_ret (res_int rfl rfl (hd3.two_set _ _)) rfl ?_
  exact fin_int hd3 ((Zr_of hs'.out hn1.out ho1 (sg_mul _ _ _ _)).ext hx2) (by first | omega | (simp; omega)) (by omega) (hea.trans (he1.trans hx2))
theorem zint_Sign {w : World} {s : Bool} {A : Option Addr} {n cap : Nat} {x : Int} (hx : Zi w s A n cap x) (hl : n ≤ 68719476736) :
    Calls Try.prog 53 #[.agg #[.bool s, .slice A n cap]] w (SgnP (scmp x 0) w) := by
  obtain ⟨xs, hr, rfl⟩ := hx
  go_enter Try.func53, Try.ntmps53
  go_upto_region 1 with (fail)
  have hb1 := Bk.new w 27 [.bool s, .slice A n cap]
  obtain ⟨wa, hwa⟩ : ∃ wa, w.alloc (.cells #[.bool s, .slice A n cap] 27) = wa := ⟨_, rfl⟩
  rw [hwa]
  obtain ⟨g, hg⟩ : ∃ g, w.heap.size = g := ⟨_, rfl⟩
  rw [hg] at hb1 ⊢
  have hb1' : Bk wa g 27 [.bool s, .slice A n cap] := by rw [← hwa]; exact hb1
  have hea : Ext w wa := by rw [← hwa]; exact (Ext.refl w).alloc _
  clear hwa hg hb1
  obtain ⟨f1, f2, f3, f4⟩ := hb1'.two
  go_wp2_with fail
  refine (nat_BitLen (hr.ext hea) (by omega)).mono ?_
  rintro e w1 ⟨b, hb, rfl, hx1'⟩
  have hx1 := hea.trans hx1'
  obtain ⟨f1', f2', f3', f4'⟩ := (hb1'.ext hx1').two
  by_cases h0 : b = 0
  · subst h0
    have hz : nv xs = 0 := blen_eq_zero.1 hb.out.symm
    have HZ := Lib.hid hz
    clear hz
    go_wp2_with fail
    go_ret
    exact ⟨0, (show _ = _ by rw [HZ.out, sg_zero]; rfl), by omega, by omega, rfl, hx1⟩
  · have bb : ((b : Int) == 0) = false := by simp; omega
    have hz : 0 < nv xs := Nat.pos_of_ne_zero (fun e => h0 (by rw [hb.out, e]; rfl))
    have HZ := Lib.hid hz
    clear hz h0
    cases s
    · go_wp2_with fail
      go_ret
      refine ⟨1, ?_, by omega, by omega, rfl, hx1⟩
      show _ = _
      rw [sg_false, scmp, if_neg (by omega), if_neg (by have := HZ.out; omega)]
    · go_wp2_with fail
      go_ret
      refine ⟨-1, ?_, by omega, by omega, rfl, hx1⟩
      show _ = _
      rw [sg_true, scmp, if_pos (by have := HZ.out; omega)]
end Go.Proofs.Ytmaconeeonkdgaa

namespace Go.Proofs.Ytmaconeeonkdgaa
open Go.RowKit
/-- the memory of words is of another type than a variable of a struct -/
theorem Own.updT {w w' : World} {base : Nat} {t T : TypeId} {s : Nat} {A : Option Addr} {n cap : Nat} {vs us : List Value} {g : Nat} (h : Own w base t s A n cap vs) (hb : Bk w g T us) (hT : t ≠ T) (e : Upd g w w') : Own w' base t s A n cap vs := by
  refine h.upd e (fun a ha hg => ?_)
  rcases h with ⟨h, _⟩ | ⟨k, cs, hA, _, hk, _⟩
  · rw [h] at ha; cases ha
  · rw [hA] at ha
    cases ha
    simp only at hg
    subst hg
    unfold Bk at hk hb
    rw [hk] at hb
    injection hb with hb
    injection hb with h1 h2
    exact hT h2
theorem Zr.updT {w w' : World} {base : Nat} {s : Bool} {A : Option Addr} {n cap : Nat} {z : Int} {g : Nat} {T : TypeId} {us : List Value} (h : Zr w base s A n cap z) (hb : Bk w g T us) (e : Upd g w w') (hT : 47 ≠ T := by decide) : Zr w' base s A n cap z :=
  ⟨h.sgn, h.len, h.own.updT hb hT e⟩
theorem Bk.updN {w w' : World} {g g' : Nat} {T : TypeId} {vs : List Value} (h : Bk w g T vs) (e : Upd g' w w') (hne : g ≠ g') : Bk w' g T vs := h.upd e hne
theorem ln_abs (x : Int) : ln (x.natAbs : Int) = ln x := by unfold ln; rw [Int.natAbs_natCast]
theorem scmp_eq_t {x y : Int} (h : x = y) : cmpB .eql (scmp x y) 0 = some true := by
  have e : scmp x y = 0 := scmp_zero.2 h
  rw [e]; rfl
theorem scmp_eq_f {x y : Int} (h : x ≠ y) : cmpB .eql (scmp x y) 0 = some false := by
  have e : ¬ scmp x y = 0 := fun e => h (scmp_zero.1 e)
  simp only [cmpB, Option.some.injEq, beq_eq_false_iff_ne, ne_eq]; exact e
theorem scmp_ne_t {x y : Int} (h : x ≠ y) : cmpB .neq (scmp x y) 0 = some true := by
  have e : ¬ scmp x y = 0 := fun e => h (scmp_zero.1 e)
  simp only [cmpB, Option.some.injEq, bne_iff_ne, ne_eq]; exact e
theorem scmp_ne_f {x y : Int} (h : x = y) : cmpB .neq (scmp x y) 0 = some false := by
  have e : scmp x y = 0 := scmp_zero.2 h
  rw [e]; rfl
theorem scmp_lt_t {x y : Int} (h : x < y) : cmpB .lss (scmp x y) 0 = some true := by
  have e := scmp_neg.2 h
  simp only [cmpB, Option.some.injEq, decide_eq_true_eq]; exact e
theorem scmp_lt_f {x y : Int} (h : y ≤ x) : cmpB .lss (scmp x y) 0 = some false := by
  have e : ¬ scmp x y < 0 := fun e => by have := scmp_neg.1 e; omega
  simp only [cmpB, Option.some.injEq, decide_eq_false_iff_not]; exact e
theorem scmp_ge_t {x y : Int} (h : y ≤ x) : cmpB .geq (scmp x y) 0 = some true := by
  have e : ¬ scmp x y < 0 := fun e => by have := scmp_neg.1 e; omega
  simp only [cmpB, Option.some.injEq, decide_eq_true_eq]; omega
/-- a type of structs of k cells -/
structure AggT (P : Program) (T : TypeId) (k : Nat) : Prop where
  agg : ∀ w, (isAgg T).run P w = .ok true w
  size : ∀ w, (sizeOf T).run P w = .ok k w
theorem run_load1 {P : Program} {w : World} {p : Addr} {v : Value} (h : w.cell? p = some v) : (load p).run P w = .ok v w := by
  simp only [load, Sem.run, h]
theorem run_store1 {P : Program} {w : World} {p : Addr} {u v : Value} (h : w.cell? p = some u) (hf : w.frozen? p = false) (h1 : v.oneCell' = true) : (store p v).run P w = .ok () (w.setCell p v) := by
  rw [run_store P w p v .plain h1, h, hf]; rfl
theorem run_loadCells {P : Program} {w : World} {p : Addr} : ∀ (vs : List Value) (i : Nat) (acc : Array Value), (∀ j, j < vs.length → w.cell? (p.add (i + j)) = some (vs.getD j undef)) →
    (loadCellsFrom p i vs.length acc).run P w = .ok (acc ++ vs.toArray) w
  | [], i, acc, _ => by simp [loadCellsFrom]
  | v :: vs, i, acc, h => by
    have h0 := h 0 (by simp)
    simp only [Nat.add_zero, List.getD_cons_zero] at h0
    have ih := run_loadCells (P := P) (p := p) vs (i + 1) (acc.push v) (fun j hj => by
      have := h (j + 1) (by simpa using hj)
      rw [show i + 1 + j = i + (j + 1) by omega]
      simpa using this)
    show ((load (p.add i) >>= fun v => loadCellsFrom p (i + 1) vs.length (acc.push v) : Sem (Array Value))).run P w = _
    have e : (load (p.add i)).run P w = .ok v w := run_load1 h0
    rw [Sem.run_bind, e]
    simp only [Result.andThen_ok, ih]
    simp
theorem load_agg {P : Program} {w : World} {T T' : TypeId} {k off g : Nat} {vs : List Value} (hT : AggT P T k) (hb : Bk w g T' vs) (us : List Value) (hu : us.length = k) (hle : off + k ≤ vs.length) (he : (vs.drop off).take k = us) :
    (loadVar T ⟨g, off, none⟩).run P w = .ok (.agg us.toArray) w := by
  subst hu
  have h1 := run_loadCells (P := P) (w := w) (p := ⟨g, off, none⟩) us 0 #[] (fun j hj => by
    rw [Nat.zero_add, add_lit0, hb.cell (by omega)]
    congr 1
    rw [← he]
    simp only [List.getD_eq_getElem?_getD, List.getElem?_take, List.getElem?_drop]
    rw [if_pos hj])
  unfold loadVar loadCells
  rw [Sem.run_bind, hT.agg w]
  simp only [Result.andThen_ok, if_true, Sem.run_bind, hT.size w, h1]
  simp
theorem load_cell {P : Program} {w : World} {T T' : TypeId} {g i : Nat} {vs : List Value} {v : Value} (hT : ∀ w, (isAgg T).run P w = .ok false w) (hb : Bk w g T' vs) (hv : vs[i]? = some v) : (loadVar T ⟨g, i, none⟩).run P w = .ok v w := by
  have hi : i < vs.length := (List.getElem?_eq_some_iff.1 hv).1
  have hc := hb.cell hi
  rw [List.getD_eq_getElem?_getD, hv] at hc
  unfold loadVar
  rw [Sem.run_bind, hT w]
  simp only [Result.andThen_ok, Bool.false_eq_true, if_false]
  exact run_load1 hc
/-- what is stored over a part of a block -/
def overl (vs : List Value) (off : Nat) (us : List Value) : List Value := vs.take off ++ us ++ vs.drop (off + us.length)
theorem store_cells {P : Program} {g : Nat} {T : TypeId} : ∀ (us : List Value) (i off : Nat) (w : World) (vs : List Value), Bk w g T vs → off + i + us.length ≤ vs.length → (∀ u ∈ us, u.oneCell' = true) →
    ∃ w', (storeCells ⟨g, off, none⟩ us i).run P w = .ok () w' ∧ Bk w' g T (overl vs (off + i) us) ∧ Upd g w w' ∧ w'.heap.size = w.heap.size
  | [], i, off, w, vs, hb, _, _ => ⟨w, rfl, by simpa [overl] using hb, Upd.refl g w, rfl⟩
  | u :: us, i, off, w, vs, hb, hle, h1 => by
    have hi : off + i < vs.length := by simp at hle; omega
    have hc := hb.cell hi
    have hf := hb.frozen (off + i)
    have hb1 := hb.set (off + i) u
    obtain ⟨w', hr, hb2, hu, hs⟩ := store_cells (P := P) us (i + 1) off (w.setCell ⟨g, off + i, none⟩ u) (vs.set (off + i) u) hb1 (by simp at hle ⊢; omega) (fun x hx => h1 x (by simp [hx]))
    refine ⟨w', ?_, ?_, ((Upd.refl g w).setCell (off + i) u).trans hu, by rw [hs]; simp [World.setCell]⟩
    · show ((store ((⟨g, off, none⟩ : Addr).add i) u >>= fun _ => storeCells ⟨g, off, none⟩ us (i + 1) : Sem Unit)).run P w = _
      rw [add_lit0, Sem.run_bind, run_store1 hc hf (h1 u (by simp))]
      exact hr
    · have e : overl (vs.set (off + i) u) (off + (i + 1)) us = overl vs (off + i) (u :: us) := by
        unfold overl
        have e1 : (vs.set (off + i) u).take (off + (i + 1)) = vs.take (off + i) ++ [u] := by
          rw [show off + (i + 1) = off + i + 1 by omega, take_snoc _ _ (by simpa using hi) undef, List.take_set_of_le (Nat.le_refl _)]
          congr 2
          rw [List.getD_eq_getElem?_getD, List.getElem?_set_self hi]; rfl
        rw [e1, List.drop_set_of_lt (by omega)]
        simp only [List.length_cons, List.append_assoc, List.cons_append, List.nil_append]
        rw [show off + (i + 1) + us.length = off + i + (us.length + 1) by omega]
      rw [← e]; exact hb2
theorem run_stored {P : Program} {w : World} {T T' : TypeId} {k g off : Nat} {vs us : List Value} (hT : AggT P T k) (hk : us.length = k)
    (hb : Bk w g T' vs) (hle : off + k ≤ vs.length) (h1 : us.all (·.oneCell') = true) (us' : List Value) (he : overl vs off us = us') :
    ∃ w', (storeVar T ⟨g, off, none⟩ (.agg us.toArray)).run P w = .ok () w' ∧ Bk w' g T' us' ∧ Upd g w w' ∧ w'.heap.size = w.heap.size := by
  subst hk
  obtain ⟨w', hr, hb2, hu, hs⟩ := store_cells (P := P) us 0 off w vs hb (by omega) (by simpa [List.all_eq_true] using h1)
  rw [Nat.add_zero, he] at hb2
  refine ⟨w', ?_, hb2, hu, hs⟩
  unfold storeVar
  rw [Sem.run_bind]
  show ((sizeOf T).run P w).andThen _ = _
  rw [hT.size w]
  have e : (Value.agg us.toArray).cells = us.toArray := rfl
  simp only [Result.andThen_ok, e, List.size_toArray, ne_eq, not_true, if_false]
  exact hr
theorem wl_stored {P : Program} {Q : Exit → Act → World → Prop} {n : Nat} {l : Fr} {w : World} {ops : Array Oper} {rest : List Oper} {ty : TypeId} {pos : String} {af : Array Edge} {gd : Option (Nat × Bool)}
    (hw : guardB ops l gd = some true) {x y : Operand} {T T' : TypeId} {k g off : Nat} {vs us : List Value} (hx : evo l x = some (.pointer (some ⟨g, off, none⟩))) (hy : evo l y = some (.agg us.toArray)) (hT : AggT P T k) (hk : us.length = k)
    (hb : Bk w g T' vs) (hle : off + k ≤ vs.length) (h1 : us.all (·.oneCell') = true) (us' : List Value) (he : overl vs off us = us')
    (h : ∀ w', Bk w' g T' us' → Upd g w w' → w'.heap.size = w.heap.size → wl P ops Q n rest l w') : wl P ops Q n (⟨none, .store T x y, ty, pos, af, gd⟩ :: rest) l w := by
  obtain ⟨w', hr, hb2, hu, hs⟩ := run_stored (P := P) hT hk hb hle h1 us' he
  exact wl_store hw (p := ⟨g, off, none⟩) hx hy (w' := w') hr (h w' hb2 hu hs)
theorem wl_stored1 {P : Program} {Q : Exit → Act → World → Prop} {n : Nat} {l : Fr} {w : World} {ops : Array Oper} {rest : List Oper} {ty : TypeId} {pos : String} {af : Array Edge} {gd : Option (Nat × Bool)}
    (hw : guardB ops l gd = some true) {x y : Operand} {T T' : TypeId} {g off : Nat} {vs : List Value} {v : Value} (hx : evo l x = some (.pointer (some ⟨g, off, none⟩))) (hy : evo l y = some v) (hT : ∀ w, (sizeOf T).run P w = .ok 1 w) (hv : v.cells = #[v])
    (hb : Bk w g T' vs) (hle : off < vs.length) (h1 : v.oneCell' = true) (us' : List Value) (he : vs.set off v = us')
    (h : ∀ w', Bk w' g T' us' → Upd g w w' → w'.heap.size = w.heap.size → wl P ops Q n rest l w') : wl P ops Q n (⟨none, .store T x y, ty, pos, af, gd⟩ :: rest) l w := by
  have hb2 := hb.set off v
  rw [he] at hb2
  refine wl_store hw (p := ⟨g, off, none⟩) hx hy (w' := w.setCell ⟨g, off, none⟩ v) ?_ (h _ hb2 ((Upd.refl g w).setCell off v) (by simp [World.setCell]))
  unfold storeVar
  rw [Sem.run_bind]
  show ((sizeOf T).run P w).andThen _ = _
  rw [hT w]
  simp only [Result.andThen_ok, hv, List.size_toArray, List.length_cons, List.length_nil, ne_eq, not_true, Nat.zero_add, if_false]
  show ((store ((⟨g, off, none⟩ : Addr).add 0) v >>= fun _ => storeCells ⟨g, off, none⟩ [] (0 + 1) : Sem Unit)).run P w = _
  rw [add_lit0, Nat.add_zero, Sem.run_bind, run_store1 (hb.cell hle) (hb.frozen off) h1]
  rfl
end Go.Proofs.Ytmaconeeonkdgaa

namespace Go.Proofs.Ytmaconeeonkdgaa
open Go.RowKit
section
variable {P : Program} {Q : Exit → Act → World → Prop} {n : Nat} {l : Fr} {w : World} {ops : Array Oper} {rest : List Oper} {d : Nat} {ty : TypeId} {pos : String} {af : Array Edge} {gd : Option (Nat × Bool)}
theorem run_index {t e : TypeId} {s m c : Nat} {a : Addr} {k : IntKind} {i : Int} (hT : P.underlying t = some (.slice e)) (hs : ∀ w, (sizeOf e).run P w = .ok s w) (h0 : 0 ≤ i) (h1 : i < m) :
    (Instr.indexAt t (.slice (some a) m c) (.int k i)).run P w = .ok (.pointer (some (a.add (i.toNat * s)))) w := by
  have hu : (underlying t).run P w = .ok (.slice e) w := run_underlying hT w
  unfold Instr.indexAt
  simp only [asIntOf, Sem.run_bind, Sem.run_pure, Result.andThen_ok, hu]
  rw [if_pos ⟨h0, h1⟩]
  simp only [Sem.run_bind, hs w, Result.andThen_ok, Sem.run_pure]
def optIs (v : Option Value) (k : Nat) (dflt : Nat) : Prop := (v = none ∧ k = dflt) ∨ v = some (.int .i64 (k : Int))
theorem run_bound {i cap : Nat} {k : BoundsCode} (h : i ≤ cap) : (Instr.sliceBound (.int .i64 (i : Int)) cap k).run P w = .ok i w := by
  unfold Instr.sliceBound
  simp only [asIntOf, Sem.run_bind, Sem.run_pure, Result.andThen_ok]
  rw [if_pos ⟨by omega, by omega⟩]
  rfl
theorem run_slice {t e : TypeId} {s m c lo hi : Nat} {A : Option Addr} {low high : Option Value} (hT : P.underlying t = some (.slice e)) (hs : ∀ w, (sizeOf e).run P w = .ok s w) (h1 : optIs low lo 0) (h2 : optIs high hi m) (h3 : lo ≤ hi) (h4 : hi ≤ c) :
    (Instr.sliceAt t (.slice A m c) low high none).run P w = .ok (.slice (if c = lo then A else A.map (·.add (lo * s))) (hi - lo) (c - lo)) w := by
  have hu : (underlying t).run P w = .ok (.slice e) w := run_underlying hT w
  have hb : (Instr.sliceBounds true m c low high none).run P w = .ok (lo, hi, c) w := by
    unfold Instr.sliceBounds
    rcases h1 with ⟨rfl, rfl⟩ | rfl <;> rcases h2 with ⟨rfl, rfl⟩ | rfl
    · simp only [Sem.run_bind, Sem.run_pure, Result.andThen_ok]
    · simp only [Sem.run_bind, Sem.run_pure, Result.andThen_ok, run_bound h4, if_true]
    · simp only [Sem.run_bind, Sem.run_pure, Result.andThen_ok, Option.isSome, run_bound h3]
    · simp only [Sem.run_bind, Sem.run_pure, Result.andThen_ok, Option.isSome, run_bound h4, run_bound h3, if_true]
  unfold Instr.sliceAt
  simp only [Sem.run_bind, hu, Result.andThen_ok]
  unfold Instr.slice
  simp only [Sem.run_bind, hu, Result.andThen_ok, hb, hs w, Sem.run_pure]
/-- s[lo:hi] -/
theorem wl_slice (hw : guardB ops l gd = some true) {x : Operand} {lo' hi' : Option Operand} {t e : TypeId} {s m c lo hi : Nat} {A : Option Addr} (hx : evo l x = some (.slice A m c)) (hT : P.underlying t = some (.slice e)) (hs : ∀ w, (sizeOf e).run P w = .ok s w)
    (h1 : match lo' with | none => lo = 0 | some y => evo l y = some (.int .i64 (lo : Int))) (h2 : match hi' with | none => hi = m | some y => evo l y = some (.int .i64 (hi : Int))) (h3 : lo ≤ hi) (h4 : hi ≤ c)
    {v : Value} (hv : Value.slice (if c = lo then A else A.map (·.add (lo * s))) (hi - lo) (c - lo) = v) (hn : d < n) (h : wl P ops Q n rest ((d, v) :: l) w) : wl P ops Q n (⟨some d, .slice t x lo' hi' none, ty, pos, af, gd⟩ :: rest) l w :=
  wl_val hw hn (fun a' ha => by
    have e : (Instr.sliceAt t (a'.eval x) (lo'.map a'.eval) (hi'.map a'.eval) (Option.map a'.eval none)).run P w = .ok v w := by
      rw [ha.ev hx, ← hv]
      refine run_slice hT hs ?_ ?_ h3 h4
      · cases lo' with
        | none => exact Or.inl ⟨rfl, h1⟩
        | some y => exact Or.inr (by show some (a'.eval y) = _; rw [ha.ev h1])
      · cases hi' with
        | none => exact Or.inl ⟨rfl, h2⟩
        | some y => exact Or.inr (by show some (a'.eval y) = _; rw [ha.ev h2])
    show ((Instr.sliceAt t (a'.eval x) (lo'.map a'.eval) (hi'.map a'.eval) (Option.map a'.eval none) >>= fun r => pure (Next.value r) : Sem Next)).run P w = _
    rw [Sem.run_bind, e]; rfl) h
theorem load_at {T : TypeId} {k : Nat} {p : Addr} (hT : AggT P T k) (us : List Value) (hu : us.length = k) (hc : ∀ j, j < us.length → w.cell? (p.add j) = some (us.getD j undef)) : (loadVar T p).run P w = .ok (.agg us.toArray) w := by
  subst hu
  have h1 := run_loadCells (P := P) (w := w) (p := p) us 0 #[] (fun j hj => by rw [Nat.zero_add]; exact hc j hj)
  unfold loadVar loadCells
  rw [Sem.run_bind, hT.agg w]
  simp only [Result.andThen_ok, if_true, Sem.run_bind, hT.size w, h1]
  simp
theorem load_cell1 {T : TypeId} {p : Addr} {v : Value} (hT : ∀ w, (isAgg T).run P w = .ok false w) (hc : w.cell? p = some v) : (loadVar T p).run P w = .ok v w := by
  unfold loadVar
  rw [Sem.run_bind, hT w]
  simp only [Result.andThen_ok, Bool.false_eq_true, if_false]
  exact run_load1 hc
end
theorem add_zero_addr (a : Addr) : a.add 0 = a := by simp [Addr.add]
theorem ge_t {a b : Int} (h : b ≤ a) : cmpB .geq a b = some true := by simp only [cmpB, Option.some.injEq, decide_eq_true_eq]; omega
theorem ge_f {a b : Int} (h : a < b) : cmpB .geq a b = some false := by simp only [cmpB, Option.some.injEq, decide_eq_false_iff_not]; omega
theorem lt_t {a b : Int} (h : a < b) : cmpB .lss a b = some true := by simp only [cmpB, Option.some.injEq, decide_eq_true_eq]; omega
theorem lt_f {a b : Int} (h : b ≤ a) : cmpB .lss a b = some false := by simp only [cmpB, Option.some.injEq, decide_eq_false_iff_not]; omega
theorem gt_t {a b : Int} (h : b < a) : cmpB .gtr a b = some true := by simp only [cmpB, Option.some.injEq, decide_eq_true_eq]; omega
theorem gt_f {a b : Int} (h : a ≤ b) : cmpB .gtr a b = some false := by simp only [cmpB, Option.some.injEq, decide_eq_false_iff_not]; omega
theorem eq_t {a b : Int} (h : a = b) : cmpB .eql a b = some true := by subst h; simp [cmpB]
theorem eq_f {a b : Int} (h : a ≠ b) : cmpB .eql a b = some false := by simp only [cmpB, Option.some.injEq, beq_eq_false_iff_ne, ne_eq]; exact h
theorem ne_t {a b : Int} (h : a ≠ b) : cmpB .neq a b = some true := by simp only [cmpB, Option.some.injEq, bne_iff_ne, ne_eq]; exact h
theorem ne_f {a b : Int} (h : a = b) : cmpB .neq a b = some false := by subst h; simp [cmpB]
/-- sums within bounds -/
theorem ar_i64 {a b c : Int} (h : a + b = c) (h1 : -9223372036854775808 ≤ c) (h2 : c ≤ 9223372036854775807) : arB .add .i64 a b = some c := by
  simp only [arB, Option.some.injEq]; rw [h]; exact IntWalk.i64_in _ ⟨h1, h2⟩
theorem ar_i64s {a b c : Int} (h : a - b = c) (h1 : -9223372036854775808 ≤ c) (h2 : c ≤ 9223372036854775807) : arB .sub .i64 a b = some c := by
  simp only [arB, Option.some.injEq]; rw [h]; exact IntWalk.i64_in _ ⟨h1, h2⟩
theorem ar_i64m {a b c : Int} (h : a * b = c) (h1 : -9223372036854775808 ≤ c) (h2 : c ≤ 9223372036854775807) : arB .mul .i64 a b = some c := by
  simp only [arB, Option.some.injEq]; rw [h]; exact IntWalk.i64_in _ ⟨h1, h2⟩
theorem ar_i64q {a b c : Int} (hb : b ≠ 0) (h : a.tdiv b = c) (h1 : -9223372036854775808 ≤ c) (h2 : c ≤ 9223372036854775807) : arB .quo .i64 a b = some c := by
  simp only [arB]; rw [if_neg hb, h, Option.some.injEq]; exact IntWalk.i64_in _ ⟨h1, h2⟩
end Go.Proofs.Ytmaconeeonkdgaa

namespace Go.Proofs.Ytmaconeeonkdgaa
open Go.RowKit
/-- the address of word i of a list, and what lies there -/
theorem Rd.at {w : World} {A : Option Addr} {n c : Nat} {xs : List Nat} (h : Rd w A n c xs) {i : Nat} (hi : i < n) :
    ∃ p, A.map (·.add (i * 1)) = some p ∧ w.cell? p = some (.int .u64 ((xs.getD i 0 : Nat) : Int)) ∧ xs.getD i 0 ≤ 18446744073709551615 := by
  obtain ⟨a, x, rfl, hk, hb, hc⟩ := h.get hi
  refine ⟨a.add i, by rw [Nat.mul_one]; rfl, ?_, by rw [hk.out]; exact hb⟩
  rw [hk.out]; exact hc
theorem Rd.updL {w w' : World} {A : Option Addr} {n c : Nat} {xs : List Nat} {g : Nat} (h : Rd w A n c xs) (e : Upd g w w') (hne : 0 < c → ∀ a, A = some a → a.block ≠ g) : Rd w' A n c xs :=
  ⟨⟨h.rv.len, h.rv.le, h.rv.max, fun i hi => by
    obtain ⟨a, ha, hc⟩ := h.rv.get i hi
    exact ⟨a, ha, e.cell hc (by rw [block_of_add]; exact hne (by have := h.rv.le; omega) a ha)⟩, fun a ha hc => Nat.lt_of_lt_of_le (h.rv.blk a ha hc) e.size⟩, h.wf⟩
theorem arr_at (g i : Nat) : (some (⟨g, 0, none⟩ : Addr)).map (·.add (i * 1)) = some ⟨g, i, none⟩ := by
  rw [Nat.mul_one]
  show some ((⟨g, 0, none⟩ : Addr).add i) = _
  rw [add_lit0, Nat.zero_add]
section
variable {P : Program} {Q : Exit → Act → World → Prop} {n : Nat} {l : Fr} {w : World} {ops : Array Oper} {rest : List Oper} {d : Nat} {op : Op} {ty : TypeId} {pos : String} {af : Array Edge} {gd : Option (Nat × Bool)}
theorem run_idx {t e : TypeId} {s m c : Nat} {A : Option Addr} {k : IntKind} {i : Int} {j : Nat} {p : Addr} (hT : P.underlying t = some (.slice e)) (hs : ∀ w, (sizeOf e).run P w = .ok s w) (hi : i = (j : Int)) (hj : j < m) (hp : A.map (·.add (j * s)) = some p) :
    (Instr.indexAt t (.slice A m c) (.int k i)).run P w = .ok (.pointer (some p)) w := by
  subst hi
  cases A with
  | none => cases hp
  | some a =>
    have h := run_index (P := P) (w := w) (t := t) (e := e) (s := s) (m := m) (c := c) (a := a) (k := k) (i := (j : Int)) hT hs (by omega) (by omega)
    rw [h]
    rw [Int.toNat_natCast]
    injection hp with hp
    rw [← hp]
theorem wl_idx (hw : guardB ops l gd = some true) {x y : Operand} {t e : TypeId} {s m c : Nat} {A : Option Addr} {k : IntKind} {i : Int} (hx : evo l x = some (.slice A m c)) (hy : evo l y = some (.int k i)) (hT : P.underlying t = some (.slice e)) (hs : ∀ w, (sizeOf e).run P w = .ok s w)
    (j : Nat) (hi : i = (j : Int)) (hj : j < m) (p : Addr) (hp : A.map (·.add (j * s)) = some p) (hn : d < n) (h : wl P ops Q n rest ((d, .pointer (some p)) :: l) w) : wl P ops Q n (⟨some d, .indexAddr t x y, ty, pos, af, gd⟩ :: rest) l w :=
  wl_val hw hn (fun a' ha => by
    have e : (Instr.indexAt t (a'.eval x) (a'.eval y)).run P w = .ok (.pointer (some p)) w := by rw [ha.ev hx, ha.ev hy]; exact run_idx hT hs hi hj hp
    show ((Instr.indexAt t (a'.eval x) (a'.eval y) >>= fun r => pure (Next.value r) : Sem Next)).run P w = _
    rw [Sem.run_bind, e]; rfl) h
theorem rd_idx {x y : Operand} {t e : TypeId} {s m c : Nat} {A : Option Addr} {k : IntKind} {i : Int} {dst : Option Tmp} (hx : evo l x = some (.slice A m c)) (hy : evo l y = some (.int k i)) (hT : P.underlying t = some (.slice e)) (hs : ∀ w, (sizeOf e).run P w = .ok s w)
    (j : Nat) (hi : i = (j : Int)) (hj : j < m) (p : Addr) (hp : A.map (·.add (j * s)) = some p) : RunD P n l ⟨dst, .indexAddr t x y, ty, pos, af, gd⟩ w (.value (.pointer (some p))) w := fun a' ha => by
  have e : (Instr.indexAt t (a'.eval x) (a'.eval y)).run P w = .ok (.pointer (some p)) w := by rw [ha.ev hx, ha.ev hy]; exact run_idx hT hs hi hj hp
  show ((Instr.indexAt t (a'.eval x) (a'.eval y) >>= fun r => pure (Next.value r) : Sem Next)).run P w = _
  rw [Sem.run_bind, e]; rfl
theorem rd_cmp {o : BinOp} {t t' : TypeId} {x y : Operand} {k : IntKind} {a b : Int} {dst : Option Tmp} (hx : evo l x = some (.int k a)) (hy : evo l y = some (.int k b)) (c : Bool) (hc : cmpB o a b = some c) : RunD P n l ⟨dst, .binOp o t x y t', ty, pos, af, gd⟩ w (.value (.bool c)) w := fun a' ha => by
  have e : ((do eqGuard o t x y (a'.eval x) (a'.eval y); binOp o t (a'.eval x) (a'.eval y)) : Sem Value).run P w = .ok (.bool c) w := by
    rw [ha.ev hx, ha.ev hy]; exact run_cmp hc
  show ((((do eqGuard o t x y (a'.eval x) (a'.eval y); binOp o t (a'.eval x) (a'.eval y)) : Sem Value) >>= fun r => pure (Next.value r)) : Sem Next).run P w = _
  rw [Sem.run_bind, e]; rfl
theorem rd_ar {o : BinOp} {t t' : TypeId} {x y : Operand} {k : IntKind} {a b : Int} {dst : Option Tmp} (hx : evo l x = some (.int k a)) (hy : evo l y = some (.int k b)) (c : Int) (hc : arB o k a b = some c) : RunD P n l ⟨dst, .binOp o t x y t', ty, pos, af, gd⟩ w (.value (.int k c)) w := fun a' ha => by
  have e : ((do eqGuard o t x y (a'.eval x) (a'.eval y); binOp o t (a'.eval x) (a'.eval y)) : Sem Value).run P w = .ok (.int k c) w := by
    rw [ha.ev hx, ha.ev hy]; exact run_ar hc
  show ((((do eqGuard o t x y (a'.eval x) (a'.eval y); binOp o t (a'.eval x) (a'.eval y)) : Sem Value) >>= fun r => pure (Next.value r)) : Sem Next).run P w = _
  rw [Sem.run_bind, e]; rfl
theorem run_store1v {w : World} {T T' : TypeId} {g off : Nat} {vs : List Value} {v : Value} (hT : ∀ w, (sizeOf T).run P w = .ok 1 w) (hv : v.cells = #[v]) (hb : Bk w g T' vs) (hle : off < vs.length) (h1 : v.oneCell' = true) (us' : List Value) (he : vs.set off v = us') :
    ∃ w', (storeVar T ⟨g, off, none⟩ v).run P w = .ok () w' ∧ Bk w' g T' us' ∧ Upd g w w' ∧ w'.heap.size = w.heap.size := by
  have hb2 := hb.set off v
  rw [he] at hb2
  refine ⟨w.setCell ⟨g, off, none⟩ v, ?_, hb2, (Upd.refl g w).setCell off v, by simp [World.setCell]⟩
  unfold storeVar
  rw [Sem.run_bind]
  show ((sizeOf T).run P w).andThen _ = _
  rw [hT w]
  simp only [Result.andThen_ok, hv, List.size_toArray, List.length_cons, List.length_nil, ne_eq, not_true, Nat.zero_add, if_false]
  show ((store ((⟨g, off, none⟩ : Addr).add 0) v >>= fun _ => storeCells ⟨g, off, none⟩ [] (0 + 1) : Sem Unit)).run P w = _
  rw [add_lit0, Nat.add_zero, Sem.run_bind, run_store1 (hb.cell hle) (hb.frozen off) h1]
  rfl
/-- make([]T, k) -/
theorem wl_make {t e : TypeId} {z : Value} {bytes : Nat} {x y : Operand} (hw : guardB ops l gd = some true) {i : Int} {k : Nat} (hx : evo l x = some (.int .i64 i)) (hy : evo l y = some (.int .i64 i)) (hi : i = (k : Int)) (ht : P.underlying t = some (.slice e))
    (hinfo : (P.info? e).map (fun i => (i.zero, i.size, i.bytes)) = some (some z, 1, bytes)) (hz : z.cells = #[z]) (hby : bytes ≤ 64) (hk : k ≤ 1099511627776) (hn : d < n)
    (h : ∀ g w', w.heap.size = g → Bk w' g e (List.replicate k z) → Ext w w' → wl P ops Q n rest ((d, .slice (some ⟨g, 0, none⟩) k k) :: l) w') : wl P ops Q n (⟨some d, .makeSlice t x y, ty, pos, af, gd⟩ :: rest) l w := by
  subst hi
  have hm := run_make1 (P := P) ht hinfo hz hby (k : Int) (by omega) (by omega) w
  rw [Int.toNat_natCast] at hm
  refine wl_val hw hn (fun a' ha => ?_) (h _ (w.alloc (.cells (zc z k) e)) rfl (Bk.new' _ _ _) ((Ext.refl w).alloc _))
  have e' : (Instr.makeSlice t (a'.eval x) (a'.eval y)).run P w = .ok (.slice (some ⟨w.heap.size, 0, none⟩) k k) (w.alloc (.cells (zc z k) e)) := by rw [ha.ev hx, ha.ev hy]; exact hm
  show ((Instr.makeSlice t (a'.eval x) (a'.eval y) >>= fun r => pure (Next.value r) : Sem Next)).run P w = _
  rw [Sem.run_bind, e']; rfl
end
theorem load_word {P : Program} {w : World} {T T' : TypeId} {g i : Nat} {l : List Nat} (hT : ∀ w, (isAgg T).run P w = .ok false w) (hb : Bk w g T' (l.map W64)) (hi : i < l.length) : (loadVar T ⟨g, i, none⟩).run P w = .ok (.int .u64 ((l.getD i 0 : Nat) : Int)) w := by
  refine load_cell hT hb ?_
  simp [List.getD_eq_getElem?_getD, List.getElem?_eq_getElem hi]
theorem len_set {l : List Nat} {N i x : Nat} (h : l.length = N) : (l.set i x).length = N := by rw [List.length_set]; exact h
theorem len_map {f : Nat → Value} {l : List Nat} {i : Nat} (h : i < l.length) : i < (l.map f).length := by rw [List.length_map]; exact h
/-- tests and sums of numbers that are not negative -/
theorem cb_lt_t {A B : Int} {a b : Nat} (ha : A = (a : Int)) (hb : B = (b : Int)) (h : a < b) : cmpB .lss A B = some true := by subst ha hb; exact lt_t (by omega)
theorem cb_lt_f {A B : Int} {a b : Nat} (ha : A = (a : Int)) (hb : B = (b : Int)) (h : b ≤ a) : cmpB .lss A B = some false := by subst ha hb; exact lt_f (by omega)
theorem cb_gt_t {A B : Int} {a b : Nat} (ha : A = (a : Int)) (hb : B = (b : Int)) (h : b < a) : cmpB .gtr A B = some true := by subst ha hb; exact gt_t (by omega)
theorem cb_gt_f {A B : Int} {a b : Nat} (ha : A = (a : Int)) (hb : B = (b : Int)) (h : a ≤ b) : cmpB .gtr A B = some false := by subst ha hb; exact gt_f (by omega)
theorem cb_ge_t {A B : Int} {a b : Nat} (ha : A = (a : Int)) (hb : B = (b : Int)) (h : b ≤ a) : cmpB .geq A B = some true := by subst ha hb; exact ge_t (by omega)
theorem cb_eq_t {A B : Int} {a b : Nat} (ha : A = (a : Int)) (hb : B = (b : Int)) (h : a = b) : cmpB .eql A B = some true := by subst ha hb; exact eq_t (by omega)
theorem cb_eq_f {A B : Int} {a b : Nat} (ha : A = (a : Int)) (hb : B = (b : Int)) (h : a ≠ b) : cmpB .eql A B = some false := by subst ha hb; exact eq_f (by omega)
theorem cb_ne_t {A B : Int} {a b : Nat} (ha : A = (a : Int)) (hb : B = (b : Int)) (h : a ≠ b) : cmpB .neq A B = some true := by subst ha hb; exact ne_t (by omega)
theorem cb_ne_f {A B : Int} {a b : Nat} (ha : A = (a : Int)) (hb : B = (b : Int)) (h : a = b) : cmpB .neq A B = some false := by subst ha hb; exact ne_f (by omega)
theorem au_add {A B : Int} {a b : Nat} (ha : A = (a : Int)) (hb : B = (b : Int)) (h : a + b ≤ 18446744073709551615) : arB .add .u64 A B = some ((a + b : Nat) : Int) := by
  subst ha hb; simp only [arB, Option.some.injEq]; rw [← Int.natCast_add]; exact IntWalk.u64_in _ ⟨by omega, by omega⟩
theorem au_sub {A B : Int} {a b : Nat} (ha : A = (a : Int)) (hb : B = (b : Int)) (h : b ≤ a) (h2 : a ≤ 18446744073709551615) : arB .sub .u64 A B = some ((a - b : Nat) : Int) := by
  subst ha hb; simp only [arB, Option.some.injEq]; rw [show (a : Int) - (b : Int) = ((a - b : Nat) : Int) by omega]; exact IntWalk.u64_in _ ⟨by omega, by omega⟩
theorem au_mul {A B : Int} {a b : Nat} (ha : A = (a : Int)) (hb : B = (b : Int)) (h : a * b ≤ 18446744073709551615) : arB .mul .u64 A B = some ((a * b : Nat) : Int) := by
  subst ha hb; simp only [arB, Option.some.injEq]; rw [← Int.natCast_mul]; exact IntWalk.u64_in _ ⟨by omega, by omega⟩
theorem au_quo {A B : Int} {a b : Nat} (ha : A = (a : Int)) (hb : B = (b : Int)) (h : b ≠ 0) (h2 : a ≤ 18446744073709551615) : arB .quo .u64 A B = some ((a / b : Nat) : Int) := by
  subst ha hb
  have e : ((a : Int)).tdiv (b : Int) = ((a / b : Nat) : Int) := rfl
  have h3 : a / b ≤ a := Nat.div_le_self a b
  have h4 : (0 : Int) ≤ ((a / b : Nat) : Int) := Int.natCast_nonneg _
  have h5 : ((a / b : Nat) : Int) ≤ (a : Int) := Int.ofNat_le.2 h3
  simp only [arB]; rw [if_neg (by omega), e, Option.some.injEq]
  generalize ((a / b : Nat) : Int) = q at h4 h5
  exact IntWalk.u64_in _ ⟨by omega, by omega⟩
theorem au_rem {k : IntKind} {A B : Int} {a b : Nat} (ha : A = (a : Int)) (hb : B = (b : Int)) (h : b ≠ 0) : arB .rem k A B = some ((a % b : Nat) : Int) := by
  subst ha hb
  have e : ((a : Int)).tmod (b : Int) = ((a % b : Nat) : Int) := rfl
  simp only [arB]; rw [if_neg (by omega), e]
theorem ai_add {A B : Int} {a b : Nat} (ha : A = (a : Int)) (hb : B = (b : Int)) (h : a + b ≤ 9223372036854775807) : arB .add .i64 A B = some ((a + b : Nat) : Int) := by
  subst ha hb; exact ar_i64 (by omega) (by omega) (by omega)
theorem ai_sub {A B : Int} {a b : Nat} (ha : A = (a : Int)) (hb : B = (b : Int)) (h : b ≤ a) (h2 : a ≤ 9223372036854775807) : arB .sub .i64 A B = some ((a - b : Nat) : Int) := by
  subst ha hb; exact ar_i64s (by omega) (by omega) (by omega)
theorem ai_mul {A B : Int} {a b : Nat} (ha : A = (a : Int)) (hb : B = (b : Int)) (h : a * b ≤ 9223372036854775807) : arB .mul .i64 A B = some ((a * b : Nat) : Int) := by
  subst ha hb; exact ar_i64m (by rw [← Int.natCast_mul]) (by omega) (by omega)
theorem ai_quo {A B : Int} {a b : Nat} (ha : A = (a : Int)) (hb : B = (b : Int)) (h : b ≠ 0) (h2 : a ≤ 9223372036854775807) : arB .quo .i64 A B = some ((a / b : Nat) : Int) := by
  subst ha hb
  have h3 : a / b ≤ a := Nat.div_le_self a b
  have h4 : (0 : Int) ≤ ((a / b : Nat) : Int) := Int.natCast_nonneg _
  have h5 : ((a / b : Nat) : Int) ≤ (a : Int) := Int.ofNat_le.2 h3
  refine ar_i64q (by omega) rfl ?_ ?_
  · show _ ≤ ((a / b : Nat) : Int)
    generalize ((a / b : Nat) : Int) = q at h4 h5
    omega
  · show ((a / b : Nat) : Int) ≤ _
    generalize ((a / b : Nat) : Int) = q at h4 h5
    omega
theorem sz_u64 (w : World) : (sizeOf 47).run Try.prog w = .ok 1 w := by kernel_rfl
theorem ag_u64 (w : World) : (isAgg 47).run Try.prog w = .ok false w := by kernel_rfl
theorem un_u64 : Try.prog.underlying 25 = some (.slice 47) := Try.underlying25
end Go.Proofs.Ytmaconeeonkdgaa

namespace Go.Proofs.Ytmaconeeonkdgaa
open Go.RowKit
theorem res_iie {w : World} {g g' : Nat} {t t' : TypeId} {a b c d : Value} {fn : Func} {s s' u : Tmp} (hf : fn.results = #[.cell s 27, .cell s' 27, .tmp u]) {tmps : Array Value} (hs : tmps.getD s undef = .pointer (some ⟨g, 0, none⟩)) (hs' : tmps.getD s' undef = .pointer (some ⟨g', 0, none⟩)) {v : Value} (hu : tmps.getD u undef = v) (h : Bk w g t [a, b]) (h' : Bk w g' t' [c, d]) :
    (results fn tmps).run Try.prog w = .ok (.tuple #[.agg #[a, b], .agg #[c, d], v]) w := by
  obtain ⟨h1, h2, _, _⟩ := h.two
  obtain ⟨h3, h4, _, _⟩ := h'.two
  have hs2 : tmps[s]?.getD undef = .pointer (some ⟨g, 0, none⟩) := by simpa using hs
  have hs3 : tmps[s']?.getD undef = .pointer (some ⟨g', 0, none⟩) := by simpa using hs'
  have hu2 : tmps[u]?.getD undef = v := by simpa using hu
  simp [results, hf, hs2, hs3, hu2, loadVar, loadCells, loadCellsFrom, go_sem, h1, h2, h3, h4]
theorem Bk.two_far {w : World} {g g' : Nat} {t : TypeId} {l : List Value} (h : Bk w g t l) (hne : g ≠ g') (u v : Value) : Bk ((w.setCell ⟨g', 0, none⟩ u).setCell ⟨g', 1, none⟩ v) g t l := (h.far (p := ⟨g', 0, none⟩) hne u).far (p := ⟨g', 1, none⟩) hne v
set_option maxHeartbeats 1000000 in
theorem zint_Add {w : World} {s t : Bool} {A B : Option Addr} {n cap m cap' : Nat} {x y : Int} (hx : Zi w s A n cap x) (hl : n ≤ 274877906944) (hy : Zi w t B m cap' y) (hl' : m ≤ 274877906944) :
    Calls Try.prog 24 #[.agg #[.bool s, .slice A n cap], .agg #[.bool t, .slice B m cap']] w (RetZ w (x + y)) := by
  obtain ⟨xs, hr, rfl⟩ := hx
  obtain ⟨ys, hq, rfl⟩ := hy
  go_enter Try.func24, Try.ntmps24
  go_upto_region 1 with (fail)
  obtain ⟨g, g2, g3, wa, hg3, hg2, hg, hwa, hb1, hb2, hb3, hea, l12, l23, l3, n12, n21, n13, n31, n23, n32⟩ := boxes3 w 27 27 27 (.bool s) (.slice A n cap) (.bool t) (.slice B m cap') (.bool false) (.slice none 0 0)
  rw [hg3, hg2, hg, hwa]
  have hgw : w.heap.size ≤ g := Nat.le_of_eq hg
  clear hwa hg hg2 hg3
  obtain ⟨f1, f2, f3, f4⟩ := hb1.two
  obtain ⟨h1, h2, h3, h4⟩ := hb2.two
  obtain ⟨k1, k2, k3, k4⟩ := hb3.two
  by_cases hst : s = t
  · have bs : (s == t) = true := by rw [hst]; cases t <;> rfl
    go_upto_region 2 with (fail)
    go_region_held3 (fun w' => w'.cell? ⟨g, 0, none⟩ = some (.bool s) ∧ w'.cell? ⟨g, 1, none⟩ = some (.slice A n cap) ∧ w'.cell? ⟨g2, 0, none⟩ = some (.bool t) ∧ w'.cell? ⟨g2, 1, none⟩ = some (.slice B m cap')) (go_keep)
      (first
      | (go_at_call 64; refine (nat_Add (hr.ext (by repeat (first | exact Ext.refl _ | assumption | apply Ext.drewN | apply Ext.drew | apply Ext.alloc))) (by omega) (hq.ext (by repeat (first | exact Ext.refl _ | assumption | apply Ext.drewN | apply Ext.drew | apply Ext.alloc))) (by omega)).mono ?_; rintro e w1 ⟨A1, n1, c1, rfl, hn1, hr1, ho1, hx1⟩; have he1 : Ext wa w1 := Ext.trans (by repeat (first | exact Ext.refl _ | assumption | apply Ext.drewN | apply Ext.drew | apply Ext.alloc)) hx1; have hb1 := hb1.ext he1; have hb2 := hb2.ext he1; have hb3 := hb3.ext he1; obtain ⟨f1, f2, f3, f4⟩ := hb1.two; obtain ⟨h1, h2, h3, h4⟩ := hb2.two; obtain ⟨k1, k2, k3, k4⟩ := hb3.two)
      | (go_at_call 55; refine (zint_of hn1.out).mono ?_; rintro e w2 ⟨s', rfl, hs', hx2⟩; have hd1 := hb1.ext hx2; have hd2 := hb2.ext hx2; have hd3 := hb3.ext hx2; obtain ⟨f1, f2, f3, f4⟩ := hd1.two; obtain ⟨h1, h2, h3, h4⟩ := hd2.two; obtain ⟨k1, k2, k3, k4⟩ := hd3.two))
    go_wp2_with fail
    refine bodyPost_ret (res_int rfl rfl (hd3.two_set _ _)) rfl ?_
    exact fin_int hd3 ((Zr_of hs'.out hn1.out ho1 (by rw [sg_add, hst])).ext hx2) (by first | omega | (simp; omega)) (by omega) (hea.trans (he1.trans hx2))
  · have bs : (s == t) = false := by cases s <;> cases t <;> simp_all
    have ht : Hid (t = !s) := by show _ = _; cases s <;> cases t <;> simp_all
    clear hst
    go_wp2_with fail
    refine (nat_Cmp (hr.ext hea) (by omega) (hq.ext hea) (by omega)).mono ?_
    rintro e w1 ⟨c, hc, hcl, hch, rfl, hx1⟩
    have hb1 := hb1.ext hx1
    have hb2 := hb2.ext hx1
    have hb3 := hb3.ext hx1
    have he1 := hea.trans hx1
    have hsz := hx1.size
    clear f1 f2 f3 f4 h1 h2 h3 h4 k1 k2 k3 k4
    obtain ⟨f1, f2, f3, f4⟩ := hb1.two
    obtain ⟨h1, h2, h3, h4⟩ := hb2.two
    by_cases hlt : c < 0
    · have hle : nv xs ≤ nv ys := by rw [hc.out] at hlt; exact Nat.le_of_lt (cmp3_neg.1 hlt)
      have HLE := Lib.hid hle
      clear hle
      go_upto_region 5 with (fail)
      obtain ⟨wb, hwb⟩ : ∃ wb, (((w1.setCell ⟨g, 0, none⟩ (.bool t)).setCell ⟨g, 1, none⟩ (.slice B m cap')).setCell ⟨g2, 0, none⟩ (.bool s)).setCell ⟨g2, 1, none⟩ (.slice A n cap) = wb := ⟨_, rfl⟩
      rw [hwb]
      have hd1 : Bk wb g 27 [.bool t, .slice B m cap'] := by rw [← hwb]; exact (hb1.two_set _ _).two_far n12 _ _
      have hd2 : Bk wb g2 27 [.bool s, .slice A n cap] := by rw [← hwb]; exact (hb2.two_far n21 _ _).two_set _ _
      have hd3 : Bk wb g3 27 [.bool false, .slice none 0 0] := by rw [← hwb]; exact (hb3.two_far n31 _ _).two_far n32 _ _
      have heb : Ext w wb := by
        rw [← hwb]
        exact (Upd.two _ _).ext ((Upd.two _ _).ext he1 hgw) (by omega)
      have hszb : wb.heap.size = w1.heap.size := by rw [← hwb]; simp [World.setCell]
      clear hwb f1 f2 f3 f4 h1 h2 h3 h4
      obtain ⟨f1, f2, f3, f4⟩ := hd1.two
      obtain ⟨h1, h2, h3, h4⟩ := hd2.two
      go_wp2_with fail
      refine (nat_Sub (hq.ext heb) (by omega) (hr.ext heb) (by omega) HLE.out).mono ?_
      rintro e w2 ⟨A2, n2, c2, rfl, hn2, hr2, ho2, hx2⟩
      obtain ⟨f1, f2, f3, f4⟩ := (hd1.ext hx2).two
      have hd3 := hd3.ext hx2
      go_wp2_with fail
      refine (zint_of hn2.out).mono ?_
      rintro e w3 ⟨s', rfl, hs', hx3⟩
      have hd3 := hd3.ext hx3
      obtain ⟨k1, k2, k3, k4⟩ := hd3.two
      go_wp2_with fail
      refine bodyPost_ret (res_int rfl rfl (hd3.two_set _ _)) rfl ?_
      exact fin_int hd3 ((Zr_of hs'.out hn2.out ho2 (by rw [sg_sub HLE.out, ht.out, Bool.not_not, Int.add_comm])).ext hx3) (by omega) (by omega) (heb.trans (hx2.trans hx3))
    · have hle : nv ys ≤ nv xs := by rw [hc.out] at hlt; exact Nat.le_of_not_lt (fun h => hlt (cmp3_neg.2 h))
      have HLE := Lib.hid hle
      clear hle
      go_wp2_with fail
      refine (nat_Sub (hr.ext he1) (by omega) (hq.ext he1) (by omega) HLE.out).mono ?_
      rintro e w2 ⟨A2, n2, c2, rfl, hn2, hr2, ho2, hx2⟩
      obtain ⟨f1, f2, f3, f4⟩ := (hb1.ext hx2).two
      have hd3 := hb3.ext hx2
      go_wp2_with fail
      refine (zint_of hn2.out).mono ?_
      rintro e w3 ⟨s', rfl, hs', hx3⟩
      have hd3 := hd3.ext hx3
      obtain ⟨k1, k2, k3, k4⟩ := hd3.two
      go_wp2_with fail
      refine bodyPost_ret (res_int rfl rfl (hd3.two_set _ _)) rfl ?_
      exact fin_int hd3 ((Zr_of hs'.out hn2.out ho2 (by rw [sg_sub HLE.out, ht.out])).ext hx3) (by omega) (by omega) (he1.trans (hx2.trans hx3))
theorem zint_Sub {w : World} {s t : Bool} {A B : Option Addr} {n cap m cap' : Nat} {x y : Int} (hx : Zi w s A n cap x) (hl : n ≤ 274877906944) (hy : Zi w t B m cap' y) (hl' : m ≤ 274877906944) :
    Calls Try.prog 16 #[.agg #[.bool s, .slice A n cap], .agg #[.bool t, .slice B m cap']] w (RetZ w (x - y)) := by
  go_enter Try.func16, Try.ntmps16
  go_upto_region 1 with (fail)
  obtain ⟨g, g2, g3, wa, hg3, hg2, hg, hwa, hb1, hb2, hb3, hea, l12, l23, l3, n12, n21, n13, n31, n23, n32⟩ := boxes3 w 27 27 27 (.bool s) (.slice A n cap) (.bool t) (.slice B m cap') (.bool false) (.slice none 0 0)
  rw [hg3, hg2, hg, hwa]
  have hgw : w.heap.size ≤ g := Nat.le_of_eq hg
  clear hwa hg hg2 hg3
  obtain ⟨f1, f2, f3, f4⟩ := hb1.two
  obtain ⟨h1, h2, h3, h4⟩ := hb2.two
  obtain ⟨k1, k2, k3, k4⟩ := hb3.two
  go_wp2_with fail
  refine (zint_Add (hx.ext hea) hl (hy.not.ext hea) hl').mono ?_
  rintro e w1 ⟨s1, A1, n1, c1, rfl, z1, hx1⟩
  have hd3 := hb3.ext hx1
  clear f1 f2 f3 f4 h1 h2 h3 h4 k1 k2 k3 k4
  obtain ⟨k1, k2, k3, k4⟩ := hd3.two
  go_wp2_with fail
  refine bodyPost_ret (res_int rfl rfl (hd3.two_set _ _)) rfl ?_
  exact fin_int hd3 (z1.cast Int.sub_eq_add_neg.symm) (by omega) (by omega) (hea.trans hx1)
end Go.Proofs.Ytmaconeeonkdgaa

namespace Go.Proofs.Ytmaconeeonkdgaa
open Go.RowKit
theorem bezout_Gcd {w : World} {s t : Bool} {A B : Option Addr} {n cap m cap' : Nat} {x y : Int} (hx : Zi w s A n cap x) (hl : n ≤ 68719476736) (hy : Zi w t B m cap' y) (hl' : m ≤ 68719476736) :
    Calls Try.prog 38 #[.agg #[.bool s, .slice A n cap], .agg #[.bool t, .slice B m cap']] w (RetZ w (Int.gcd x y : Int)) := by
  obtain ⟨xs, hr, rfl⟩ := hx
  obtain ⟨ys, hq, rfl⟩ := hy
  go_enter Try.func38, Try.ntmps38
  go_upto_region 1 with (fail)
  obtain ⟨g, g2, g3, wa, hg3, hg2, hg, hwa, hb1, hb2, hb3, hea, l12, l23, l3, n12, n21, n13, n31, n23, n32⟩ := boxes3 w 27 27 27 (.bool s) (.slice A n cap) (.bool t) (.slice B m cap') (.bool false) (.slice none 0 0)
  rw [hg3, hg2, hg, hwa]
  have hgw : w.heap.size ≤ g := Nat.le_of_eq hg
  clear hwa hg hg2 hg3
  obtain ⟨f1, f2, f3, f4⟩ := hb1.two
  obtain ⟨h1, h2, h3, h4⟩ := hb2.two
  obtain ⟨k1, k2, k3, k4⟩ := hb3.two
  go_wp2_with fail
  refine (divnat_Gcd (hr.ext hea) (by omega) (hq.ext hea) (by omega)).mono ?_
  rintro e w1 ⟨A1, n1, c1, rfl, hn1, hr1, ho1, hx1⟩
  have hd3 := hb3.ext hx1
  clear f1 f2 f3 f4 h1 h2 h3 h4 k1 k2 k3 k4
  obtain ⟨k1, k2, k3, k4⟩ := hd3.two
  go_wp2_with fail
  refine bodyPost_ret (res_int rfl rfl (hd3.two_set _ _)) rfl ?_
  refine fin_int hd3 (Zr_of (s := false) (m := Nat.gcd (nv xs) (nv ys)) ?_ hn1.out ho1 ?_) (by omega) (by omega) (hea.trans hx1)
  · rw [sg_false]; simp
  · rw [sg_false, Int.gcd, sg_abs, sg_abs]
theorem zint_Of {w : World} {v : Nat} (hv : v ≤ 9223372036854775807) :
    Calls Try.prog 15 #[.int .i64 (v : Int)] w (RetZ w ((v : Int))) := by
  have hn : ¬ (v : Int) < 0 := by omega
  go_enter Try.func15, Try.ntmps15
  go_upto_region 3 with (fail)
  obtain ⟨g, hg⟩ : ∃ g, w.heap.size = g := ⟨_, rfl⟩
  obtain ⟨wa, hwa⟩ : ∃ wa, w.alloc (.cells #[.bool false, .slice none 0 0] 27) = wa := ⟨_, rfl⟩
  rw [hg, hwa]
  have hb : Bk wa g 27 [.bool false, .slice none 0 0] := by rw [← hwa, ← hg]; exact Bk.new w 27 [.bool false, .slice none 0 0]
  have hea : Ext w wa := by rw [← hwa]; exact (Ext.refl w).alloc _
  have hga : w.heap.size ≤ g := Nat.le_of_eq hg
  have hgl : g < wa.heap.size := hb.lt
  clear hwa hg
  obtain ⟨k1, k2, k3, k4⟩ := hb.two
  have h1 : Rd (wa.alloc (.cells #[.int .u64 (v : Int)] 47)) (some ⟨wa.heap.size, 0, none⟩) 1 1 [v] := Rd.one wa (by omega)
  go_wp2_with fail
  refine (nat_Least (h1.ext (by repeat (first | exact Ext.refl _ | assumption | apply Ext.drewN | apply Ext.drew | apply Ext.alloc))) (by omega)).mono ?_
  rintro e w1 ⟨A1, n1, c1, rfl, hn1, hr1, ho1, hx1⟩
  rw [nv_one] at hn1 ho1
  have hx1' : Ext wa w1 := Ext.trans (by repeat (first | exact Ext.refl _ | assumption | apply Ext.drewN | apply Ext.drew | apply Ext.alloc)) hx1
  have hd := hb.ext hx1'
  have hsz := hx1'.size
  go_wp2_with fail
  refine (zint_of hn1.out).mono ?_
  rintro e w2 ⟨s', rfl, hs', hx2⟩
  have hd := hd.ext hx2
  clear k1 k2 k3 k4
  obtain ⟨k1, k2, k3, k4⟩ := hd.two
  go_wp2_with fail
  refine bodyPost_ret (res_int rfl rfl (hd.two_set _ _)) rfl ?_
  exact fin_int hd ((Zr_of hs'.out hn1.out ho1 (sg_false _)).ext hx2) (by simp; omega) (by omega) (hea.trans (hx1'.trans hx2))
end Go.Proofs.Ytmaconeeonkdgaa

namespace Go.Proofs.Ytmaconeeonkdgaa
open Go.RowKit
set_option maxHeartbeats 4000000 in
theorem zint_Trunc {w : World} {s t : Bool} {A B : Option Addr} {n cap m cap' : Nat} {x y : Int} (hx : Zi w s A n cap x) (hl : n ≤ 68719476736) (hy : Zi w t B m cap' y) (hl' : m ≤ 68719476736) (h0 : y ≠ 0) :
    Calls Try.prog 66 #[.agg #[.bool s, .slice A n cap], .agg #[.bool t, .slice B m cap']] w (RetZZE w (x.tdiv y) (x.tmod y) 0) := by
  obtain ⟨xs, hr, rfl⟩ := hx
  obtain ⟨ys, hq, rfl⟩ := hy
  have hz : nv ys ≠ 0 := fun e => h0 (sg_eq_zero.2 e)
  have HZ := Lib.hid hz
  clear hz h0
  go_enter Try.func66, Try.ntmps66
  go_upto_region 1 with (fail)
  obtain ⟨g, g2, g3, g4, wa, hg4, hg3, hg2, hg, hwa, hb1, hb2, hb3, hb4, hea, l12, l23, l34, l4, n12, n21, n13, n31, n23, n32, n14, n41, n24, n42, n34, n43⟩ := boxes4 w 27 27 27 27 (.bool s) (.slice A n cap) (.bool t) (.slice B m cap') (.bool false) (.slice none 0 0) (.bool false) (.slice none 0 0)
  rw [hg4, hg3, hg2, hg, hwa]
  have hgw : w.heap.size ≤ g := Nat.le_of_eq hg
  clear hwa hg hg2 hg3 hg4
  obtain ⟨f1, f2, f3, f4⟩ := hb1.two
  obtain ⟨h1, h2, h3, h4⟩ := hb2.two
  go_wp2_with fail
  refine (divnat_DivMod (hr.ext hea) (by omega) (hq.ext hea) (by omega) HZ.out).mono ?_
  rintro e w1 ⟨Aq, nq, cq, Ar, nr, cr, rfl, hnq, hrq, hoq, hnr, hrr, hor, hx1⟩
  clear f1 f2 f3 f4 h1 h2 h3 h4
  have hb1 := hb1.ext hx1
  have hb2 := hb2.ext hx1
  have hb3 := hb3.ext hx1
  have hb4 := hb4.ext hx1
  have hsz := hx1.size
  have e1 := hea.trans hx1
  go_upto_region 4 with (fail)
  obtain ⟨f1, f2, f3, f4⟩ := hb1.two
  obtain ⟨h1, h2, h3, h4⟩ := hb2.two
  obtain ⟨i1, i2, i3, i4⟩ := hb3.two
  obtain ⟨k1, k2, k3, k4⟩ := hb4.two
  go_region_held3 (fun w' => w'.cell? ⟨g, 0, none⟩ = some (.bool s) ∧ w'.cell? ⟨g, 1, none⟩ = some (.slice A n cap) ∧ w'.cell? ⟨g2, 0, none⟩ = some (.bool t) ∧ w'.cell? ⟨g2, 1, none⟩ = some (.slice B m cap')) (go_keep)
    (first
    | (go_at_call 55; (with_reducible refine (zint_of hnq.out).mono ?_); rintro e w5 ⟨s5, rfl, hs5, hx5⟩; have he5 : Ext w1 w5 := Ext.trans (by repeat (first | exact Ext.refl _ | assumption | apply Ext.drewN | apply Ext.drew | apply Ext.alloc)) hx5; clear f1 f2 f3 f4 h1 h2 h3 h4 i1 i2 i3 i4 k1 k2 k3 k4; obtain ⟨f1, f2, f3, f4⟩ := (hb1.ext he5).two; obtain ⟨h1, h2, h3, h4⟩ := (hb2.ext he5).two; obtain ⟨i1, i2, i3, i4⟩ := (hb3.ext he5).two; obtain ⟨k1, k2, k3, k4⟩ := (hb4.ext he5).two)
    | (go_at_call 55; (with_reducible refine (zint_of hnr.out).mono ?_); rintro e w6 ⟨s6, rfl, hs6, hx6⟩; have he6 : Ext w1 w6 := Ext.trans (by repeat (first | exact Ext.refl _ | assumption | apply Ext.drewN | apply Ext.drew | apply Ext.alloc)) hx6; clear f1 f2 f3 f4 h1 h2 h3 h4 i1 i2 i3 i4 k1 k2 k3 k4; obtain ⟨f1, f2, f3, f4⟩ := (hb1.ext he6).two; obtain ⟨h1, h2, h3, h4⟩ := (hb2.ext he6).two; obtain ⟨i1, i2, i3, i4⟩ := (hb3.ext he6).two; obtain ⟨k1, k2, k3, k4⟩ := (hb4.ext he6).two))
  all_goals
    clear f1 f2 f3 f4 h1 h2 h3 h4 i1 i2 i3 i4 k1 k2 k3 k4
    first
    | (obtain ⟨wb, hwb⟩ : ∃ wb, (((w6.setCell ⟨g3, 0, none⟩ (.bool s5)).setCell ⟨g3, 1, none⟩ (.slice Aq nq cq)).setCell ⟨g4, 0, none⟩ (.bool s6)).setCell ⟨g4, 1, none⟩ (.slice Ar nr cr) = wb := ⟨_, rfl⟩
       rw [hwb]
       have hL := he6)
    | (obtain ⟨wb, hwb⟩ : ∃ wb, (((w5.setCell ⟨g3, 0, none⟩ (.bool s5)).setCell ⟨g3, 1, none⟩ (.slice Aq nq cq)).setCell ⟨g4, 0, none⟩ (.bool s6)).setCell ⟨g4, 1, none⟩ (.slice Ar nr cr) = wb := ⟨_, rfl⟩
       rw [hwb]
       have hL := he5)
    have q3 : Bk wb g3 27 [.bool s5, .slice Aq nq cq] := by rw [← hwb]; exact ((hb3.ext hL).two_set _ _).two_far n34 _ _
    have q4 : Bk wb g4 27 [.bool s6, .slice Ar nr cr] := by rw [← hwb]; exact ((hb4.ext hL).two_far n43 _ _).two_set _ _
    have r5 : Zr wb w.heap.size s5 Aq nq cq ((sg s (nv xs)).tdiv (sg t (nv ys))) := by
      rw [← hwb]
      exact (((((Zr_of hs5.out hnq.out hoq (sg_tdiv _ _ _ _)).ext hL).upd (by omega) (Upd.two _ _)).upd (by omega) (Upd.two _ _)).mono (by omega))
    have r6 : Zr wb w.heap.size s6 Ar nr cr ((sg s (nv xs)).tmod (sg t (nv ys))) := by
      rw [← hwb]
      exact (((((Zr_of hs6.out hnr.out hor (sg_tmod _ _ _ _)).ext hL).upd (by omega) (Upd.two _ _)).upd (by omega) (Upd.two _ _)).mono (by omega))
    have eb : Ext w wb := by rw [← hwb]; exact (Upd.two _ _).ext ((Upd.two _ _).ext (e1.trans hL) (by omega)) (by omega)
    clear hwb
    go_wp2_with fail
    refine bodyPost_ret (res_iie rfl rfl rfl rfl q3 q4) rfl ?_
    exact ⟨s5, Aq, nq, cq, s6, Ar, nr, cr, rfl, r5, r6, eb⟩
/-- quotient and rest, the rest on the divisor's side -/
structure Flo (q r x y : Int) : Prop where
  eq : q * y + r = x
  pos : 0 < y → 0 ≤ r ∧ r < y
  neg : y < 0 → y < r ∧ r ≤ 0
theorem tmod_abs {x y : Int} (h : y ≠ 0) : (x.tmod y).natAbs < y.natAbs := by
  rw [Int.natAbs_tmod]
  exact Nat.mod_lt _ (by omega)
end Go.Proofs.Ytmaconeeonkdgaa

namespace Go.Proofs.Ytmaconeeonkdgaa
open Go.RowKit
theorem Zi.sgn {w : World} {s : Bool} {A : Option Addr} {n cap : Nat} {z : Int} (h : Zi w s A n cap z) (h0 : z ≠ 0) : s = decide (z < 0) := by
  obtain ⟨xs, _, rfl⟩ := h
  have hm : nv xs ≠ 0 := fun e => h0 (sg_eq_zero.2 e)
  rw [sg_lt, decide_eq_true (show 0 < nv xs by omega), Bool.and_true]
end Go.Proofs.Ytmaconeeonkdgaa

namespace Go.Proofs.Ytmaconeeonkdgaa
open Go.RowKit
/-- quotient and rest, the rest from 0 on -/
structure Euc (q r x y : Int) : Prop where
  eq : q * y + r = x
  lo : 0 ≤ r
  hi : r < y
end Go.Proofs.Ytmaconeeonkdgaa

namespace Go.Proofs.Ytmaconeeonkdgaa.Pop
/-- the mask that repeats a byte k times -/
def mk (m : Nat) : Nat → Nat
  | 0 => 0
  | k + 1 => m + 256 * mk m k
theorem and_byte (a A m M : Nat) (ha : a < 256) (hm : m < 256) : (a + 256 * A) &&& (m + 256 * M) = (a &&& m) + 256 * (A &&& M) := by
  have h1 : ((a + 256 * A) &&& (m + 256 * M)) % 2 ^ 8 = a &&& m := by
    rw [Nat.and_mod_two_pow]
    congr 1 <;> omega
  have h2 : ((a + 256 * A) &&& (m + 256 * M)) / 2 ^ 8 = A &&& M := by
    rw [Nat.and_div_two_pow]
    congr 1 <;> omega
  have h3 := Nat.mod_add_div ((a + 256 * A) &&& (m + 256 * M)) (2 ^ 8)
  rw [h1, h2] at h3
  exact h3.symm
def f1 (k x : Nat) : Nat := (x / 2 &&& mk 85 k) + (x &&& mk 85 k)
def f2 (k x : Nat) : Nat := (x / 4 &&& mk 51 k) + (x &&& mk 51 k)
def f3 (k x : Nat) : Nat := (x / 16 + x) &&& mk 15 k
def d1 (b : Nat) : Nat := (b / 2 &&& 85) + (b &&& 85)
def d2 (b : Nat) : Nat := (b / 4 &&& 51) + (b &&& 51)
def d3 (b : Nat) : Nat := (b / 16 + b) &&& 15
def pc (b : Nat) : Nat := d3 (d2 (d1 b))
theorem t1 : ∀ b : Fin 256, ∀ p : Fin 2, ((b.val / 2 + 128 * p.val) &&& 85) = (b.val / 2 &&& 85) := by decide +kernel
theorem t2 : ∀ b : Fin 256, ∀ p : Fin 4, ((b.val / 4 + 64 * p.val) &&& 51) = (b.val / 4 &&& 51) := by decide +kernel
theorem t3 : ∀ b : Fin 256, ∀ p : Fin 5, ((d2 (d1 b.val) / 16 + d2 (d1 b.val) + 16 * p.val) &&& 15) = pc b.val := by decide +kernel
theorem t4 : ∀ b : Fin 256, d1 b.val < 256 ∧ d2 (d1 b.val) < 69 ∧ d2 (d1 b.val) % 16 ≤ 4 ∧ pc b.val ≤ 8 ∧ (pc b.val = 0 → b.val = 0) ∧ (128 ≤ b.val → pc b.val ≤ 1 → b.val = 128) := by decide +kernel
theorem f1_step {k b B : Nat} (hb : b < 256) : f1 (k + 1) (b + 256 * B) = d1 b + 256 * f1 k B := by
  unfold f1 d1
  rw [show mk 85 (k + 1) = 85 + 256 * mk 85 k from rfl]
  have e : (b + 256 * B) / 2 = (b / 2 + 128 * (B % 2)) + 256 * (B / 2) := by omega
  rw [e, and_byte _ _ _ _ (by omega) (by omega), and_byte _ _ _ _ hb (by omega), t1 ⟨b, hb⟩ ⟨B % 2, by omega⟩]
  show (b / 2 &&& 85) + _ + _ = _
  omega
theorem f2_step {k b B : Nat} (hb : b < 256) : f2 (k + 1) (b + 256 * B) = d2 b + 256 * f2 k B := by
  unfold f2 d2
  rw [show mk 51 (k + 1) = 51 + 256 * mk 51 k from rfl]
  have e : (b + 256 * B) / 4 = (b / 4 + 64 * (B % 4)) + 256 * (B / 4) := by omega
  rw [e, and_byte _ _ _ _ (by omega) (by omega), and_byte _ _ _ _ hb (by omega), t2 ⟨b, hb⟩ ⟨B % 4, by omega⟩]
  show (b / 4 &&& 51) + _ + _ = _
  omega
/-- all three steps, byte by byte: the higher part's lowest half byte is at most 4 -/
theorem steps {k b B : Nat} (hb : b < 256) (hB : f2 k (f1 k B) % 16 ≤ 4) :
    f3 (k + 1) (f2 (k + 1) (f1 (k + 1) (b + 256 * B))) = pc b + 256 * f3 k (f2 k (f1 k B)) ∧ f2 (k + 1) (f1 (k + 1) (b + 256 * B)) % 16 ≤ 4 := by
  obtain ⟨h1, h2, h3, _⟩ := t4 ⟨b, hb⟩
  rw [f1_step hb, f2_step h1]
  refine ⟨?_, by omega⟩
  generalize f2 k (f1 k B) = C at *
  unfold f3
  rw [show mk 15 (k + 1) = 15 + 256 * mk 15 k from rfl]
  have e : (d2 (d1 b) + 256 * C) / 16 + (d2 (d1 b) + 256 * C) = (d2 (d1 b) / 16 + d2 (d1 b) + 16 * (C % 16)) + 256 * (C / 16 + C) := by omega
  have h2' : d2 (d1 b) < 69 := h2
  rw [e, and_byte _ _ _ _ (by omega) (by omega), t3 ⟨b, hb⟩ ⟨C % 16, by omega⟩]
theorem eight {b0 b1 b2 b3 b4 b5 b6 b7 : Nat} (h0 : b0 < 256) (h1 : b1 < 256) (h2 : b2 < 256) (h3 : b3 < 256) (h4 : b4 < 256) (h5 : b5 < 256) (h6 : b6 < 256) (h7 : b7 < 256) :
    f3 8 (f2 8 (f1 8 (b0 + 256 * (b1 + 256 * (b2 + 256 * (b3 + 256 * (b4 + 256 * (b5 + 256 * (b6 + 256 * (b7 + 256 * 0))))))))))
      = pc b0 + 256 * (pc b1 + 256 * (pc b2 + 256 * (pc b3 + 256 * (pc b4 + 256 * (pc b5 + 256 * (pc b6 + 256 * pc b7)))))) := by
  have s7 := steps (k := 0) (B := 0) h7 (by decide)
  have s6 := steps h6 s7.2
  have s5 := steps h5 s6.2
  have s4 := steps h4 s5.2
  have s3 := steps h3 s4.2
  have s2 := steps h2 s3.2
  have s1 := steps h1 s2.2
  have s0 := steps h0 s1.2
  rw [s0.1, s1.1, s2.1, s3.1, s4.1, s5.1, s6.1, s7.1]
  simp [f3, mk]
theorem folds {p0 p1 p2 p3 p4 p5 p6 p7 : Nat} (h0 : p0 ≤ 8) (h1 : p1 ≤ 8) (h2 : p2 ≤ 8) (h3 : p3 ≤ 8) (h4 : p4 ≤ 8) (h5 : p5 ≤ 8) (h6 : p6 ≤ 8) (h7 : p7 ≤ 8) {x3 x4 x5 x6 : Nat}
    (e3 : x3 = p0 + 256 * (p1 + 256 * (p2 + 256 * (p3 + 256 * (p4 + 256 * (p5 + 256 * (p6 + 256 * p7))))))) (e4 : x4 = x3 + x3 / 256) (e5 : x5 = x4 + x4 / 65536) (e6 : x6 = x5 + x5 / 4294967296) :
    x6 % 128 = p0 + p1 + p2 + p3 + p4 + p5 + p6 + p7 ∧ x6 < 18446744073709551616 := by
  have g4 : x4 = (p0 + p1) + 256 * ((p1 + p2) + 256 * ((p2 + p3) + 256 * ((p3 + p4) + 256 * ((p4 + p5) + 256 * ((p5 + p6) + 256 * ((p6 + p7) + 256 * p7)))))) := by omega
  clear e3 e4
  have g5 : x5 = (p0 + p1 + p2 + p3) + 256 * ((p1 + p2 + p3 + p4) + 256 * ((p2 + p3 + p4 + p5) + 256 * ((p3 + p4 + p5 + p6) + 256 * ((p4 + p5 + p6 + p7) + 256 * ((p5 + p6 + p7) + 256 * ((p6 + p7) + 256 * p7)))))) := by omega
  clear g4 e5
  have gq : x5 / 4294967296 = (p4 + p5 + p6 + p7) + 256 * ((p5 + p6 + p7) + 256 * ((p6 + p7) + 256 * p7)) := by omega
  rw [gq] at e6
  have g6 : x6 = (p0 + p1 + p2 + p3 + p4 + p5 + p6 + p7) + 256 * (((p1 + p2 + p3 + p4) + 256 * ((p2 + p3 + p4 + p5) + 256 * ((p3 + p4 + p5 + p6) + 256 * ((p4 + p5 + p6 + p7) + 256 * ((p5 + p6 + p7) + 256 * ((p6 + p7) + 256 * p7)))))) + ((p5 + p6 + p7) + 256 * ((p6 + p7) + 256 * p7))) := by omega
  clear gq e6 g5
  omega
/-- a word whose highest bit stands has the count 1 just where it is 2^63 -/
theorem one {x x1 x2 x3 x4 x5 x6 : Nat} (hx : x < 18446744073709551616) (hh : 9223372036854775808 ≤ x) (e1 : x1 = f1 8 x) (e2 : x2 = f2 8 x1) (e3 : x3 = f3 8 x2) (e4 : x4 = x3 + x3 / 256) (e5 : x5 = x4 + x4 / 65536) (e6 : x6 = x5 + x5 / 4294967296) :
    x6 % 128 = 1 ↔ x = 9223372036854775808 := by
  obtain ⟨b0, q0, hb0, hq0⟩ : ∃ b q, b < 256 ∧ x = b + 256 * q := ⟨x % 256, x / 256, by omega, by omega⟩
  obtain ⟨b1, q1, hb1, hq1⟩ : ∃ b q, b < 256 ∧ q0 = b + 256 * q := ⟨q0 % 256, q0 / 256, by omega, by omega⟩
  obtain ⟨b2, q2, hb2, hq2⟩ : ∃ b q, b < 256 ∧ q1 = b + 256 * q := ⟨q1 % 256, q1 / 256, by omega, by omega⟩
  obtain ⟨b3, q3, hb3, hq3⟩ : ∃ b q, b < 256 ∧ q2 = b + 256 * q := ⟨q2 % 256, q2 / 256, by omega, by omega⟩
  obtain ⟨b4, q4, hb4, hq4⟩ : ∃ b q, b < 256 ∧ q3 = b + 256 * q := ⟨q3 % 256, q3 / 256, by omega, by omega⟩
  obtain ⟨b5, q5, hb5, hq5⟩ : ∃ b q, b < 256 ∧ q4 = b + 256 * q := ⟨q4 % 256, q4 / 256, by omega, by omega⟩
  obtain ⟨b6, b7, hb6, hq6⟩ : ∃ b q, b < 256 ∧ q5 = b + 256 * q := ⟨q5 % 256, q5 / 256, by omega, by omega⟩
  have hb7 : b7 < 256 := by omega
  have hb7' : 128 ≤ b7 := by omega
  have e := eight hb0 hb1 hb2 hb3 hb4 hb5 hb6 hb7
  have ex : x = b0 + 256 * (b1 + 256 * (b2 + 256 * (b3 + 256 * (b4 + 256 * (b5 + 256 * (b6 + 256 * (b7 + 256 * 0))))))) := by omega
  rw [← ex, ← e1, ← e2, ← e3] at e
  have p0 := (t4 ⟨b0, hb0⟩).2.2.2
  have p1 := (t4 ⟨b1, hb1⟩).2.2.2
  have p2 := (t4 ⟨b2, hb2⟩).2.2.2
  have p3 := (t4 ⟨b3, hb3⟩).2.2.2
  have p4 := (t4 ⟨b4, hb4⟩).2.2.2
  have p5 := (t4 ⟨b5, hb5⟩).2.2.2
  have p6 := (t4 ⟨b6, hb6⟩).2.2.2
  have p7 := (t4 ⟨b7, hb7⟩).2.2.2
  have hf := (folds p0.1 p1.1 p2.1 p3.1 p4.1 p5.1 p6.1 p7.1 e e4 e5 e6).1
  simp only at p0 p1 p2 p3 p4 p5 p6 p7
  rw [hf]
  show (pc b0 + pc b1 + pc b2 + pc b3 + pc b4 + pc b5 + pc b6 + pc b7 = 1) ↔ _
  constructor
  · intro h
    have h7 : pc b7 ≠ 0 := fun hz => by have := p7.2.1 hz; omega
    have hs : pc b0 + pc b1 + pc b2 + pc b3 + pc b4 + pc b5 + pc b6 = 0 ∧ pc b7 = 1 := by clear p0 p1 p2 p3 p4 p5 p6 p7 e e1 e2 e3 e4 e5 e6 ex hq0 hq1 hq2 hq3 hq4 hq5 hq6 hf; omega
    obtain ⟨hs, h8⟩ := hs
    have z0 := p0.2.1 (by omega)
    have z1 := p1.2.1 (by omega)
    have z2 := p2.2.1 (by omega)
    have z3 := p3.2.1 (by omega)
    have z4 := p4.2.1 (by omega)
    have z5 := p5.2.1 (by omega)
    have z6 := p6.2.1 (by omega)
    have z7 := p7.2.2 hb7' (by omega)
    omega
  · intro h
    obtain rfl : b7 = 128 := by omega
    obtain rfl : b0 = 0 := by omega
    obtain rfl : b1 = 0 := by omega
    obtain rfl : b2 = 0 := by omega
    obtain rfl : b3 = 0 := by omega
    obtain rfl : b4 = 0 := by omega
    obtain rfl : b5 = 0 := by omega
    obtain rfl : b6 = 0 := by omega
    decide
end Go.Proofs.Ytmaconeeonkdgaa.Pop

namespace Go.Proofs.Ytmaconeeonkdgaa
open Go.RowKit
theorem zint_Of_neg {w : World} {v : Nat} (hv1 : 1 ≤ v) (hv : v ≤ 9223372036854775808) :
    Calls Try.prog 15 #[.int .i64 (-(v : Int))] w (RetZ w (-(v : Int))) := by
  have hn : -(v : Int) < 0 := by omega
  have w1e : IntKind.u64.wrap (-(v : Int)) = 18446744073709551616 - (v : Int) := by
    simp only [IntKind.wrap, IntKind.bits, IntKind.signed]
    simp
    omega
  have w2e : IntKind.u64.wrap (-(18446744073709551616 - (v : Int))) = (v : Int) := by
    simp only [IntKind.wrap, IntKind.bits, IntKind.signed]
    simp
    omega
  have W1 := Lib.hid w1e
  have W2 := Lib.hid w2e
  clear w1e w2e
  go_enter Try.func15, Try.ntmps15
  go_upto_region 2 with (fail)
  obtain ⟨g, hg⟩ : ∃ g, w.heap.size = g := ⟨_, rfl⟩
  obtain ⟨wa, hwa⟩ : ∃ wa, w.alloc (.cells #[.bool false, .slice none 0 0] 27) = wa := ⟨_, rfl⟩
  rw [hg, hwa]
  have hb : Bk wa g 27 [.bool false, .slice none 0 0] := by rw [← hwa, ← hg]; exact Bk.new w 27 [.bool false, .slice none 0 0]
  have hea : Ext w wa := by rw [← hwa]; exact (Ext.refl w).alloc _
  have hga : w.heap.size ≤ g := Nat.le_of_eq hg
  have hgl : g < wa.heap.size := hb.lt
  clear hwa hg
  obtain ⟨k1, k2, k3, k4⟩ := hb.two
  have h1 : Rd (wa.alloc (.cells #[.int .u64 (v : Int)] 47)) (some ⟨wa.heap.size, 0, none⟩) 1 1 [v] := Rd.one wa (by omega)
  have w1e := W1.out
  have w2e := W2.out
  go_wp2_with fail
  clear w1e w2e
  refine (nat_Least (h1.ext (by repeat (first | exact Ext.refl _ | assumption | apply Ext.drewN | apply Ext.drew | apply Ext.alloc))) (by omega)).mono ?_
  rintro e w1 ⟨A1, n1, c1, rfl, hn1, hr1, ho1, hx1⟩
  rw [nv_one] at hn1 ho1
  have hx1' : Ext wa w1 := Ext.trans (by repeat (first | exact Ext.refl _ | assumption | apply Ext.drewN | apply Ext.drew | apply Ext.alloc)) hx1
  have hd := hb.ext hx1'
  have hsz := hx1'.size
  go_wp2_with fail
  refine (zint_of hn1.out).mono ?_
  rintro e w2 ⟨s', rfl, hs', hx2⟩
  have hd := hd.ext hx2
  clear k1 k2 k3 k4
  obtain ⟨k1, k2, k3, k4⟩ := hd.two
  go_wp2_with fail
  refine bodyPost_ret (res_int rfl rfl (hd.two_set _ _)) rfl ?_
  exact fin_int hd ((Zr_of hs'.out hn1.out ho1 (sg_true _)).ext hx2) (by simp; omega) (by omega) (hea.trans (hx1'.trans hx2))
theorem zint_OfI {w : World} {v : Int} (h1 : -9223372036854775808 ≤ v) (h2 : v ≤ 9223372036854775807) : Calls Try.prog 15 #[.int .i64 v] w (RetZ w v) := by
  by_cases h : 0 ≤ v
  · obtain ⟨m, rfl⟩ := Int.eq_ofNat_of_zero_le h
    exact zint_Of (by omega)
  · obtain ⟨m, hm⟩ : ∃ m : Nat, v = -(m : Int) := ⟨v.natAbs, by omega⟩
    subst hm
    exact zint_Of_neg (by omega) (by omega)
end Go.Proofs.Ytmaconeeonkdgaa

namespace Go.Proofs.Ytmaconeeonkdgaa
open Go.RowKit
/-- r is X's root to the power k, rounded down -/
def IsRoot (X k r : Nat) : Prop := r ^ k ≤ X ∧ X < (r + 1) ^ k
theorem IsRoot.le {X k r s : Nat} (h : IsRoot X k r) (hs : X < (s + 1) ^ k) : r ≤ s := by
  refine Nat.le_of_not_lt (fun hlt => ?_)
  have h1 := Nat.pow_le_pow_left (Nat.succ_le_of_lt hlt) k
  have := h.1
  rw [Nat.succ_eq_add_one] at h1
  omega
theorem IsRoot.zero {k : Nat} (hk : 1 ≤ k) : IsRoot 0 k 0 := ⟨by rw [Nat.zero_pow (by omega)]; exact Nat.le_refl _, by rw [Nat.zero_add, Nat.one_pow]; omega⟩
theorem IsRoot.one {X : Nat} : IsRoot X 1 X := ⟨by rw [Nat.pow_one]; exact Nat.le_refl _, by rw [Nat.pow_one]; omega⟩
end Go.Proofs.Ytmaconeeonkdgaa

namespace Go.Proofs.Ytmaconeeonkdgaa
open Go.RowKit
theorem aggInt : AggT Try.prog 27 2 := ⟨fun _ => by kernel_rfl, fun _ => by kernel_rfl⟩
theorem aggTwo : AggT Try.prog 77 4 := ⟨fun _ => by kernel_rfl, fun _ => by kernel_rfl⟩
theorem cellBool : ∀ w, (isAgg 4).run Try.prog w = .ok false w := fun _ => by kernel_rfl
theorem cellWords : ∀ w, (isAgg 25).run Try.prog w = .ok false w := fun _ => by kernel_rfl
theorem mix : Try.prog.follows .mixedOrders = true := by kernel_rfl
/-- the value is u -/
def Is (u v : Value) (_ : World) : Prop := v = u
/-- the value is an integer of the call's own -/
def ZR (b : Nat) (z : Int) (v : Value) (w : World) : Prop := ∃ s A n c, v = .agg #[.bool s, .slice A n c] ∧ Zr w b s A n c z
/-- the value is a slice of words of the call's own: the least form of m -/
def WR (b : Nat) (m : Nat) (v : Value) (w : World) : Prop := ∃ A n c, v = .slice A n c ∧ n = (wd m).length ∧ Own w b 47 1 A n c ((wd m).map W64)
/-- the slice reads as the number m -/
def Wi (w : World) (A : Option Addr) (n c : Nat) (m : Nat) : Prop := ∃ xs, Rd w A n c xs ∧ nv xs = m
theorem Wi.ext {w w' : World} {A : Option Addr} {n c m : Nat} (h : Wi w A n c m) (e : Ext w w') : Wi w' A n c m := by
  obtain ⟨xs, h1, h2⟩ := h
  exact ⟨xs, h1.ext e, h2⟩
theorem Zi.wi {w : World} {s : Bool} {A : Option Addr} {n c : Nat} {z : Int} (h : Zi w s A n c z) : Wi w A n c z.natAbs := by
  obtain ⟨xs, h1, h2⟩ := h
  exact ⟨xs, h1, by rw [← h2, sg_abs]⟩
theorem Own.wi {w : World} {b : Nat} {t : TypeId} {A : Option Addr} {n c m : Nat} (h : Own w b t 1 A n c ((wd m).map W64)) : Wi w A n c m := ⟨_, h.rd (Wf_wd _), nv_wd m⟩
theorem Wi.zi {w : World} {A : Option Addr} {n c m : Nat} (h : Wi w A n c m) (s : Bool) : Zi w s A n c (sg s m) := by
  obtain ⟨xs, h1, h2⟩ := h
  exact ⟨xs, h1, by rw [h2]⟩
theorem Wi.len {w : World} {A : Option Addr} {n c m : Nat} (h : Wi w A n c m) : (wd m).length ≤ n := by
  obtain ⟨xs, h1, rfl⟩ := h
  have := len_wd_nv h1.wf
  rw [h1.len] at this; exact this
/-- a new variable -/
def PR (b : Nat) (T : TypeId) (vs : List Value) (v : Value) (w : World) : Prop := ∃ g, v = .pointer (some ⟨g, 0, none⟩) ∧ b ≤ g ∧ Bk w g T vs
theorem Zr_nat {w : World} {b m n c : Nat} {A : Option Addr} (hn : n = (wd m).length) (ho : Own w b 47 1 A n c ((wd m).map W64)) : Zr w b false A n c (m : Int) :=
  Zr_of (m := m) (s := false) (by rw [sg_false]; symm; exact decide_eq_false (by omega)) hn ho (sg_false m)
/-- two values, three -/
def T2 (R S : Value → World → Prop) (v : Value) (w : World) : Prop := ∃ a b, v = .tuple #[a, b] ∧ R a w ∧ S b w
def T3 (R S T : Value → World → Prop) (v : Value) (w : World) : Prop := ∃ a b c, v = .tuple #[a, b, c] ∧ R a w ∧ S b w ∧ T c w
/-- a call answers -/
def Gv (w : World) (R : Value → World → Prop) (e : Ending) (w' : World) : Prop := ∃ v, e = .returned v ∧ R v w' ∧ Ext w w'
section
variable {w w' : World} {b : Nat} {z x y : Int} {v u : Value} {R S T : Value → World → Prop}
theorem ZR.ext (h : ZR b z v w) (e : Ext w w') : ZR b z v w' := by
  obtain ⟨s, A, n, c, rfl, h⟩ := h
  exact ⟨s, A, n, c, rfl, h.ext e⟩
theorem ZR.cast (h : ZR b z v w) (e : z = x) : ZR b x v w := e ▸ h
theorem Is.ext (h : Is u v w) (_ : Ext w w') : Is u v w' := h
theorem gz (hb : b ≤ w.heap.size) (e : Ending) (w' : World) (h : RetZ w z e w') : Gv w (ZR b z) e w' := by
  obtain ⟨s, A, n, c, rfl, h1, h2⟩ := h
  exact ⟨_, rfl, ⟨s, A, n, c, rfl, h1.mono hb⟩, h2⟩
theorem gzze {er : Int} (hb : b ≤ w.heap.size) (e : Ending) (w' : World) (h : RetZZE w x y er e w') : Gv w (T3 (ZR b x) (ZR b y) (Is (.int .i64 er))) e w' := by
  obtain ⟨s, A, n, c, s', B, m, c', rfl, h1, h1', h2⟩ := h
  exact ⟨_, rfl, ⟨_, _, _, rfl, ⟨s, A, n, c, rfl, h1.mono hb⟩, ⟨s', B, m, c', rfl, h1'.mono hb⟩, rfl⟩, h2⟩
theorem WR.ext {m : Nat} (h : WR b m v w) (e : Ext w w') : WR b m v w' := by
  obtain ⟨A, n, c, rfl, h1, h2⟩ := h
  exact ⟨A, n, c, rfl, h1, h2.ext e⟩
theorem gw {m : Nat} (hb : b ≤ w.heap.size) (e : Ending) (w' : World) (h : RetW w m e w') : Gv w (WR b m) e w' := by
  obtain ⟨A, n, c, rfl, h1, h2, h3, h4⟩ := h
  exact ⟨_, rfl, ⟨A, n, c, rfl, h1.out, h3.mono hb⟩, h4⟩
theorem gwe {m : Nat} {er : Int} (hb : b ≤ w.heap.size) (e : Ending) (w' : World) (h : RetWE w m er e w') : Gv w (T2 (WR b m) (Is (.int .i64 er))) e w' := by
  obtain ⟨A, n, c, rfl, h1, h2, h3, h4⟩ := h
  exact ⟨_, rfl, ⟨_, _, rfl, ⟨A, n, c, rfl, h1.out, h3.mono hb⟩, rfl⟩, h4⟩
theorem Gv.imp (hi : ∀ v w, R v w → S v w) (e : Ending) (w' : World) (h : Gv w R e w') : Gv w S e w' := by
  obtain ⟨v, rfl, h1, h2⟩ := h
  exact ⟨v, rfl, hi _ _ h1, h2⟩
theorem ZR.imp {b' : Nat} (hb : b ≤ b') (v : Value) (w : World) (h : ZR b' z v w) : ZR b z v w := by
  obtain ⟨s, A, n, c, rfl, h⟩ := h
  exact ⟨s, A, n, c, rfl, h.mono hb⟩
theorem WR.imp {b' m : Nat} (hb : b ≤ b') (v : Value) (w : World) (h : WR b' m v w) : WR b m v w := by
  obtain ⟨A, n, c, rfl, h1, h2⟩ := h
  exact ⟨A, n, c, rfl, h1, h2.mono hb⟩
theorem T2.imp {R' S' : Value → World → Prop} (h1 : ∀ v w, R v w → R' v w) (h2 : ∀ v w, S v w → S' v w) (v : Value) (w : World) (h : T2 R S v w) : T2 R' S' v w := by
  obtain ⟨a, c, rfl, h3, h4⟩ := h
  exact ⟨a, c, rfl, h1 _ _ h3, h2 _ _ h4⟩
theorem T3.imp {R' S' T' : Value → World → Prop} (h1 : ∀ v w, R v w → R' v w) (h2 : ∀ v w, S v w → S' v w) (h0 : ∀ v w, T v w → T' v w) (v : Value) (w : World) (h : T3 R S T v w) : T3 R' S' T' v w := by
  obtain ⟨a, c, d, rfl, h3, h4, h5⟩ := h
  exact ⟨a, c, d, rfl, h1 _ _ h3, h2 _ _ h4, h0 _ _ h5⟩
theorem Is.imp {u : Value} (v : Value) (w : World) (h : Is u v w) : Is u v w := h
theorem gis {u : Value} (e : Ending) (w' : World) (h : e = .returned u ∧ Ext w w') : Gv w (Is u) e w' := ⟨_, h.1, rfl, h.2⟩
theorem gsgn (e : Ending) (w' : World) (h : SgnP z w e w') : Gv w (Is (.int .i64 z)) e w' := by
  obtain ⟨c, h1, _, _, rfl, h2⟩ := h
  exact ⟨_, rfl, (show Value.int .i64 c = _ by rw [h1.out]), h2⟩
theorem gbool {c : Bool} (e : Ending) (w' : World) (h : BoolP c w e w') : Gv w (Is (.bool c)) e w' := ⟨_, h.1, rfl, h.2⟩
end
section
variable {w : World} {b : Nat} (hb : b ≤ w.heap.size) {s t u : Bool} {A B C : Option Addr} {n cap m cap' k cap'' : Nat} {x y z : Int}
include hb
theorem g_zint_Add (hx : Zi w s A n cap x) (hl : n ≤ 274877906944) (hy : Zi w t B m cap' y) (hl' : m ≤ 274877906944) :
    Calls Try.prog 24 #[.agg #[.bool s, .slice A n cap], .agg #[.bool t, .slice B m cap']] w (Gv w (ZR b (x + y))) := (zint_Add hx hl hy hl').mono (gz hb)
theorem g_zint_Sub (hx : Zi w s A n cap x) (hl : n ≤ 274877906944) (hy : Zi w t B m cap' y) (hl' : m ≤ 274877906944) :
    Calls Try.prog 16 #[.agg #[.bool s, .slice A n cap], .agg #[.bool t, .slice B m cap']] w (Gv w (ZR b (x - y))) := (zint_Sub hx hl hy hl').mono (gz hb)
theorem g_zint_Mul (hx : Zi w s A n cap x) (hl : n ≤ 68719476736) (hy : Zi w t B m cap' y) (hl' : m ≤ 68719476736) :
    Calls Try.prog 17 #[.agg #[.bool s, .slice A n cap], .agg #[.bool t, .slice B m cap']] w (Gv w (ZR b (x * y))) := (zint_Mul hx hl hy hl').mono (gz hb)
theorem g_zint_Neg (hx : Zi w s A n cap x) (hl : n ≤ 68719476736) : Calls Try.prog 61 #[.agg #[.bool s, .slice A n cap]] w (Gv w (ZR b (-x))) := (zint_Neg hx hl).mono (gz hb)
theorem g_zint_Abs (hx : Zi w s A n cap x) (hl : n ≤ 68719476736) : Calls Try.prog 68 #[.agg #[.bool s, .slice A n cap]] w (Gv w (ZR b (x.natAbs : Int))) := (zint_Abs hx hl).mono (gz hb)
theorem g_zint_Of {v : Int} (h1 : -9223372036854775808 ≤ v) (h2 : v ≤ 9223372036854775807) : Calls Try.prog 15 #[.int .i64 v] w (Gv w (ZR b v)) := (zint_OfI h1 h2).mono (gz hb)
theorem g_zint_Trunc (hx : Zi w s A n cap x) (hl : n ≤ 68719476736) (hy : Zi w t B m cap' y) (hl' : m ≤ 68719476736) (h0 : y ≠ 0) :
    Calls Try.prog 66 #[.agg #[.bool s, .slice A n cap], .agg #[.bool t, .slice B m cap']] w (Gv w (T3 (ZR b (x.tdiv y)) (ZR b (x.tmod y)) (Is (.int .i64 0)))) := (zint_Trunc hx hl hy hl' h0).mono (gzze hb)
omit hb in
theorem g_zint_of {m : Nat} (hn : n = (wd m).length) (ho : Own w b 47 1 A n cap ((wd m).map W64)) : Calls Try.prog 55 #[.bool s, .slice A n cap] w (Gv w (ZR b (sg s m))) :=
  (zint_of hn).mono fun e w' h => by
    obtain ⟨s', rfl, h1, h2⟩ := h
    exact ⟨_, rfl, ⟨s', A, n, cap, rfl, Zr_of h1.out hn (ho.ext h2) rfl⟩, h2⟩
omit hb in
theorem g_divnat_Exact_not {i j : Nat} (hx : Wi w A n cap i) (hl : n ≤ 274877906944) (hy : Wi w B m cap' j) (hl' : m ≤ 274877906944) (h0 : j ≠ 0) (h1 : i % j ≠ 0) :
    Calls Try.prog 82 #[.slice A n cap, .slice B m cap'] w (Gv w (Is (.tuple #[.slice none 0 0, .int .i64 8]))) := by
  obtain ⟨ys, hy, rfl⟩ := hy
  obtain ⟨xs, hx, rfl⟩ := hx
  exact (divnat_Exact_not hx hl hy hl' h0 h1).mono gis
theorem g_divnat_Exact {i j : Nat} (hx : Wi w A n cap i) (hl : n ≤ 274877906944) (hy : Wi w B m cap' j) (hl' : m ≤ 274877906944) (h0 : j ≠ 0) (h1 : i % j = 0) :
    Calls Try.prog 82 #[.slice A n cap, .slice B m cap'] w (Gv w (T2 (WR b (i / j)) (Is (.int .i64 0)))) := by
  obtain ⟨ys, hy, rfl⟩ := hy
  obtain ⟨xs, hx, rfl⟩ := hx
  exact (divnat_Exact hx hl hy hl' h0 h1).mono (gwe hb)
theorem g_bezout_Gcd (hx : Zi w s A n cap x) (hl : n ≤ 68719476736) (hy : Zi w t B m cap' y) (hl' : m ≤ 68719476736) :
    Calls Try.prog 38 #[.agg #[.bool s, .slice A n cap], .agg #[.bool t, .slice B m cap']] w (Gv w (ZR b (Int.gcd x y : Int))) := (bezout_Gcd hx hl hy hl').mono (gz hb)
end
section
variable {w : World} {s t : Bool} {A B : Option Addr} {n cap m cap' : Nat} {x y : Int}
theorem g_zint_Sign (hx : Zi w s A n cap x) (hl : n ≤ 68719476736) : Calls Try.prog 53 #[.agg #[.bool s, .slice A n cap]] w (Gv w (Is (.int .i64 (scmp x 0)))) := (zint_Sign hx hl).mono gsgn
end
end Go.Proofs.Ytmaconeeonkdgaa

namespace Go.Proofs.Ytmaconeeonkdgaa
open Go.RowKit
theorem sz_int (w : World) : (sizeOf 3).run Try.prog w = .ok 1 w := by kernel_rfl
theorem ag_int (w : World) : (isAgg 3).run Try.prog w = .ok false w := by kernel_rfl
theorem un_int : Try.prog.underlying 85 = some (.slice 3) := Try.underlying85
theorem Ri.at {b : Nat} (hb : 0 < b) {w : World} {A : Option Addr} {n c : Nat} {xs : List Nat} (h : Ri b w A n c xs) {i : Nat} (hi : i < n) :
    ∃ p, A.map (·.add (i * 1)) = some p ∧ w.cell? p = some (.int .i64 ((xs.getD i 0 : Nat) : Int)) ∧ xs.getD i 0 < b := by
  obtain ⟨a, x, rfl, hk, hlt, hc⟩ := h.get hb hi
  refine ⟨a.add i, by rw [Nat.mul_one]; rfl, ?_, by rw [hk.out]; exact hlt⟩
  rw [hk.out]; exact hc
theorem Ri.updL {b : Nat} {w w' : World} {A : Option Addr} {n c : Nat} {xs : List Nat} {g : Nat} (h : Ri b w A n c xs) (e : Upd g w w') (hne : 0 < c → ∀ a, A = some a → a.block ≠ g) : Ri b w' A n c xs :=
  ⟨⟨h.rv.len, h.rv.le, h.rv.max, fun i hi => by
    obtain ⟨a, ha, hc⟩ := h.rv.get i hi
    exact ⟨a, ha, e.cell hc (by rw [block_of_add]; exact hne (by have := h.rv.le; omega) a ha)⟩, fun a ha hc => Nat.lt_of_lt_of_le (h.rv.blk a ha hc) e.size⟩, h.wf⟩
/-- digits to the base 65536, as they are handed on -/
def SD (m : Nat) (v : Value) (w : World) : Prop := ∃ A k c, v = .slice A k c ∧ Ri 65536 w A k c (db 65536 m)
theorem gcmp {x y : Nat} {w : World} (e : Ending) (w' : World) (h : CmpP x y w e w') : Gv w (Is (.int .i64 (cmp3 x y))) e w' := by
  obtain ⟨c, h1, _, _, rfl, h2⟩ := h
  exact ⟨_, rfl, (show Value.int .i64 c = _ by rw [h1.out]), h2⟩
theorem len_db16w {w : World} {A : Option Addr} {n c : Nat} {xs : List Nat} (h : Rd w A n c xs) : (db 65536 (nv xs)).length ≤ 4 * n := by
  have := len_db16_nv h.wf
  rwa [h.len] at this
theorem g_ref1_Split {w : World} {A : Option Addr} {n c : Nat} {xs : List Nat} (hx : Rd w A n c xs) (hl : n ≤ 274877906943) : Calls Try.prog 95 #[.slice A n c] w (Gv w (SD (nv xs))) :=
  (ref1_Split hx hl).mono fun e w' h => by
    obtain ⟨A, n, c, rfl, _, h2, _, h4⟩ := h
    exact ⟨_, rfl, ⟨A, n, c, rfl, h2⟩, h4⟩
theorem g_ref1_Join {w : World} {b : Nat} (hb : b ≤ w.heap.size) {A : Option Addr} {n c : Nat} {ds : List Nat} (hx : Ri 65536 w A n c ds) (hl : n ≤ 1099511627775) : Calls Try.prog 97 #[.slice A n c] w (Gv w (WR b (nb 65536 ds))) := (ref1_Join hx hl).mono (gw hb)
theorem g_ref1_order {w : World} {A B : Option Addr} {n c m d x y : Nat} (hx : Ri 65536 w A n c (db 65536 x)) (hl : n ≤ 1099511627776) (hy : Ri 65536 w B m d (db 65536 y)) (hl' : m ≤ 1099511627776) :
    Calls Try.prog 98 #[.slice A n c, .slice B m d] w (Gv w (Is (.int .i64 (cmp3 x y)))) := (ref1_order hx hl hy hl').mono gcmp
theorem g_ref1_at {w : World} {A : Option Addr} {n c i : Nat} {ds : List Nat} (hx : Ri 65536 w A n c ds) (hl : n ≤ 1099511627776) (hi : i ≤ 4398046511104) : Calls Try.prog 96 #[.slice A n c, .int .i64 (i : Int)] w (Gv w (Is (.int .i64 ((ds.getD i 0 : Nat) : Int)))) :=
  (ref1_at hx hl (i := (i : Int)) (by omega) (by omega)).mono fun e w' h => by
    obtain ⟨x, h1, _, rfl, rfl⟩ := h
    have h2 := h1.out
    rw [Int.toNat_natCast] at h2
    exact ⟨_, rfl, (show Value.int .i64 (x : Int) = _ by rw [h2]), Ext.refl _⟩
theorem subd_step {ds es l : List Nat} {i d t t' : Nat} (hl : i < l.length) (hd : i < ds.length) (h : nb 65536 (l.take i) + nb 65536 (es.take i) = nb 65536 (ds.take i) + 65536 ^ i * t) (hs : d + es.getD i 0 + t = ds.getD i 0 + 65536 * t') :
    nb 65536 ((l.set i d).take (i + 1)) + nb 65536 (es.take (i + 1)) = nb 65536 (ds.take (i + 1)) + 65536 ^ (i + 1) * t' := by
  have he : nb 65536 (es.take (i + 1)) = nb 65536 (es.take i) + 65536 ^ i * es.getD i 0 := by
    by_cases h : i < es.length
    · exact nb_take_snoc _ _ _ h
    · rw [List.take_of_length_le (by omega), List.take_of_length_le (by omega), List.getD_eq_getElem?_getD, List.getElem?_eq_none (by omega)]
      rfl
  rw [nb_set_snoc 65536 hl, he, nb_take_snoc 65536 ds i hd, Nat.pow_succ, Nat.mul_assoc]
  have e : 65536 ^ i * (d + es.getD i 0 + t) = 65536 ^ i * (ds.getD i 0 + 65536 * t') := by rw [hs]
  simp only [Nat.mul_add] at e
  omega
theorem sub_done {x y n t : Nat} {l ds es : List Nat} (hds : ds = db 65536 x) (hes : es = db 65536 y) (hxy : y ≤ x) (hn : ds.length = n) (hl : l.length = n) (hw : Wfb 65536 l) (h : nb 65536 (l.take n) + nb 65536 (es.take n) = nb 65536 (ds.take n) + 65536 ^ n * t) : nb 65536 l = x - y := by
  have h1 : es.length ≤ n := by rw [← hn, hds, hes]; exact len_db_mono b16 hxy
  rw [List.take_of_length_le (by omega), List.take_of_length_le h1, List.take_of_length_le (by omega), hds, hes, nb_db b16, nb_db b16] at h
  have h2 := nb_lt hw
  rw [hl] at h2
  have h3 : t = 0 := by
    refine Nat.eq_zero_of_not_pos fun hp => ?_
    have h3 : 65536 ^ n * 1 ≤ 65536 ^ n * t := Nat.mul_le_mul_left _ hp
    omega
  rw [h3] at h
  omega
theorem cmp3_lt_f {x y : Nat} (h : y ≤ x) : cmpB .lss (cmp3 x y) 0 = some false := by
  have e : ¬ cmp3 x y < 0 := fun e => by have := cmp3_neg.1 e; omega
  exact lt_f (by omega)
theorem cmp3_le {x y : Nat} (h : y ≤ x) : y ≤ x := h
theorem Bk.ri0 {w : World} {g N : Nat} {t : TypeId} {l : List Nat} (h : Bk w g t (l.map I6)) (hw : Wfb 65536 l) (hl : l.length = N) (hN : N ≤ 9223372036854775807) : Ri 65536 w (some ⟨g, 0, none⟩) N N l := by
  have := h.ri hw (o := 0) (n := N) (cap := N) (Nat.le_refl _) (by omega) (by rw [len_maxLen]; exact hN)
  rwa [List.drop_zero, List.take_of_length_le (Nat.le_of_eq hl)] at this
set_option maxHeartbeats 4000000 in
theorem ref1_Sub {w : World} {A D : Option Addr} {n cap m cd : Nat} {xs ys : List Nat} (hx : Rd w A n cap xs) (hln : n ≤ 137438953472) (hy : Rd w D m cd ys) (hlm : m ≤ 137438953472) (hle : nv ys ≤ nv xs) :
    Calls Try.prog 78 #[.slice A n cap, .slice D m cd] w (Gv w (T2 (WR w.heap.size (nv xs - nv ys)) (Is (.int .i64 0)))) := by
  refine sx_enter Try.func78 rfl (n := 49) rfl (Nat.le_of_ble_eq_true rfl) (args := [.slice A n cap, .slice D m cd]) ?_
  refine cw_keep [(0, .slice A n cap), (1, .slice D m cd)] ⟨rfl, rfl, trivial⟩ ?_
  refine cw_seq ?_
  refine cw_region ?_
  refine wl_assign rfl rfl (by decide) ?_
  refine wl_assign rfl rfl (by decide) ?_
  refine wl_nil ?_
  refine eo_then ?_
  refine cw_seq ?_
  refine cw_region ?_
  refine wl_move rfl rfl (by decide) ?_
  refine wl_call rfl rfl (vs := [.slice A n cap]) (by kernel_rfl) (by decide) (g_ref1_Split hx (by omega)) ?_
  rintro _ v1 ⟨xr3, rfl, r3, e2⟩
  refine ret_intro ?_
  have hw1 : Ext w v1 := (Ext.refl w).trans e2
  obtain ⟨A4, n4, c4, rfl, rd4⟩ := r3
  refine wl_assign rfl rfl (by decide) ?_
  refine wl_nil ?_
  refine eo_then ?_
  refine cw_seq ?_
  refine cw_region ?_
  refine wl_move rfl rfl (by decide) ?_
  refine wl_call rfl rfl (vs := [.slice D m cd]) (by kernel_rfl) (by decide) (g_ref1_Split (hy.ext e2) (by omega)) ?_
  rintro _ v5 ⟨xr7, rfl, r7, e6⟩
  refine ret_intro ?_
  have hw2 : Ext w v5 := hw1.trans e6
  obtain ⟨A8, n8, c8, rfl, rd8⟩ := r7
  refine wl_assign rfl rfl (by decide) ?_
  refine wl_nil ?_
  refine eo_then ?_
  refine cw_seq ?_
  refine cw_seq ?_
  have hll6 := rd4.len
  have hlb6 := len_db16w hx
  have hll7 := rd8.len
  have hlb7 := len_db16w hy
  refine cw_region ?_
  refine wl_move rfl rfl (by decide) ?_
  refine wl_move rfl rfl (by decide) ?_
  refine wl_call rfl rfl (vs := [.slice A4 n4 c4, .slice A8 n8 c8]) (by kernel_rfl) (by decide) (g_ref1_order (rd4.ext e6) (by omega) rd8 (by omega)) ?_
  rintro _ v9 ⟨xr11, rfl, r11, e10⟩
  refine ret_intro ?_
  have hw3 : Ext w v9 := hw2.trans e10
  obtain rfl := r11
  refine wl_cmp rfl rfl rfl false (cmp3_lt_f hle) (by decide) ?_
  refine wl_nil ?_
  refine eo_then ?_
  refine cw_false rfl ?_
  refine cw_skip ?_
  refine eo_then ?_
  refine cw_seq ?_
  obtain ⟨ds, hds⟩ : ∃ ds, ds = (db 65536 (nv xs)) := ⟨_, rfl⟩
  rw [← hds] at rd4 hll6 hlb6
  have hwds := rd4.wf
  obtain ⟨es, hes⟩ : ∃ es, es = (db 65536 (nv ys)) := ⟨_, rfl⟩
  rw [← hes] at rd8 hll7 hlb7
  have hwes := rd8.wf
  refine cw_region ?_
  refine wl_move rfl rfl (by decide) ?_
  refine wl_pure rfl rfl (v := .int .i64 ((n4 : Nat) : Int)) (by decide) (by kernel_rfl) ?_
  refine wl_make rfl (k := n4) rfl rfl rfl un_int infoInt rfl (by decide) (by omega) (by decide) fun g12 v13 hg14 hb15 e16 => ?_
  rw [replicate_I6] at hb15
  have ge17 : w.heap.size ≤ g12 := by rw [← hg14]; exact hw3.size
  have ne19 : 0 < cap → ∀ a, A = some a → a.block ≠ g12 := fun hc a ha => by have := ((hx.ext (e2.trans (e6.trans e10)))).rv.blk a ha hc; omega
  have ne20 : 0 < cd → ∀ a, D = some a → a.block ≠ g12 := fun hc a ha => by have := ((hy.ext (e2.trans (e6.trans e10)))).rv.blk a ha hc; omega
  have ne21 : 0 < c4 → ∀ a, A4 = some a → a.block ≠ g12 := fun hc a ha => by have := ((rd4.ext (e6.trans e10))).rv.blk a ha hc; omega
  have ne22 : 0 < c8 → ∀ a, A8 = some a → a.block ≠ g12 := fun hc a ha => by have := ((rd8.ext e10)).rv.blk a ha hc; omega
  clear hg14
  have hw4 : Ext w v13 := hw3.trans e16
  refine wl_assign rfl rfl (by decide) ?_
  refine wl_nil ?_
  refine eo_then ?_
  refine cw_seq ?_
  refine cw_region ?_
  refine wl_assign rfl rfl (by decide) ?_
  refine wl_nil ?_
  refine eo_then ?_
  refine cw_seq ?_
  refine cw_seq ?_
  refine cw_region ?_
  refine wl_assign rfl rfl (by decide) ?_
  refine wl_nil ?_
  refine eo_then ?_
  refine cw_block ?_
  refine cw_loop (T := World × Nat × Nat × List Nat)
    (fun ⟨wr, i, t, l⟩ => [(6, .slice A4 n4 c4), (7, .slice A8 n8 c8), (8, .slice (some ⟨g12, 0, none⟩) n4 n4), (9, .int .i64 ((t : Nat) : Int)), (10, .int .i64 ((i : Nat) : Int))])
    (fun ⟨wr, i, t, l⟩ => wr)
    (fun ⟨wr, i, t, l⟩ => (Ext w wr) ∧ (i ≤ n4) ∧ (t ≤ 1) ∧ (Bk wr g12 3 (l.map I6)) ∧ (l.length = n4) ∧ (Wfb 65536 l) ∧ (nb 65536 (l.take i) + nb 65536 (es.take i) = nb 65536 (ds.take i) + 65536 ^ i * t) ∧ (Ri 65536 wr A4 n4 c4 ds) ∧ (Ri 65536 wr A8 n8 c8 es))
    (fun ⟨wr, i, t, l⟩ => n4 - i)
    (⟨v13, 0, 0, _⟩ : World × Nat × Nat × List Nat) ⟨hw4, Nat.zero_le _, Nat.zero_le _, hb15, (List.length_replicate (n := n4) (a := 0)), Wfb_zeros (by decide) _, by simp [nb], (rd4.ext (e6.trans (e10.trans e16))), (rd8.ext (e10.trans e16))⟩ rfl ⟨rfl, rfl, rfl, rfl, rfl, trivial⟩ ?_
  rintro ⟨wr, i, t, l⟩ ⟨hw1, hi, ht, hb, hl, hwf, hv, rl6, rl7⟩
  refine cw_re [(6, .slice A4 n4 c4), (7, .slice A8 n8 c8), (8, .slice (some ⟨g12, 0, none⟩) n4 n4), (9, .int .i64 ((t : Nat) : Int)), (10, .int .i64 ((i : Nat) : Int))] wr rfl ⟨rfl, rfl, rfl, rfl, rfl, trivial⟩ ?_
  refine cw_seq ?_
  refine cw_seq ?_
  by_cases him : i < n4
  ·
    refine cw_region ?_
    refine wl_move rfl rfl (by decide) ?_
    refine wl_move rfl rfl (by decide) ?_
    refine wl_pure rfl rfl (v := .int .i64 ((n4 : Nat) : Int)) (by decide) (by kernel_rfl) ?_
    refine wl_cmp rfl rfl rfl true (cb_lt_t (a := i) (b := n4) rfl rfl (by omega)) (by decide) ?_
    refine wl_nil ?_
    refine eo_then ?_
    refine cw_true rfl ?_
    refine cw_skip ?_
    refine eo_then ?_
    refine cw_seq ?_
    refine cw_block ?_
    refine cw_seq ?_
    have hdb := Wfb_getD (b := 65536) (by decide) hwds i
    have heb := Wfb_getD (b := 65536) (by decide) hwes i
    by_cases hbig : es.getD i 0 + t ≤ ds.getD i 0
    ·
      obtain ⟨p23, hp23, hc23, hv23⟩ := (rl6).at (by decide) (i := i) (by omega)
      refine cw_draw mix 10 [] [Is (.slice A4 n4 c4), Is (.int .i64 ((i : Nat) : Int)), Is (.pointer (some p23)), Is (.int .i64 ((ds.getD i 0 : Nat) : Int)), Is (.slice A8 n8 c8), Is (.int .i64 ((i : Nat) : Int)), Is (.int .i64 ((es.getD i 0 : Nat) : Int)), Is (.int .i64 (((ds.getD i 0) - (es.getD i 0) : Nat) : Int)), Is (.int .i64 ((t : Nat) : Int)), Is (.int .i64 ((((ds.getD i 0) - (es.getD i 0)) - t : Nat) : Int))] [[], [], [0, 1], [2], [], [], [4, 5], [3, 6], [], [7, 8]] [[], [], [0, 1], [0, 1, 2], [], [], [4, 5], [0, 1, 2, 3, 4, 5, 6], [], [0, 1, 2, 3, 4, 5, 6, 7, 8], [0, 1, 2, 3, 4, 5, 6, 7, 8, 9]] rfl
        (obs_cons rfl rfl (hob rfl rfl ?_) (obs_cons rfl rfl (hob rfl rfl ?_) (obs_cons rfl rfl (hob rfl rfl ?_) (obs_cons rfl rfl (hob rfl rfl ?_) (obs_cons rfl rfl (hob rfl rfl ?_) (obs_cons rfl rfl (hob rfl rfl ?_) (obs_cons rfl rfl (hob rfl rfl ?_) (obs_cons rfl rfl (hob rfl rfl ?_) (obs_cons rfl rfl (hob rfl rfl ?_) (obs_cons rfl rfl (hob rfl rfl ?_) obs_nil)))))))))) ?_
      · -- 0
        intro v24 e25
        have hw2 : Ext w v24 := hw1.trans e25
        refine deps_nil ?_
        refine wl_move rfl rfl (by decide) ?_
        exact pi_done rfl (Ext.refl _) rfl
      · -- 1
        intro v26 e27
        have hw2 : Ext w v26 := hw1.trans e27
        refine deps_nil ?_
        refine wl_move rfl rfl (by decide) ?_
        exact pi_done rfl (Ext.refl _) rfl
      · -- 2
        intro v28 e29
        have hw2 : Ext w v28 := hw1.trans e29
        refine deps_cons rfl rfl fun x30 y31 h32 e33 f34 => ?_
        obtain rfl := h32
        refine deps_cons rfl rfl fun x35 y36 h37 e38 f39 => ?_
        obtain rfl := h37
        refine deps_nil ?_
        refine wl_idx rfl rfl rfl un_int sz_int i rfl (by omega) p23 hp23 (by decide) ?_
        exact pi_done rfl (Ext.refl _) rfl
      · -- 3
        intro v40 e41
        have hw2 : Ext w v40 := hw1.trans e41
        refine deps_cons rfl rfl fun x42 y43 h44 e45 f46 => ?_
        obtain rfl := h44
        refine deps_nil ?_
        refine wl_load rfl rfl (load_cell1 ag_int (e41.cell hc23)) (by decide) ?_
        exact pi_done rfl (Ext.refl _) rfl
      · -- 4
        intro v47 e48
        have hw2 : Ext w v47 := hw1.trans e48
        refine deps_nil ?_
        refine wl_move rfl rfl (by decide) ?_
        exact pi_done rfl (Ext.refl _) rfl
      · -- 5
        intro v49 e50
        have hw2 : Ext w v49 := hw1.trans e50
        refine deps_nil ?_
        refine wl_move rfl rfl (by decide) ?_
        exact pi_done rfl (Ext.refl _) rfl
      · -- 6
        intro v51 e52
        have hw2 : Ext w v51 := hw1.trans e52
        refine deps_cons rfl rfl fun x53 y54 h55 e56 f57 => ?_
        obtain rfl := h55
        refine deps_cons rfl rfl fun x58 y59 h60 e61 f62 => ?_
        obtain rfl := h60
        refine deps_nil ?_
        refine wl_call rfl rfl (vs := [.slice A8 n8 c8, .int .i64 ((i : Nat) : Int)]) (by kernel_rfl) (by decide) (g_ref1_at (rl7.ext e52) (by omega) (by omega)) ?_
        rintro _ v63 ⟨xr65, rfl, r65, e64⟩
        refine ret_intro ?_
        have hw3 : Ext w v63 := hw2.trans e64
        obtain rfl := r65
        exact pi_done rfl e64 rfl
      · -- 7
        intro v66 e67
        have hw2 : Ext w v66 := hw1.trans e67
        refine deps_cons rfl rfl fun x68 y69 h70 e71 f72 => ?_
        obtain rfl := h70
        refine deps_cons rfl rfl fun x73 y74 h75 e76 f77 => ?_
        obtain rfl := h75
        refine deps_nil ?_
        refine wl_ar rfl rfl rfl (((ds.getD i 0) - (es.getD i 0) : Nat) : Int) (ai_sub (a := ds.getD i 0) (b := es.getD i 0) rfl rfl (by omega) (by omega)) (by decide) ?_
        exact pi_done rfl (Ext.refl _) rfl
      · -- 8
        intro v78 e79
        have hw2 : Ext w v78 := hw1.trans e79
        refine deps_nil ?_
        refine wl_move rfl rfl (by decide) ?_
        exact pi_done rfl (Ext.refl _) rfl
      · -- 9
        intro v80 e81
        have hw2 : Ext w v80 := hw1.trans e81
        refine deps_cons rfl rfl fun x82 y83 h84 e85 f86 => ?_
        obtain rfl := h84
        refine deps_cons rfl rfl fun x87 y88 h89 e90 f91 => ?_
        obtain rfl := h89
        refine deps_nil ?_
        refine wl_ar rfl rfl rfl ((((ds.getD i 0) - (es.getD i 0)) - t : Nat) : Int) (ai_sub (a := (ds.getD i 0) - (es.getD i 0)) (b := t) rfl rfl (by omega) (by omega)) (by decide) ?_
        exact pi_done rfl (Ext.refl _) rfl
      · -- all
        intro v92 e93
        have hw2 : Ext w v92 := hw1.trans e93
        refine deps_cons rfl rfl fun x94 y95 h96 e97 f98 => ?_
        obtain rfl := h96
        refine deps_cons rfl rfl fun x99 y100 h101 e102 f103 => ?_
        obtain rfl := h101
        refine deps_cons rfl rfl fun x104 y105 h106 e107 f108 => ?_
        obtain rfl := h106
        refine deps_cons rfl rfl fun x109 y110 h111 e112 f113 => ?_
        obtain rfl := h111
        refine deps_cons rfl rfl fun x114 y115 h116 e117 f118 => ?_
        obtain rfl := h116
        refine deps_cons rfl rfl fun x119 y120 h121 e122 f123 => ?_
        obtain rfl := h121
        refine deps_cons rfl rfl fun x124 y125 h126 e127 f128 => ?_
        obtain rfl := h126
        refine deps_cons rfl rfl fun x129 y130 h131 e132 f133 => ?_
        obtain rfl := h131
        refine deps_cons rfl rfl fun x134 y135 h136 e137 f138 => ?_
        obtain rfl := h136
        refine deps_cons rfl rfl fun x139 y140 h141 e142 f143 => ?_
        obtain rfl := h141
        refine deps_nil ?_
        refine wl_assign rfl rfl (by decide) ?_
        refine wl_nil ?_
        refine eo_np ?_
        refine eo_then ?_
        refine cw_seq ?_
        refine cw_region ?_
        refine wl_assign rfl rfl (by decide) ?_
        refine wl_nil ?_
        refine eo_then ?_
        refine cw_seq ?_
        refine cw_seq ?_
        refine cw_region ?_
        refine wl_move rfl rfl (by decide) ?_
        refine wl_cmp rfl rfl rfl false (cb_lt_f (a := ((ds.getD i 0) - (es.getD i 0)) - t) (b := 0) rfl rfl (by omega)) (by decide) ?_
        refine wl_nil ?_
        refine eo_then ?_
        refine cw_false rfl ?_
        refine cw_skip ?_
        refine eo_then ?_
        refine cw_region ?_
        refine wl_move rfl rfl (by decide) ?_
        refine wl_move rfl rfl (by decide) ?_
        refine wl_move rfl rfl (by decide) ?_
        refine wl_idx rfl rfl rfl un_int sz_int i rfl (by omega) ⟨g12, i, none⟩ (arr_at _ _) (by decide) ?_
        have hb145 := (hb.ext e93)
        refine wl_stored1 rfl rfl rfl sz_int rfl hb145 (len_map (by rw [hl]; omega)) rfl ((l.set i (((ds.getD i 0) - (es.getD i 0)) - t)).map I6) (map_I6_set _ _ _) fun v144 hb146 u147 hs148 => ?_
        have hw3 : Ext w v144 := u147.ext hw2 ge17
        refine wl_nil ?_
        refine eo_block_normal ?_
        refine eo_then ?_
        refine cw_region ?_
        refine wl_move rfl rfl (by decide) ?_
        refine wl_ar rfl rfl rfl ((i + 1 : Nat) : Int) (ai_add (a := i) (b := 1) rfl rfl (by omega)) (by decide) ?_
        refine wl_assign rfl rfl (by decide) ?_
        refine wl_nil ?_
        refine eo_round (⟨v144, i + 1, 0, _⟩ : World × Nat × Nat × List Nat) ⟨hw3, (by omega), (by decide), hb146, (len_set (l := l) (hl)), Wfb_set hwf _ (by omega), subd_step (by omega) (by omega) hv (by omega), (Ri.updL (rl6.ext e93) u147 ne21), (Ri.updL (rl7.ext e93) u147 ne22)⟩ (show n4 - (i + 1) < n4 - i by omega) rfl ⟨rfl, rfl, rfl, rfl, rfl, trivial⟩
    ·
      obtain ⟨p149, hp149, hc149, hv149⟩ := (rl6).at (by decide) (i := i) (by omega)
      refine cw_draw mix 10 [] [Is (.slice A4 n4 c4), Is (.int .i64 ((i : Nat) : Int)), Is (.pointer (some p149)), Is (.int .i64 ((ds.getD i 0 : Nat) : Int)), Is (.slice A8 n8 c8), Is (.int .i64 ((i : Nat) : Int)), Is (.int .i64 ((es.getD i 0 : Nat) : Int)), Is (.int .i64 (((ds.getD i 0 : Nat) : Int) - ((es.getD i 0 : Nat) : Int))), Is (.int .i64 ((t : Nat) : Int)), Is (.int .i64 ((((ds.getD i 0 : Nat) : Int) - ((es.getD i 0 : Nat) : Int)) - ((t : Nat) : Int)))] [[], [], [0, 1], [2], [], [], [4, 5], [3, 6], [], [7, 8]] [[], [], [0, 1], [0, 1, 2], [], [], [4, 5], [0, 1, 2, 3, 4, 5, 6], [], [0, 1, 2, 3, 4, 5, 6, 7, 8], [0, 1, 2, 3, 4, 5, 6, 7, 8, 9]] rfl
        (obs_cons rfl rfl (hob rfl rfl ?_) (obs_cons rfl rfl (hob rfl rfl ?_) (obs_cons rfl rfl (hob rfl rfl ?_) (obs_cons rfl rfl (hob rfl rfl ?_) (obs_cons rfl rfl (hob rfl rfl ?_) (obs_cons rfl rfl (hob rfl rfl ?_) (obs_cons rfl rfl (hob rfl rfl ?_) (obs_cons rfl rfl (hob rfl rfl ?_) (obs_cons rfl rfl (hob rfl rfl ?_) (obs_cons rfl rfl (hob rfl rfl ?_) obs_nil)))))))))) ?_
      · -- 0
        intro v150 e151
        have hw2 : Ext w v150 := hw1.trans e151
        refine deps_nil ?_
        refine wl_move rfl rfl (by decide) ?_
        exact pi_done rfl (Ext.refl _) rfl
      · -- 1
        intro v152 e153
        have hw2 : Ext w v152 := hw1.trans e153
        refine deps_nil ?_
        refine wl_move rfl rfl (by decide) ?_
        exact pi_done rfl (Ext.refl _) rfl
      · -- 2
        intro v154 e155
        have hw2 : Ext w v154 := hw1.trans e155
        refine deps_cons rfl rfl fun x156 y157 h158 e159 f160 => ?_
        obtain rfl := h158
        refine deps_cons rfl rfl fun x161 y162 h163 e164 f165 => ?_
        obtain rfl := h163
        refine deps_nil ?_
        refine wl_idx rfl rfl rfl un_int sz_int i rfl (by omega) p149 hp149 (by decide) ?_
        exact pi_done rfl (Ext.refl _) rfl
      · -- 3
        intro v166 e167
        have hw2 : Ext w v166 := hw1.trans e167
        refine deps_cons rfl rfl fun x168 y169 h170 e171 f172 => ?_
        obtain rfl := h170
        refine deps_nil ?_
        refine wl_load rfl rfl (load_cell1 ag_int (e167.cell hc149)) (by decide) ?_
        exact pi_done rfl (Ext.refl _) rfl
      · -- 4
        intro v173 e174
        have hw2 : Ext w v173 := hw1.trans e174
        refine deps_nil ?_
        refine wl_move rfl rfl (by decide) ?_
        exact pi_done rfl (Ext.refl _) rfl
      · -- 5
        intro v175 e176
        have hw2 : Ext w v175 := hw1.trans e176
        refine deps_nil ?_
        refine wl_move rfl rfl (by decide) ?_
        exact pi_done rfl (Ext.refl _) rfl
      · -- 6
        intro v177 e178
        have hw2 : Ext w v177 := hw1.trans e178
        refine deps_cons rfl rfl fun x179 y180 h181 e182 f183 => ?_
        obtain rfl := h181
        refine deps_cons rfl rfl fun x184 y185 h186 e187 f188 => ?_
        obtain rfl := h186
        refine deps_nil ?_
        refine wl_call rfl rfl (vs := [.slice A8 n8 c8, .int .i64 ((i : Nat) : Int)]) (by kernel_rfl) (by decide) (g_ref1_at (rl7.ext e178) (by omega) (by omega)) ?_
        rintro _ v189 ⟨xr191, rfl, r191, e190⟩
        refine ret_intro ?_
        have hw3 : Ext w v189 := hw2.trans e190
        obtain rfl := r191
        exact pi_done rfl e190 rfl
      · -- 7
        intro v192 e193
        have hw2 : Ext w v192 := hw1.trans e193
        refine deps_cons rfl rfl fun x194 y195 h196 e197 f198 => ?_
        obtain rfl := h196
        refine deps_cons rfl rfl fun x199 y200 h201 e202 f203 => ?_
        obtain rfl := h201
        refine deps_nil ?_
        refine wl_ar rfl rfl rfl (((ds.getD i 0 : Nat) : Int) - ((es.getD i 0 : Nat) : Int)) (ar_i64s rfl (by omega) (by omega)) (by decide) ?_
        exact pi_done rfl (Ext.refl _) rfl
      · -- 8
        intro v204 e205
        have hw2 : Ext w v204 := hw1.trans e205
        refine deps_nil ?_
        refine wl_move rfl rfl (by decide) ?_
        exact pi_done rfl (Ext.refl _) rfl
      · -- 9
        intro v206 e207
        have hw2 : Ext w v206 := hw1.trans e207
        refine deps_cons rfl rfl fun x208 y209 h210 e211 f212 => ?_
        obtain rfl := h210
        refine deps_cons rfl rfl fun x213 y214 h215 e216 f217 => ?_
        obtain rfl := h215
        refine deps_nil ?_
        refine wl_ar rfl rfl rfl ((((ds.getD i 0 : Nat) : Int) - ((es.getD i 0 : Nat) : Int)) - ((t : Nat) : Int)) (ar_i64s rfl (by omega) (by omega)) (by decide) ?_
        exact pi_done rfl (Ext.refl _) rfl
      · -- all
        intro v218 e219
        have hw2 : Ext w v218 := hw1.trans e219
        refine deps_cons rfl rfl fun x220 y221 h222 e223 f224 => ?_
        obtain rfl := h222
        refine deps_cons rfl rfl fun x225 y226 h227 e228 f229 => ?_
        obtain rfl := h227
        refine deps_cons rfl rfl fun x230 y231 h232 e233 f234 => ?_
        obtain rfl := h232
        refine deps_cons rfl rfl fun x235 y236 h237 e238 f239 => ?_
        obtain rfl := h237
        refine deps_cons rfl rfl fun x240 y241 h242 e243 f244 => ?_
        obtain rfl := h242
        refine deps_cons rfl rfl fun x245 y246 h247 e248 f249 => ?_
        obtain rfl := h247
        refine deps_cons rfl rfl fun x250 y251 h252 e253 f254 => ?_
        obtain rfl := h252
        refine deps_cons rfl rfl fun x255 y256 h257 e258 f259 => ?_
        obtain rfl := h257
        refine deps_cons rfl rfl fun x260 y261 h262 e263 f264 => ?_
        obtain rfl := h262
        refine deps_cons rfl rfl fun x265 y266 h267 e268 f269 => ?_
        obtain rfl := h267
        refine deps_nil ?_
        refine wl_assign rfl rfl (by decide) ?_
        refine wl_nil ?_
        refine eo_np ?_
        refine eo_then ?_
        refine cw_seq ?_
        refine cw_region ?_
        refine wl_assign rfl rfl (by decide) ?_
        refine wl_nil ?_
        refine eo_then ?_
        refine cw_seq ?_
        refine cw_seq ?_
        refine cw_region ?_
        refine wl_move rfl rfl (by decide) ?_
        refine wl_cmp rfl rfl rfl true (lt_t (by omega)) (by decide) ?_
        refine wl_nil ?_
        refine eo_then ?_
        refine cw_true rfl ?_
        refine cw_seq ?_
        refine cw_region ?_
        refine wl_move rfl rfl (by decide) ?_
        refine wl_ar rfl rfl rfl ((ds.getD i 0 + 65536 - es.getD i 0 - t : Nat) : Int) (ar_i64 (by omega) (by omega) (by omega)) (by decide) ?_
        refine wl_assign rfl rfl (by decide) ?_
        refine wl_nil ?_
        refine eo_then ?_
        refine cw_region ?_
        refine wl_assign rfl rfl (by decide) ?_
        refine wl_nil ?_
        refine eo_then ?_
        refine cw_region ?_
        refine wl_move rfl rfl (by decide) ?_
        refine wl_move rfl rfl (by decide) ?_
        refine wl_move rfl rfl (by decide) ?_
        refine wl_idx rfl rfl rfl un_int sz_int i rfl (by omega) ⟨g12, i, none⟩ (arr_at _ _) (by decide) ?_
        have hb271 := (hb.ext e219)
        refine wl_stored1 rfl rfl rfl sz_int rfl hb271 (len_map (by rw [hl]; omega)) rfl ((l.set i (ds.getD i 0 + 65536 - es.getD i 0 - t)).map I6) (map_I6_set _ _ _) fun v270 hb272 u273 hs274 => ?_
        have hw3 : Ext w v270 := u273.ext hw2 ge17
        refine wl_nil ?_
        refine eo_block_normal ?_
        refine eo_then ?_
        refine cw_region ?_
        refine wl_move rfl rfl (by decide) ?_
        refine wl_ar rfl rfl rfl ((i + 1 : Nat) : Int) (ai_add (a := i) (b := 1) rfl rfl (by omega)) (by decide) ?_
        refine wl_assign rfl rfl (by decide) ?_
        refine wl_nil ?_
        refine eo_round (⟨v270, i + 1, 1, _⟩ : World × Nat × Nat × List Nat) ⟨hw3, (by omega), (by decide), hb272, (len_set (l := l) (hl)), Wfb_set hwf _ (by omega), subd_step (by omega) (by omega) hv (by omega), (Ri.updL (rl6.ext e219) u273 ne21), (Ri.updL (rl7.ext e219) u273 ne22)⟩ (show n4 - (i + 1) < n4 - i by omega) rfl ⟨rfl, rfl, rfl, rfl, rfl, trivial⟩
  ·
    refine cw_region ?_
    refine wl_move rfl rfl (by decide) ?_
    refine wl_move rfl rfl (by decide) ?_
    refine wl_pure rfl rfl (v := .int .i64 ((n4 : Nat) : Int)) (by decide) (by kernel_rfl) ?_
    refine wl_cmp rfl rfl rfl false (cb_lt_f (a := i) (b := n4) rfl rfl (by omega)) (by decide) ?_
    refine wl_nil ?_
    refine eo_then ?_
    refine cw_false rfl ?_
    refine cw_exit ?_
    refine eo_thenX ?_
    refine eo_loopX ?_
    refine eo_block_here ?_
    refine eo_then ?_
    refine cw_seq ?_
    obtain rfl : n4 = i := by omega
    have hval := sub_done hds hes (cmp3_le hle) hll6 hl hwf hv
    refine cw_region ?_
    refine wl_move rfl rfl (by decide) ?_
    refine wl_call rfl rfl (vs := [.slice (some ⟨g12, 0, none⟩) n4 n4]) (by kernel_rfl) (by decide) (g_ref1_Join hw1.size (hb.ri0 hwf hl (by omega)) (by omega)) ?_
    rintro _ v275 ⟨xr277, rfl, r277, e276⟩
    refine ret_intro ?_
    have hw2 : Ext w v275 := hw1.trans e276
    obtain ⟨A278, n278, c278, rfl, j278, o278⟩ := r277
    refine wl_assign rfl rfl (by decide) ?_
    refine wl_assign rfl rfl (by decide) ?_
    refine wl_nil ?_
    refine eo_then ?_
    refine cw_ret ?_
    refine eo_ret [.slice A278 n278 c278, .int .i64 0] rfl ⟨rfl, rfl, trivial⟩ ?_
    rw [hval] at j278 o278
    exact ⟨_, rfl, ⟨_, _, rfl, ⟨_, _, _, rfl, j278, o278⟩, rfl⟩, hw2⟩
end Go.Proofs.Ytmaconeeonkdgaa
