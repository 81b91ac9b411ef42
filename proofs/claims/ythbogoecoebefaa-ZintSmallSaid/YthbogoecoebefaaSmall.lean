/- bits.OnesCount64 where the highest bit stands; zint.Small; zint.Of of any int64 -/
import Derived.Test.YthbogoecoebefaaIntD
import Derived.Test.YthbogoecoebefaaPop
import Derived.Test.YthbogoecoebefaaDiv64
import Derived.Test.YthbogoecoebefaaShr
namespace Go.Proofs.Ythbogoecoebefaa
open Go.RowKit

theorem i64_and {x y : Nat} (hx : x ≤ 9223372036854775807) (hy : y ≤ 9223372036854775807) (P : Program) (t : TypeId) (w : World) : (binOp .and t (.int .i64 (x : Int)) (.int .i64 (y : Int))).run P w = .ok (.int .i64 ((x &&& y : Nat) : Int)) w := by
  have e : IntKind.i64.wrap ((BitVec.ofInt 64 (x : Int) &&& BitVec.ofInt 64 (y : Int)).toNat : Int) = ((x &&& y : Nat) : Int) := by
    rw [BitVec.toNat_and, ofInt_64 (by omega), ofInt_64 (by omega), wrap_i64_nat (Nat.le_trans Nat.and_le_left hx)]
  rw [← e]; rfl
set_option maxHeartbeats 1000000 in
theorem bits_Ones {x : Nat} (hx : x ≤ 18446744073709551615) (hh : 9223372036854775808 ≤ x) (w : World) :
    Calls Try.prog 40 #[.int .u64 (x : Int)] w fun e w' => ∃ c : Nat, e = .returned (.int .i64 (c : Int)) ∧ Hid (c = 1 ↔ x = 9223372036854775808) ∧ w = w' := by
  obtain ⟨x1, hx1⟩ : ∃ x1, Pop.f1 8 x = x1 := ⟨_, rfl⟩
  obtain ⟨x2, hx2⟩ : ∃ x2, Pop.f2 8 x1 = x2 := ⟨_, rfl⟩
  obtain ⟨x3, hx3⟩ : ∃ x3, Pop.f3 8 x2 = x3 := ⟨_, rfl⟩
  obtain ⟨x4, hx4⟩ : ∃ x4, x3 + x3 / 256 = x4 := ⟨_, rfl⟩
  obtain ⟨x5, hx5⟩ : ∃ x5, x4 + x4 / 65536 = x5 := ⟨_, rfl⟩
  obtain ⟨x6, hx6⟩ : ∃ x6, x5 + x5 / 4294967296 = x6 := ⟨_, rfl⟩
  have hone := Pop.one (x := x) (by omega) hh hx1.symm hx2.symm hx3.symm hx4.symm hx5.symm hx6.symm
  have m85 : Pop.mk 85 8 = 6148914691236517205 := by decide
  have m51 : Pop.mk 51 8 = 3689348814741910323 := by decide
  have m15 : Pop.mk 15 8 = 1085102592571150095 := by decide
  unfold Pop.f1 at hx1
  unfold Pop.f2 at hx2
  unfold Pop.f3 at hx3
  rw [m85] at hx1
  rw [m51] at hx2
  rw [m15] at hx3
  have c1 : x1 ≤ 12297829382473034410 := by
    have h1 : x / 2 &&& 6148914691236517205 ≤ 6148914691236517205 := Nat.and_le_right
    have h2 : x &&& 6148914691236517205 ≤ 6148914691236517205 := Nat.and_le_right
    omega
  have c2 : x2 ≤ 7378697629483820646 := by
    have h1 : x1 / 4 &&& 3689348814741910323 ≤ 3689348814741910323 := Nat.and_le_right
    have h2 : x1 &&& 3689348814741910323 ≤ 3689348814741910323 := Nat.and_le_right
    omega
  have c3 : x3 ≤ 1085102592571150095 := by rw [← hx3]; exact Nat.and_le_right
  have c4 : x4 ≤ 1090000000000000000 := by omega
  have c5 : x5 ≤ 1100000000000000000 := by omega
  have c6 : x6 ≤ 1200000000000000000 := by omega
  have H1 := Lib.hid hx1
  have H2 := Lib.hid hx2
  have H3 := Lib.hid hx3
  have H4 := Lib.hid hx4
  have H5 := Lib.hid hx5
  have H6 := Lib.hid hx6
  have HO := Lib.hid hone
  clear hone hx1 hx2 hx3 hx4 hx5 hx6 m85 m51 m15
  have HB := Lib.hid hh
  clear hh
  go_enter Try.func40, Try.ntmps40
  go_wp2_with (first
    | ((with_reducible refine at_slot (some 4) ?_); refine wpl_u64 rfl rfl rfl rfl rfl (u64_shr (x := x) (s := 1) (by omega)) (Nat.le_trans (Nat.div_le_self _ _) hx) ?_; intro r4 h4 b4)
    | ((with_reducible refine at_slot (some 5) ?_); refine wpl_u64 rfl rfl rfl rfl rfl (u64_and (x := r4) (y := 6148914691236517205) b4 (by omega)) (Nat.le_trans Nat.and_le_right (by omega)) ?_; intro r5 h5 b5)
    | ((with_reducible refine at_slot (some 7) ?_); refine wpl_u64 rfl rfl rfl rfl rfl (u64_and (x := x) (y := 6148914691236517205) hx (by omega)) (Nat.le_trans Nat.and_le_right (by omega)) ?_; intro r7 h7 b7)
    | ((with_reducible refine at_slot (some 8) ?_); refine wpl_u64 rfl rfl rfl rfl rfl (u64_add (x := r5) (y := r7)) (by omega) ?_; intro r8 h8 b8; have e8 : x1 = r8 := (by have := H1.out; rw [h8.out, h5.out, h7.out, h4.out, Nat.pow_one, this, Nat.mod_eq_of_lt (by omega)]); clear h8 h5 h7 h4 b8; subst e8)
    | ((with_reducible refine at_slot (some 10) ?_); refine wpl_u64 rfl rfl rfl rfl rfl (u64_shr (x := x1) (s := 2) (by omega)) (by have := Nat.div_le_self x1 (2 ^ 2); omega) ?_; intro r10 h10 b10)
    | ((with_reducible refine at_slot (some 11) ?_); refine wpl_u64 rfl rfl rfl rfl rfl (u64_and (x := r10) (y := 3689348814741910323) b10 (by omega)) (Nat.le_trans Nat.and_le_right (by omega)) ?_; intro r11 h11 b11)
    | ((with_reducible refine at_slot (some 13) ?_); refine wpl_u64 rfl rfl rfl rfl rfl (u64_and (x := x1) (y := 3689348814741910323) (by omega) (by omega)) (Nat.le_trans Nat.and_le_right (by omega)) ?_; intro r13 h13 b13)
    | ((with_reducible refine at_slot (some 14) ?_); refine wpl_u64 rfl rfl rfl rfl rfl (u64_add (x := r11) (y := r13)) (by omega) ?_; intro r14 h14 b14; have e14 : x2 = r14 := (by have := H2.out; rw [h14.out, h11.out, h13.out, h10.out, show (2 : Nat) ^ 2 = 4 from rfl, this, Nat.mod_eq_of_lt (by omega)]); clear h14 h11 h13 h10 b14; subst e14)
    | ((with_reducible refine at_slot (some 16) ?_); refine wpl_u64 rfl rfl rfl rfl rfl (u64_shr (x := x2) (s := 4) (by omega)) (by have := Nat.div_le_self x2 (2 ^ 4); omega) ?_; intro r16 h16 b16)
    | ((with_reducible refine at_slot (some 18) ?_); refine wpl_u64 rfl rfl rfl rfl rfl (u64_add (x := r16) (y := x2)) (by omega) ?_; intro r18 h18 b18)
    | ((with_reducible refine at_slot (some 19) ?_); refine wpl_u64 rfl rfl rfl rfl rfl (u64_and (x := r18) (y := 1085102592571150095) b18 (by omega)) (Nat.le_trans Nat.and_le_right (by omega)) ?_; intro r19 h19 b19; have e19 : x3 = r19 := (by have := H3.out; have q : r16 = x2 / 16 := h16.out; rw [h19.out, h18.out, q, Nat.mod_eq_of_lt (by omega), this]); clear h19 h18 h16 b19; subst e19)
    | ((with_reducible refine at_slot (some 22) ?_); refine wpl_u64 rfl rfl rfl rfl rfl (u64_shr (x := x3) (s := 8) (by omega)) (by have := Nat.div_le_self x3 (2 ^ 8); omega) ?_; intro r22 h22 b22)
    | ((with_reducible refine at_slot (some 23) ?_); refine wpl_u64 rfl rfl rfl rfl rfl (u64_add (x := x3) (y := r22)) (by omega) ?_; intro r23 h23 b23; have e23 : x4 = r23 := (by have := H4.out; have q : r22 = x3 / 256 := h22.out; rw [h23.out, q, this, Nat.mod_eq_of_lt (by omega)]); clear h23 h22 b23; subst e23)
    | ((with_reducible refine at_slot (some 26) ?_); refine wpl_u64 rfl rfl rfl rfl rfl (u64_shr (x := x4) (s := 16) (by omega)) (by have := Nat.div_le_self x4 (2 ^ 16); omega) ?_; intro r26 h26 b26)
    | ((with_reducible refine at_slot (some 27) ?_); refine wpl_u64 rfl rfl rfl rfl rfl (u64_add (x := x4) (y := r26)) (by omega) ?_; intro r27 h27 b27; have e27 : x5 = r27 := (by have := H5.out; have q : r26 = x4 / 65536 := h26.out; rw [h27.out, q, this, Nat.mod_eq_of_lt (by omega)]); clear h27 h26 b27; subst e27)
    | ((with_reducible refine at_slot (some 30) ?_); refine wpl_u64 rfl rfl rfl rfl rfl (u64_shr (x := x5) (s := 32) (by omega)) (by have := Nat.div_le_self x5 (2 ^ 32); omega) ?_; intro r30 h30 b30)
    | ((with_reducible refine at_slot (some 31) ?_); refine wpl_u64 rfl rfl rfl rfl rfl (u64_add (x := x5) (y := r30)) (by omega) ?_; intro r31 h31 b31; have e31 : x6 = r31 := (by have := H6.out; have q : r30 = x5 / 4294967296 := h30.out; rw [h31.out, q, this, Nat.mod_eq_of_lt (by omega)]); clear h31 h30 b31; subst e31)
    | ((with_reducible refine at_slot (some 34) ?_); refine wpl_i64 rfl rfl rfl rfl rfl (i64_and (x := x6) (y := 127) (by omega) (by omega)) ?_; intro c hc))
  go_ret
  refine ⟨c, rfl, ?_, rfl⟩
  show _ ↔ _
  rw [hc.out, show (127 : Nat) = 2 ^ 7 - 1 from rfl, Nat.and_two_pow_sub_one_eq_mod]
  exact HO.out
theorem first_word {xs : List Nat} (hw : Wf xs) (h : nv xs < WB) : xs.getD 0 0 = nv xs := by
  cases xs with
  | nil => rfl
  | cons x r =>
    rw [nv_cons] at h ⊢
    have hr : nv r = 0 := by
      refine Nat.eq_zero_of_not_pos (fun hp => ?_)
      have := Nat.mul_le_mul_left WB hp
      omega
    rw [hr, Nat.mul_zero, Nat.add_zero]
    rfl
/-- an int64 and an error -/
def SmallP (w : World) (z : Int) (e : Ending) (w' : World) : Prop :=
  ∃ v er : Int, e = .returned (.tuple #[.int .i64 v, .int .i64 er]) ∧ Hid ((-9223372036854775808 ≤ z ∧ z ≤ 9223372036854775807 → v = z ∧ er = 0) ∧ (¬ (-9223372036854775808 ≤ z ∧ z ≤ 9223372036854775807) → v = 0 ∧ er = 5)) ∧ Ext w w'
set_option maxHeartbeats 1000000 in
theorem zint_Small {w : World} {s : Bool} {A : Option Addr} {n cap : Nat} {x : Int} (hx : Zi w s A n cap x) (hl : n ≤ 68719476736) :
    Calls Try.prog 10 #[.agg #[.bool s, .slice A n cap]] w (SmallP w x) := by
  obtain ⟨xs, hr, rfl⟩ := hx
  have hlx := Lib.hid hr.len
  go_enter Try.func10, Try.ntmps10
  go_upto_region 1 with (fail)
  have hb1 := Bk.new w 24 [.bool s, .slice A n cap]
  obtain ⟨wa, hwa⟩ : ∃ wa, w.alloc (.cells #[.bool s, .slice A n cap] 24) = wa := ⟨_, rfl⟩
  rw [hwa]
  obtain ⟨g, hg⟩ : ∃ g, w.heap.size = g := ⟨_, rfl⟩
  rw [hg] at hb1 ⊢
  have hb1' : Bk wa g 24 [.bool s, .slice A n cap] := by rw [← hwa]; exact hb1
  have hea : Ext w wa := by rw [← hwa]; exact (Ext.refl w).alloc _
  clear hwa hg hb1
  obtain ⟨f1, f2, f3, f4⟩ := hb1'.two
  go_wp2_with fail
  refine (nat_BitLen (hr.ext hea) (by omega)).mono ?_
  rintro e w1 ⟨b, hb, rfl, hx1'⟩
  have hx1 := hea.trans hx1'
  have hr1 := hr.ext hx1
  clear f1 f2 f3 f4
  obtain ⟨f1, f2, f3, f4⟩ := (hb1'.ext hx1').two
  have hbl := lt_blen (nv xs)
  rw [← hb.out] at hbl
  by_cases h0 : b = 0
  · subst h0
    have hz : nv xs = 0 := blen_eq_zero.1 hb.out.symm
    have HZ := Lib.hid hz
    clear hz hbl
    go_wp2_with fail
    go_ret2
    refine ⟨0, 0, rfl, ?_, hx1⟩
    rw [HZ.out, sg_zero]
    exact ⟨fun _ => ⟨rfl, rfl⟩, fun h => absurd ⟨by omega, by omega⟩ h⟩
  · have b0 : ((b : Int) == 0) = false := by simp; omega
    have hn0 : 0 < n := by
      refine Nat.pos_of_ne_zero (fun e => h0 ?_)
      have : xs = [] := List.eq_nil_of_length_eq_zero (by rw [hlx.out, e])
      rw [hb.out, this]; rfl
    obtain ⟨a, x0, rfl, hxk, hxb, hcx⟩ := hr1.get (i := 0) hn0
    have hcx0 : w1.cell? a = some (.int .u64 (x0 : Int)) := by simpa [Addr.add] using hcx
    have hni : 0 < (n : Int) := by omega
    clear hcx
    by_cases h64 : b < 64
    · have hi64 : (b : Int) < 64 := by omega
      have hlt : nv xs < 2 ^ 63 := Nat.lt_of_lt_of_le hbl (Nat.pow_le_pow_right (by omega) (by omega))
      have hx0 : Hid (x0 = nv xs) := (show _ = _ by rw [← hxk.out]; exact first_word hr.wf (by rw [WB_def]; omega))
      have hx63 : x0 ≤ 9223372036854775807 := by rw [hx0.out]; omega
      clear hbl hlt h64 h0
      cases s
      · go_wp2_with fail
        go_ret2
        refine ⟨(x0 : Int), 0, rfl, ?_, hx1⟩
        rw [sg_false, ← hx0.out]
        exact ⟨fun _ => ⟨rfl, rfl⟩, fun h => absurd ⟨by omega, by omega⟩ h⟩
      · go_wp2_with fail
        go_ret2
        refine ⟨-(x0 : Int), 0, rfl, ?_, hx1⟩
        rw [sg_true, ← hx0.out]
        exact ⟨fun _ => ⟨rfl, rfl⟩, fun h => absurd ⟨by omega, by omega⟩ h⟩
    · have hi64 : ¬ (b : Int) < 64 := by omega
      have hge : 2 ^ 63 ≤ nv xs := by
        have h1 := blen_le_self (n := nv xs) (fun e => h0 (by rw [hb.out, e]; rfl))
        rw [← hb.out] at h1
        exact Nat.le_trans (Nat.pow_le_pow_right (by omega) (by omega)) h1
      by_cases he64 : b = 64
      · subst he64
        have hlt : nv xs < WB := by rw [WB_def]; exact hbl
        have hx0 : Hid (x0 = nv xs) := (show _ = _ by rw [← hxk.out]; exact first_word hr.wf hlt)
        have hx63 : 9223372036854775808 ≤ x0 := by rw [hx0.out]; omega
        clear hbl hlt h64 h0 hge
        cases s
        · go_wp2_with fail
          go_ret2
          refine ⟨0, 5, rfl, ?_, hx1⟩
          rw [sg_false, ← hx0.out]
          exact ⟨fun h => absurd h.2 (by omega), fun _ => ⟨rfl, rfl⟩⟩
        · go_wp2_with fail
          refine (bits_Ones hxb hx63 _).mono ?_
          rintro e w' ⟨c, rfl, hc, rfl⟩
          by_cases hc1 : c = 1
          · have hxx : Hid (x0 = 9223372036854775808) := hc.out.1 hc1
            subst hc1
            go_wp2_with fail
            go_ret2
            refine ⟨-9223372036854775808, 0, rfl, ?_, hx1⟩
            rw [sg_true, ← hx0.out, hxx.out]
            exact ⟨fun _ => ⟨rfl, rfl⟩, fun h => absurd ⟨by omega, by omega⟩ h⟩
          · have bc : ((c : Int) == 1) = false := by simp; omega
            have hxx : Hid (x0 ≠ 9223372036854775808) := fun e => hc1 (hc.out.2 e)
            clear hc1
            go_wp2_with fail
            go_ret2
            refine ⟨0, 5, rfl, ?_, hx1⟩
            rw [sg_true, ← hx0.out]
            exact ⟨fun h => absurd h.1 (by have := hxx.out; omega), fun _ => ⟨rfl, rfl⟩⟩
      · have be : ((b : Int) == 64) = false := by simp; omega
        have hge2 : 2 ^ 64 ≤ nv xs := by
          have h1 := blen_le_self (n := nv xs) (fun e => h0 (by rw [hb.out, e]; rfl))
          rw [← hb.out] at h1
          exact Nat.le_trans (Nat.pow_le_pow_right (by omega) (by omega)) h1
        have HG := Lib.hid hge2
        clear hbl hge hge2 h0 h64 he64
        go_wp2_with fail
        go_ret2
        refine ⟨0, 5, rfl, ?_, hx1⟩
        have := HG.out
        refine ⟨fun h => ?_, fun _ => ⟨rfl, rfl⟩⟩
        cases s
        · rw [sg_false] at h; omega
        · rw [sg_true] at h; omega
theorem zint_Of_neg {w : World} {v : Nat} (hv1 : 1 ≤ v) (hv : v ≤ 9223372036854775808) :
    Calls Try.prog 9 #[.int .i64 (-(v : Int))] w (RetZ w (-(v : Int))) := by
  have hn : -(v : Int) < 0 := by omega
  have w1e : IntKind.u64.wrap (-(v : Int)) = 18446744073709551616 - (v : Int) := by
    simp only [IntKind.wrap, IntKind.bits, IntKind.signed]
    simp
    omega
  have w2e : IntKind.u64.wrap (-(18446744073709551616 - (v : Int))) = (v : Int) := by
    simp only [IntKind.wrap, IntKind.bits, IntKind.signed]
    simp
    omega
  have W1 := Lib.hid w1e
  have W2 := Lib.hid w2e
  clear w1e w2e
  go_enter Try.func9, Try.ntmps9
  go_upto_region 2 with (fail)
  obtain ⟨g, hg⟩ : ∃ g, w.heap.size = g := ⟨_, rfl⟩
  obtain ⟨wa, hwa⟩ : ∃ wa, w.alloc (.cells #[.bool false, .slice none 0 0] 24) = wa := ⟨_, rfl⟩
  rw [hg, hwa]
  have hb : Bk wa g 24 [.bool false, .slice none 0 0] := by rw [← hwa, ← hg]; exact Bk.new w 24 [.bool false, .slice none 0 0]
  have hea : Ext w wa := by rw [← hwa]; exact (Ext.refl w).alloc _
  have hga : w.heap.size ≤ g := Nat.le_of_eq hg
  have hgl : g < wa.heap.size := hb.lt
  clear hwa hg
  obtain ⟨k1, k2, k3, k4⟩ := hb.two
  have h1 : Rd (wa.alloc (.cells #[.int .u64 (v : Int)] 58)) (some ⟨wa.heap.size, 0, none⟩) 1 1 [v] := Rd.one wa (by omega)
  have w1e := W1.out
  have w2e := W2.out
  go_wp2_with fail
  clear w1e w2e
  refine (nat_Least (h1.ext (by repeat (first | exact Ext.refl _ | assumption | apply Ext.drewN | apply Ext.drew | apply Ext.alloc))) (by omega)).mono ?_
  rintro e w1 ⟨A1, n1, c1, rfl, hn1, hr1, ho1, hx1⟩
  rw [nv_one] at hn1 ho1
  have hx1' : Ext wa w1 := Ext.trans (by repeat (first | exact Ext.refl _ | assumption | apply Ext.drewN | apply Ext.drew | apply Ext.alloc)) hx1
  have hd := hb.ext hx1'
  have hsz := hx1'.size
  go_wp2_with fail
  refine (zint_of hn1.out).mono ?_
  rintro e w2 ⟨s', rfl, hs', hx2⟩
  have hd := hd.ext hx2
  clear k1 k2 k3 k4
  obtain ⟨k1, k2, k3, k4⟩ := hd.two
  go_wp2_with fail
  refine bodyPost_ret (res_int rfl rfl (hd.two_set _ _)) rfl ?_
  exact fin_int hd ((Zr_of hs'.out hn1.out ho1 (sg_true _)).ext hx2) (by simp; omega) (by omega) (hea.trans (hx1'.trans hx2))
theorem zint_OfI {w : World} {v : Int} (h1 : -9223372036854775808 ≤ v) (h2 : v ≤ 9223372036854775807) : Calls Try.prog 9 #[.int .i64 v] w (RetZ w v) := by
  by_cases h : 0 ≤ v
  · obtain ⟨m, rfl⟩ := Int.eq_ofNat_of_zero_le h
    exact zint_Of (by omega)
  · obtain ⟨m, hm⟩ : ∃ m : Nat, v = -(m : Int) := ⟨v.natAbs, by omega⟩
    subst hm
    exact zint_Of_neg (by omega) (by omega)
end Go.Proofs.Ythbogoecoebefaa
