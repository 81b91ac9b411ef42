/- bits.OnesCount64 where the highest bit stands; zint.Small; zint.Of of any int64 -/
import Derived.Test.YtmaconeeonkdgaaIntD
import Derived.Test.YtmaconeeonkdgaaPop
import Derived.Test.YtmaconeeonkdgaaDiv64
import Derived.Test.YtmaconeeonkdgaaShr
namespace Go.Proofs.Ytmaconeeonkdgaa
open Go.RowKit

theorem i64_and {x y : Nat} (hx : x ≤ 9223372036854775807) (hy : y ≤ 9223372036854775807) (P : Program) (t : TypeId) (w : World) : (binOp .and t (.int .i64 (x : Int)) (.int .i64 (y : Int))).run P w = .ok (.int .i64 ((x &&& y : Nat) : Int)) w := by
  have e : IntKind.i64.wrap ((BitVec.ofInt 64 (x : Int) &&& BitVec.ofInt 64 (y : Int)).toNat : Int) = ((x &&& y : Nat) : Int) := by
    rw [BitVec.toNat_and, ofInt_64 (by omega), ofInt_64 (by omega), wrap_i64_nat (Nat.le_trans Nat.and_le_left hx)]
  rw [← e]; rfl
theorem first_word {xs : List Nat} (hw : Wf xs) (h : nv xs < WB) : xs.getD 0 0 = nv xs := by
  cases xs with
  | nil => rfl
  | cons x r =>
    rw [nv_cons] at h ⊢
    have hr : nv r = 0 := by
      refine Nat.eq_zero_of_not_pos (fun hp => ?_)
      have := Nat.mul_le_mul_left WB hp
      omega
    rw [hr, Nat.mul_zero, Nat.add_zero]
    rfl
/-- an int64 and an error -/
def SmallP (w : World) (z : Int) (e : Ending) (w' : World) : Prop :=
  ∃ v er : Int, e = .returned (.tuple #[.int .i64 v, .int .i64 er]) ∧ Hid ((-9223372036854775808 ≤ z ∧ z ≤ 9223372036854775807 → v = z ∧ er = 0) ∧ (¬ (-9223372036854775808 ≤ z ∧ z ≤ 9223372036854775807) → v = 0 ∧ er = 5)) ∧ Ext w w'
theorem zint_Of_neg {w : World} {v : Nat} (hv1 : 1 ≤ v) (hv : v ≤ 9223372036854775808) :
    Calls Try.prog 15 #[.int .i64 (-(v : Int))] w (RetZ w (-(v : Int))) := by
  have hn : -(v : Int) < 0 := by omega
  have w1e : IntKind.u64.wrap (-(v : Int)) = 18446744073709551616 - (v : Int) := by
    simp only [IntKind.wrap, IntKind.bits, IntKind.signed]
    simp
    omega
  have w2e : IntKind.u64.wrap (-(18446744073709551616 - (v : Int))) = (v : Int) := by
    simp only [IntKind.wrap, IntKind.bits, IntKind.signed]
    simp
    omega
  have W1 := Lib.hid w1e
  have W2 := Lib.hid w2e
  clear w1e w2e
  go_enter Try.func15, Try.ntmps15
  go_upto_region 2 with (fail)
  obtain ⟨g, hg⟩ : ∃ g, w.heap.size = g := ⟨_, rfl⟩
  obtain ⟨wa, hwa⟩ : ∃ wa, w.alloc (.cells #[.bool false, .slice none 0 0] 27) = wa := ⟨_, rfl⟩
  rw [hg, hwa]
  have hb : Bk wa g 27 [.bool false, .slice none 0 0] := by rw [← hwa, ← hg]; exact Bk.new w 27 [.bool false, .slice none 0 0]
  have hea : Ext w wa := by rw [← hwa]; exact (Ext.refl w).alloc _
  have hga : w.heap.size ≤ g := Nat.le_of_eq hg
  have hgl : g < wa.heap.size := hb.lt
  clear hwa hg
  obtain ⟨k1, k2, k3, k4⟩ := hb.two
  have h1 : Rd (wa.alloc (.cells #[.int .u64 (v : Int)] 47)) (some ⟨wa.heap.size, 0, none⟩) 1 1 [v] := Rd.one wa (by omega)
  have w1e := W1.out
  have w2e := W2.out
  go_wp2_with fail
  clear w1e w2e
  refine (nat_Least (h1.ext (by repeat (first | exact Ext.refl _ | assumption | apply Ext.drewN | apply Ext.drew | apply Ext.alloc))) (by omega)).mono ?_
  rintro e w1 ⟨A1, n1, c1, rfl, hn1, hr1, ho1, hx1⟩
  rw [nv_one] at hn1 ho1
  have hx1' : Ext wa w1 := Ext.trans (by repeat (first | exact Ext.refl _ | assumption | apply Ext.drewN | apply Ext.drew | apply Ext.alloc)) hx1
  have hd := hb.ext hx1'
  have hsz := hx1'.size
  go_wp2_with fail
  refine (zint_of hn1.out).mono ?_
  rintro e w2 ⟨s', rfl, hs', hx2⟩
  have hd := hd.ext hx2
  clear k1 k2 k3 k4
  obtain ⟨k1, k2, k3, k4⟩ := hd.two
  go_wp2_with fail
  refine bodyPost_ret (res_int rfl rfl (hd.two_set _ _)) rfl ?_
  exact fin_int hd ((Zr_of hs'.out hn1.out ho1 (sg_true _)).ext hx2) (by simp; omega) (by omega) (hea.trans (hx1'.trans hx2))
theorem zint_OfI {w : World} {v : Int} (h1 : -9223372036854775808 ≤ v) (h2 : v ≤ 9223372036854775807) : Calls Try.prog 15 #[.int .i64 v] w (RetZ w v) := by
  by_cases h : 0 ≤ v
  · obtain ⟨m, rfl⟩ := Int.eq_ofNat_of_zero_le h
    exact zint_Of (by omega)
  · obtain ⟨m, hm⟩ : ∃ m : Nat, v = -(m : Int) := ⟨v.natAbs, by omega⟩
    subst hm
    exact zint_Of_neg (by omega) (by omega)
end Go.Proofs.Ytmaconeeonkdgaa
