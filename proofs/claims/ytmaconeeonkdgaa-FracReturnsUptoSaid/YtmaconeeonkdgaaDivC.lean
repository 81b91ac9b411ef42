/- divnat.DivMod, Exact -/
import Derived.Test.YtmaconeeonkdgaaLongB
namespace Go.Proofs.Ytmaconeeonkdgaa
open Go.RowKit

/-- a quotient, a rest and an error -/
def RetQRE (w : World) (q r : Nat) (er : Int) (e : Ending) (w' : World) : Prop :=
  ∃ A n cap B m cap', e = .returned (.tuple #[.slice A n cap, .slice B m cap', .int .i64 er]) ∧ Hid (n = (wd q).length) ∧ Rd w' A n cap (wd q) ∧ Own w' w.heap.size 47 1 A n cap ((wd q).map W64) ∧
    Hid (m = (wd r).length) ∧ Rd w' B m cap' (wd r) ∧ Own w' w.heap.size 47 1 B m cap' ((wd r).map W64) ∧ Ext w w'
theorem wd_top {m : Nat} (h : m ≠ 0) : (wd m).getD ((wd m).length - 1) 0 ≠ 0 := by
  intro h0
  have hl : 0 < (wd m).length := Nat.pos_of_ne_zero (fun e => h (len_wd_zero.1 e))
  have e1 := nv_take_zero (wd m) ((wd m).length - 1) (by omega) h0
  rw [Nat.sub_add_cancel (by omega), List.take_of_length_le (Nat.le_refl _), nv_wd] at e1
  have h2 := nv_take_lt (Wf_wd m) ((wd m).length - 1)
  have h3 := pow_len_le h
  omega
theorem wd_len_one {m v : Nat} (h : 1 = (wd m).length) (hv : (wd m).getD 0 0 = v) : m = v := by
  have e1 := nv_take_snoc (wd m) 0 (by omega)
  rw [List.take_of_length_le (by omega), nv_wd, hv] at e1
  simpa [nv] using e1

theorem divnat_DivMod_bad {w : World} {A B : Option Addr} {n cap n' cap' : Nat} {ys : List Nat} (hy : Rd w B n' cap' ys) (hl' : n' ≤ 1099511627775) (h0 : nv ys = 0) :
    Calls Try.prog 86 #[.slice A n cap, .slice B n' cap'] w (fun e w' => e = .returned (.tuple #[.slice none 0 0, .slice none 0 0, .int .i64 4]) ∧ Ext w w') := by
  go_enter Try.func86, Try.ntmps86
  go_wp2_with fail
  refine (nat_Least hy (by omega)).mono ?_
  rintro e w1 ⟨A1, n1, c1, rfl, hn1, hr1, ho1, hx1⟩
  obtain rfl : n1 = 0 := by rw [hn1.out, h0]; rfl
  go_wp2_with fail
  go_ret3
  exact ⟨rfl, hx1⟩
theorem divnat_DivMod {w : World} {A B : Option Addr} {n cap n' cap' : Nat} {xs ys : List Nat} (hx : Rd w A n cap xs) (hl : n ≤ 274877906944) (hy : Rd w B n' cap' ys) (hl' : n' ≤ 274877906944) (h0 : nv ys ≠ 0) :
    Calls Try.prog 86 #[.slice A n cap, .slice B n' cap'] w (RetQRE w (nv xs / nv ys) (nv xs % nv ys) 0) := by
  go_enter Try.func86, Try.ntmps86
  go_wp2_with fail
  refine (nat_Least hy (by omega)).mono ?_
  rintro e w1 ⟨A1, n1, c1, rfl, hn1, hr1, ho1, hx1⟩
  have hn1p : 0 < n1 := by
    rw [hn1.out]; exact Nat.pos_of_ne_zero (fun e => h0 (len_wd_zero.1 e))
  have hn1b : n1 ≤ n' := by
    have := len_wd_nv hy.wf
    rw [hn1.out, ← hy.len]; exact this
  have b0 : ((n1 : Int) == 0) = false := by simp; omega
  by_cases h1 : n1 = 1
  · subst h1
    obtain ⟨a, v, rfl, hvk, hvb, hcv⟩ := hr1.get (i := 0) (by omega)
    have hv : Hid (nv ys = v) := wd_len_one hn1.out hvk.out
    have hcv0 : w1.cell? a = some (.int .u64 (v : Int)) := by simpa [Addr.add] using hcv
    go_wp2_with fail
    refine (divnat_Word (hx.ext hx1) (by omega) (v := v) (by rw [← hv.out]; exact h0) hvb).mono ?_
    rintro e w2 ⟨A2, n2, c2, r, rfl, hr, hrb, hn2, hr2, ho2, hx2⟩
    go_wp2_with fail
    have hone := Rd.one w2 hrb
    refine (nat_Least hone (by omega)).mono ?_
    rintro e w3 ⟨A3, n3, c3, rfl, hn3, hr3, ho3, hx3⟩
    rw [nv_one, hr.out, ← hv.out] at hn3 hr3 ho3
    rw [← hv.out] at hn2 hr2 ho2
    have hal : Ext w2 w3 := ((Ext.refl w2).alloc _).trans hx3
    go_wp2_with fail
    go_ret3
    exact ⟨A2, n2, c2, A3, n3, c3, rfl, hn2, hr2.ext hal, (ho2.mono hx1.size).ext hal, hn3, hr3, ho3.mono (Nat.le_trans (hx1.trans hx2).size (by simp)), (hx1.trans hx2).trans hal⟩
  · have b1 : ((n1 : Int) == 1) = false := by simp; omega
    go_wp2_with fail
    refine (nat_Least (hx.ext hx1) (by omega)).mono ?_
    rintro e w2 ⟨A2, n2, c2, rfl, hn2, hr2, ho2, hx2⟩
    have hn2b : n2 ≤ n := by
      have := len_wd_nv hx.wf
      rw [hn2.out, ← hx.len]; exact this
    go_wp2_with fail
    refine (nat_Cmp hr2 (by omega) (hr1.ext hx2) (by omega)).mono ?_
    rintro e w3 ⟨c, hc, hcl, hch, rfl, hx3⟩
    rw [nv_wd, nv_wd] at hc
    by_cases hlt : nv xs < nv ys
    · have hneg : c < 0 := by rw [hc.out]; exact cmp3_neg.2 hlt
      go_wp2_with fail
      go_ret3
      rw [Nat.div_eq_of_lt hlt, Nat.mod_eq_of_lt hlt]
      exact ⟨none, 0, 0, A2, n2, c2, rfl, rfl, Rd.nil _, Own.nil _ _ _ _, hn2, hr2.ext hx3, (ho2.mono hx1.size).ext hx3, (hx1.trans hx2).trans hx3⟩
    · have hneg : ¬ c < 0 := by rw [hc.out, cmp3_neg]; exact hlt
      have HL := Lib.hid hlt
      have hn12 : n1 ≤ n2 := by rw [hn1.out, hn2.out]; exact len_wd_mono (by omega)
      clear hlt
      go_wp2_with fail
      refine (divnat_long (hr2.ext hx3) (by omega) ((hr1.ext hx2).ext hx3) (by omega) hn12 (by rw [hn1.out]; exact wd_top h0)).mono ?_
      rintro e w4 ⟨A4, n4, c4, A5, n5, c5, rfl, hn4, hr4, ho4, hn5, hr5, ho5, hx4⟩
      rw [nv_wd, nv_wd] at hn4 hr4 ho4 hn5 hr5 ho5
      go_wp2_with fail
      go_ret3
      have hs := ((hx1.trans hx2).trans hx3)
      exact ⟨A4, n4, c4, A5, n5, c5, rfl, hn4, hr4, ho4.mono hs.size, hn5, hr5, ho5.mono hs.size, hs.trans hx4⟩

theorem divnat_Exact_bad {w : World} {A B : Option Addr} {n cap n' cap' : Nat} {ys : List Nat} (hy : Rd w B n' cap' ys) (hl' : n' ≤ 1099511627775) (h0 : nv ys = 0) :
    Calls Try.prog 82 #[.slice A n cap, .slice B n' cap'] w (fun e w' => e = .returned (.tuple #[.slice none 0 0, .int .i64 4]) ∧ Ext w w') := by
  go_enter Try.func82, Try.ntmps82
  go_wp2_with fail
  refine (divnat_DivMod_bad hy hl' h0).mono ?_
  rintro e w1 ⟨rfl, hx1⟩
  go_wp2_with fail
  go_ret2
  exact ⟨rfl, hx1⟩
theorem divnat_Exact_not {w : World} {A B : Option Addr} {n cap n' cap' : Nat} {xs ys : List Nat} (hx : Rd w A n cap xs) (hl : n ≤ 274877906944) (hy : Rd w B n' cap' ys) (hl' : n' ≤ 274877906944) (h0 : nv ys ≠ 0) (h1 : nv xs % nv ys ≠ 0) :
    Calls Try.prog 82 #[.slice A n cap, .slice B n' cap'] w (fun e w' => e = .returned (.tuple #[.slice none 0 0, .int .i64 8]) ∧ Ext w w') := by
  go_enter Try.func82, Try.ntmps82
  go_wp2_with fail
  refine (divnat_DivMod hx hl hy hl' h0).mono ?_
  rintro e w1 ⟨A4, n4, c4, A5, n5, c5, rfl, hn4, hr4, ho4, hn5, hr5, ho5, hx4⟩
  have hp : 0 < n5 := by rw [hn5.out]; exact Nat.pos_of_ne_zero (fun e => h1 (len_wd_zero.1 e))
  go_wp2_with fail
  go_ret2
  exact ⟨rfl, hx4⟩
theorem divnat_Exact {w : World} {A B : Option Addr} {n cap n' cap' : Nat} {xs ys : List Nat} (hx : Rd w A n cap xs) (hl : n ≤ 274877906944) (hy : Rd w B n' cap' ys) (hl' : n' ≤ 274877906944) (h0 : nv ys ≠ 0) (h1 : nv xs % nv ys = 0) :
    Calls Try.prog 82 #[.slice A n cap, .slice B n' cap'] w (RetWE w (nv xs / nv ys) 0) := by
  go_enter Try.func82, Try.ntmps82
  have H1 := Lib.hid h1
  clear h1
  go_wp2_with fail
  refine (divnat_DivMod hx hl hy hl' h0).mono ?_
  rintro e w1 ⟨A4, n4, c4, A5, n5, c5, rfl, hn4, hr4, ho4, hn5, hr5, ho5, hx4⟩
  obtain rfl : n5 = 0 := by rw [hn5.out, H1.out]; rfl
  go_wp2_with fail
  go_ret2
  exact ⟨A4, n4, c4, rfl, hn4, hr4, ho4, hx4⟩
end Go.Proofs.Ytmaconeeonkdgaa
