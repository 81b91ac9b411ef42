/- divnat.words, Gcd -/
import Derived.Test.YtmaconeeonkdgaaDivC
namespace Go.Proofs.Ytmaconeeonkdgaa
open Go.RowKit

/-- what a value of words stands for, read in a world (for a measure) -/
def wordOf : Option Value → Nat
  | some (.int _ z) => z.toNat
  | _ => 0
def numAt (w : World) : Value → Nat
  | .slice (some a) n _ => nv ((List.range n).map fun i => wordOf (w.cell? (a.add i)))
  | _ => 0
theorem Rd.numAt {w : World} {A : Option Addr} {n cap : Nat} {xs : List Nat} (h : Rd w A n cap xs) : Go.Proofs.Ytmaconeeonkdgaa.numAt w (.slice A n cap) = nv xs := by
  have hlen := h.len
  cases A with
  | none =>
    have hn : n = 0 := by
      rcases Nat.eq_zero_or_pos n with h0 | h0
      · exact h0
      · obtain ⟨a, ha, _⟩ := h.rv.get 0 (by omega)
        cases ha
    have : xs = [] := List.eq_nil_of_length_eq_zero (by omega)
    subst this
    rfl
  | some a =>
    show nv _ = _
    congr 1
    apply List.ext_getElem
    · simp [hlen]
    · intro i h1 h2
      obtain ⟨a', x, ha, hx, hxb, hc⟩ := h.get (i := i) (by omega)
      cases ha
      have e : xs[i] = x := by
        have := hx.out
        simpa [List.getD_eq_getElem?_getD, List.getElem?_eq_getElem h2] using this
      simp [hc, wordOf, e]

theorem gcd_step (a b : Nat) : Nat.gcd a b = Nat.gcd b (a % b) := by
  rw [Nat.gcd_comm a b, Nat.gcd_rec b a, Nat.gcd_comm]

/-- a list of one word, made by the call -/
def OneP (w : World) (x : Nat) (e : Ending) (w' : World) : Prop :=
  ∃ g, e = .returned (.slice (some ⟨g, 0, none⟩) 1 1) ∧ w.heap.size ≤ g ∧ Bk w' g 47 ([x].map W64) ∧ x ≤ 18446744073709551615 ∧ Ext w w'
theorem divnat_words {x y : Nat} (hx : x ≤ 18446744073709551615) (hy : y ≤ 18446744073709551615) (w : World) :
    Calls Try.prog 94 #[.int .u64 (x : Int), .int .u64 (y : Int)] w (OneP w (Nat.gcd x y)) := by
  go_enter Try.func94, Try.ntmps94
  go_wp2_with fail
  go_loopw [0, 1] (fun u v wr => ∃ a b : Nat, u = .int .u64 (a : Int) ∧ v = .int .u64 (b : Int) ∧ a ≤ 18446744073709551615 ∧ b ≤ 18446744073709551615 ∧ Hid (Nat.gcd a b = Nat.gcd x y) ∧ Ext w wr) (fun u v wr => (intOf v).toNat)
  case atStart => exact ⟨x, y, rfl, rfl, hx, hy, rfl, Ext.refl w⟩
  case round =>
    obtain ⟨a, b, rfl, rfl, ha, hb, hg, hr⟩ := hrel
    by_cases h0 : b = 0
    · subst h0
      have b0 : ((0 : Int) != 0) = false := rfl
      go_wp2_with fail
      go_ret
      have e : Nat.gcd x y = a := by rw [← hg.out, Nat.gcd_zero_right]
      rw [e]
      exact ⟨wr.heap.size, rfl, hr.size, Bk.new wr 47 [.int .u64 (a : Int)], ha, hr.alloc _⟩
    · have b0 : ((b : Int) != 0) = true := by simp; omega
      have b1 : ((b : Int) == 0) = false := by simp; omega
      have h2 : ¬ (b : Int) ≤ 0 := by omega
      have h5 := Int.emod_nonneg (a : Int) (b := (b : Int)) (by omega)
      have h6 := Int.emod_lt_of_pos (a : Int) (b := (b : Int)) (by omega)
      have HM := Lib.hid (Nat.mod_lt a (show 0 < b by omega))
      go_wp2_with fail
      go_quiet (fail)
      go_wp2_with fail
      go_roundw
      case rel => exact ⟨b, a % b, rfl, val_int (by simp), hb, by have := HM.out; omega, (show _ = _ by rw [← hg.out, ← gcd_step]), hr.drewN _⟩
      case measure => have := HM.out; simp [intOf]; omega

set_option maxHeartbeats 2000000 in
theorem divnat_Gcd {w : World} {A B : Option Addr} {n cap n' cap' : Nat} {xs ys : List Nat} (hx : Rd w A n cap xs) (hl : n ≤ 274877906944) (hy : Rd w B n' cap' ys) (hl' : n' ≤ 274877906944) :
    Calls Try.prog 75 #[.slice A n cap, .slice B n' cap'] w (RetW w (Nat.gcd (nv xs) (nv ys))) := by
  go_enter Try.func75, Try.ntmps75
  go_wp2_with fail
  refine (nat_Least hx (by omega)).mono ?_
  rintro e w1 ⟨A1, n1, c1, rfl, hn1, hr1, ho1, hx1⟩
  have hn1b : n1 ≤ 274877906944 := by rw [hn1.out]; exact Nat.le_trans (by have := len_wd_nv hx.wf; rw [hx.len] at this; exact this) hl
  go_wp2_with fail
  refine (nat_Least (hy.ext hx1) (by omega)).mono ?_
  rintro e w2 ⟨A2, n2, c2, rfl, hn2, hr2, ho2, hx2⟩
  have hn2b : n2 ≤ 274877906944 := by rw [hn2.out]; exact Nat.le_trans (by have := len_wd_nv hy.wf; rw [hy.len] at this; exact this) hl'
  go_wp2_with fail
  go_loopw [5, 6] (fun u v wr => ∃ (A B : Option Addr) (n cap m cap' a b : Nat), u = .slice A n cap ∧ v = .slice B m cap' ∧ n ≤ 274877906944 ∧ m ≤ 274877906944 ∧ Hid (n = (wd a).length) ∧ Hid (m = (wd b).length) ∧ Rd wr A n cap (wd a) ∧ Own wr w.heap.size 47 1 A n cap ((wd a).map W64) ∧
    Rd wr B m cap' (wd b) ∧ Own wr w.heap.size 47 1 B m cap' ((wd b).map W64) ∧ Hid (Nat.gcd a b = Nat.gcd (nv xs) (nv ys)) ∧ Ext w wr) (fun u v wr => numAt wr v)
  case atStart => exact ⟨A1, A2, n1, c1, n2, c2, nv xs, nv ys, rfl, rfl, hn1b, hn2b, hn1, hn2, hr1.ext hx2, ho1.ext hx2, hr2, ho2.mono hx1.size, rfl, hx1.trans hx2⟩
  case round =>
    obtain ⟨A, B, n, cap, m, cap', a, b, rfl, rfl, hnb, hmb, hn, hm, hra, hoa, hrb, hob, hg, hr⟩ := hrel
    clear hr1 hr2 ho1 ho2 hx hy hn1 hn2
    by_cases hm0 : 0 < m
    · have hb0 : b ≠ 0 := fun h => by rw [hm.out, h] at hm0; simp [wd_zero] at hm0
      have HB := Lib.hid hb0
      clear hb0
      by_cases hcase : n = 1 ∧ m = 1
      · obtain ⟨rfl, rfl⟩ := hcase
        obtain ⟨p, x, rfl, hxk, hxb, hcx⟩ := hra.get (i := 0) (by omega)
        obtain ⟨q, y, rfl, hyk, hyb, hcy⟩ := hrb.get (i := 0) (by omega)
        have ea : Hid (a = x) := wd_len_one hn.out hxk.out
        have eb : Hid (b = y) := wd_len_one hm.out hyk.out
        have hcx0 : wr.cell? p = some (.int .u64 (x : Int)) := by simpa [Addr.add] using hcx
        have hcy0 : wr.cell? q = some (.int .u64 (y : Int)) := by simpa [Addr.add] using hcy
        clear hcx hcy
        go_wp2_with fail
        go_region_with (first
          | (go_at_call 94; refine (divnat_words hxb hyb _).mono ?_; rintro er w5 ⟨g5, rfl, hg5, hb5, hx5b, hx5⟩))
        all_goals
          go_wp2_with fail
          go_ret
          have h5 : Ext w w5 := hr.trans (Ext.trans (by repeat (first | exact Ext.refl _ | assumption | apply Ext.drewN | apply Ext.drew | apply Ext.alloc)) hx5)
          have hgs : wr.heap.size ≤ g5 := hg5
          have hne : Nat.gcd x y ≠ 0 := by
            have := Nat.gcd_pos_of_pos_right x (n := y) (Nat.pos_of_ne_zero (by rw [← eb.out]; exact HB.out))
            omega
          have e6 : Nat.gcd (nv xs) (nv ys) = Nat.gcd x y := by rw [← hg.out, ea.out, eb.out]
          rw [e6]
          exact RetW_mk (ys := [Nat.gcd x y]) (Nat.le_trans hr.size hgs) hb5 rfl (Nat.le_refl _) (by rw [len_maxLen]; omega) (by rw [wd_small (by rw [WB_def]; omega) hne]; rfl) h5
      · have hd : decide ((n : Int) = 1) = false ∨ decide ((m : Int) = 1) = false := by
          by_cases h : n = 1
          · right; simp; omega
          · left; simp; omega
        have key : ∀ (Q' R' : Option Addr) (nq cq nr cr : Nat) (w5 : World), Hid (nr = (wd (a % b)).length) → Rd w5 R' nr cr (wd (a % b)) → Own w5 wr.heap.size 47 1 R' nr cr ((wd (a % b)).map W64) → Ext wr w5 →
            (∃ (A B' : Option Addr) (n cap m' cap'' a b : Nat), Value.slice B m cap' = .slice A n cap ∧ Value.slice R' nr cr = .slice B' m' cap'' ∧ n ≤ 274877906944 ∧ m' ≤ 274877906944 ∧ Hid (n = (wd a).length) ∧ Hid (m' = (wd b).length) ∧ Rd w5 A n cap (wd a) ∧ Own w5 w.heap.size 47 1 A n cap ((wd a).map W64) ∧
              Rd w5 B' m' cap'' (wd b) ∧ Own w5 w.heap.size 47 1 B' m' cap'' ((wd b).map W64) ∧ Hid (Nat.gcd a b = Nat.gcd (nv xs) (nv ys)) ∧ Ext w w5) ∧ numAt w5 (.slice R' nr cr) < numAt wr (.slice B m cap') := by
          intro Q' R' nq cq nr cr w5 h1 h2 h3 h4
          have hmod : a % b < b := Nat.mod_lt a (Nat.pos_of_ne_zero HB.out)
          refine ⟨⟨B, R', m, cap', nr, cr, b, a % b, rfl, rfl, hmb, ?_, hm, h1, hrb.ext h4, hob.ext h4, h2, h3.mono hr.size, (show _ = _ by rw [← hg.out, ← gcd_step]), hr.trans h4⟩, ?_⟩
          · rw [h1.out]
            refine Nat.le_trans (len_wd_mono (Nat.le_of_lt hmod)) ?_
            rw [← hm.out]; exact hmb
          · rw [h2.numAt, hrb.numAt, nv_wd, nv_wd]; exact hmod
        have KEY := Lib.hid key
        clear key
        by_cases hn1' : n = 1
        · have hm1 : ((m : Int) == 1) = false := by
            have : ¬ m = 1 := fun h => hcase ⟨hn1', h⟩
            simp; omega
          have bn1 : ((n : Int) == 1) = true := by simp; omega
          clear hcase hd hn1'
          go_wp2_with fail
          refine (divnat_DivMod hra (by omega) hrb (by omega) (by rw [nv_wd]; exact HB.out)).mono ?_
          rintro e w5 ⟨Aq, nq, cq, Ar, nr, cr, rfl, hnq, hrq, hoq, hnr, hrr, hor, hx5⟩
          rw [nv_wd, nv_wd] at hnr hrr hor
          go_wp2_with fail
          go_roundw
          case rel => exact (KEY.out Aq Ar nq cq nr cr w5 hnr hrr hor hx5).1
          case measure => exact (KEY.out Aq Ar nq cq nr cr w5 hnr hrr hor hx5).2
        · have bn1 : ((n : Int) == 1) = false := by simp; omega
          clear hcase hd hn1'
          go_wp2_with fail
          refine (divnat_DivMod hra (by omega) hrb (by omega) (by rw [nv_wd]; exact HB.out)).mono ?_
          rintro e w5 ⟨Aq, nq, cq, Ar, nr, cr, rfl, hnq, hrq, hoq, hnr, hrr, hor, hx5⟩
          rw [nv_wd, nv_wd] at hnr hrr hor
          go_wp2_with fail
          go_roundw
          case rel => exact (KEY.out Aq Ar nq cq nr cr w5 hnr hrr hor hx5).1
          case measure => exact (KEY.out Aq Ar nq cq nr cr w5 hnr hrr hor hx5).2
    · have hb0 : b = 0 := len_wd_zero.1 (by rw [← hm.out]; omega)
      have e : Nat.gcd (nv xs) (nv ys) = a := by rw [← hg.out, hb0, Nat.gcd_zero_right]
      have HE := Lib.hid e
      clear e hb0
      go_wp2_with fail
      go_ret
      rw [HE.out]
      exact ⟨A, n, cap, rfl, hn, hra, hoa, hr⟩
end Go.Proofs.Ytmaconeeonkdgaa
