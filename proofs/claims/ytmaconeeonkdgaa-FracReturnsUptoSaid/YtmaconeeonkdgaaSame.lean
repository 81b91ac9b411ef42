/- trellisref01.Same: are two lists alike, word by word -/
import Derived.Test.YtmaconeeonkdgaaNatB
namespace Go.Proofs.Ytmaconeeonkdgaa
open Go.RowKit

def BoolP (b : Bool) (w : World) (e : Ending) (w' : World) : Prop := e = .returned (.bool b) ∧ Ext w w'
theorem ref1_Same {w : World} {A B : Option Addr} {n cap n' cap' : Nat} {xs ys : List Nat} (hx : Rd w A n cap xs) (hl : n ≤ 1099511627776) (hy : Rd w B n' cap' ys) (hl' : n' ≤ 1099511627776) :
    Calls Try.prog 58 #[.slice A n cap, .slice B n' cap'] w (BoolP (decide (xs = ys)) w) := by
  have hlx := Lib.hid hx.len
  have hly := Lib.hid hy.len
  by_cases hn : n = n'
  · subst hn
    have h1 : ((n : Int) != (n : Int)) = false := by simp
    go_enter Try.func58, Try.ntmps58
    go_wp2_with fail
    go_loopw [5] (fun u wr => ∃ i : Nat, i ≤ n ∧ u = .int .i64 (i : Int) ∧ Hid (xs.take i = ys.take i) ∧ Ext w wr) (fun u wr => n - (intOf u).toNat)
    case atStart => exact ⟨0, Nat.zero_le _, rfl, rfl, Ext.refl w⟩
    case round =>
      obtain ⟨i, hi, rfl, hv, hext⟩ := hrel
      by_cases h0 : i < n
      · obtain ⟨a, p, rfl, hxk, hxb, hc⟩ := (hx.ext hext).get (i := i) (by omega)
        obtain ⟨b, q, rfl, hyk, hyb, hd⟩ := (hy.ext hext).get (i := i) (by omega)
        by_cases hpq : p = q
        · subst hpq
          have h2 : ((p : Int) != (p : Int)) = false := by simp
          go_wp2_with fail
          go_quiet (fail)
          go_wp2_with fail
          go_roundw
          case rel =>
            refine ⟨i + 1, by omega, by go_num, ?_, (by repeat (first | exact Ext.refl _ | assumption | apply Ext.drewN | apply Ext.drew | apply Ext.alloc))⟩
            show _ = _
            rw [take_snoc xs i (by rw [hlx.out]; omega) 0, take_snoc ys i (by rw [hly.out]; omega) 0, hv.out, hxk.out, hyk.out]
          case measure => simp [intOf]; omega
        · have h2 : ((p : Int) != (q : Int)) = true := by simp; omega
          go_wp2_with fail
          go_quiet (fail)
          go_wp2_with fail
          go_ret
          have hne : decide (xs = ys) = false := by
            refine decide_eq_false (fun e => hpq ?_)
            rw [← hxk.out, ← hyk.out, e]
          rw [hne]
          exact ⟨rfl, (by repeat (first | exact Ext.refl _ | assumption | apply Ext.drewN | apply Ext.drew | apply Ext.alloc))⟩
      · go_wp2_with fail
        go_ret
        have he : decide (xs = ys) = true := by
          refine decide_eq_true ?_
          have h := hv.out
          rwa [List.take_of_length_le (by rw [hlx.out]; omega), List.take_of_length_le (by rw [hly.out]; omega)] at h
        rw [he]
        exact ⟨rfl, hext⟩
  · have h1 : ((n : Int) != (n' : Int)) = true := by simp; omega
    go_enter Try.func58, Try.ntmps58
    go_wp2_with fail
    go_ret
    have hne : decide (xs = ys) = false := decide_eq_false (fun e => hn (by rw [← hlx.out, ← hly.out, e]))
    rw [hne]
    exact ⟨rfl, Ext.refl w⟩
end Go.Proofs.Ytmaconeeonkdgaa
