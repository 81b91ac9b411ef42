/- lists of integers that are handed in; trellislaw08.fit -/
import Derived.Test.YtmaconeeonkdgaaLaw8b
import Derived.Test.YtmaconeeonkdgaaCont
namespace Go.Proofs.Ytmaconeeonkdgaa
open Go.RowKit

/-- a slice of integers: what they are, and how many words each has -/
structure Zl (w : World) (A : Option Addr) (n cap : Nat) (zs : List Int) (ms : List Nat) : Prop where
  len : zs.length = n
  mlen : ms.length = n
  le : n ≤ cap
  max : cap ≤ maxLen
  get : ∀ i, i < n → ∃ a s B c, A = some a ∧ w.cell? (a.add (i * 2)) = some (.bool s) ∧ w.cell? (a.add (i * 2 + 1)) = some (.slice B (ms.getD i 0) c) ∧ Zi w s B (ms.getD i 0) c (zs.getD i 0)
theorem Zl.ext {w w' : World} {A : Option Addr} {n cap : Nat} {zs : List Int} {ms : List Nat} (h : Zl w A n cap zs ms) (e : Ext w w') : Zl w' A n cap zs ms :=
  ⟨h.len, h.mlen, h.le, h.max, fun i hi => by
    obtain ⟨a, s, B, c, h1, h2, h3, h4⟩ := h.get i hi
    exact ⟨a, s, B, c, h1, e.cell h2, e.cell h3, h4.ext e⟩⟩
theorem Zl.take {w : World} {A : Option Addr} {n cap k : Nat} {zs : List Int} {ms : List Nat} (h : Zl w A n cap zs ms) (hk : k ≤ n) : Zl w A k cap (zs.take k) (ms.take k) :=
  ⟨by rw [List.length_take, h.len]; omega, by rw [List.length_take, h.mlen]; omega, Nat.le_trans hk h.le, h.max, fun i hi => by
    obtain ⟨a, s, B, c, h1, h2, h3, h4⟩ := h.get i (by omega)
    have e1 : (ms.take k).getD i 0 = ms.getD i 0 := by simp [List.getD_eq_getElem?_getD, List.getElem?_take, hi]
    have e2 : (zs.take k).getD i 0 = zs.getD i 0 := by simp [List.getD_eq_getElem?_getD, List.getElem?_take, hi]
    rw [e1, e2]
    exact ⟨a, s, B, c, h1, h2, h3, h4⟩⟩
theorem getD_le_sum : ∀ (ms : List Nat) (i : Nat), ms.getD i 0 ≤ ms.sum
  | [], i => by simp
  | m :: r, 0 => by simp
  | m :: r, i + 1 => by
    have := getD_le_sum r i
    simp only [List.getD_cons_succ, List.sum_cons]
    omega
/-- a list that a continued fraction may be: all behind the first lie above 0 -/
def Fit (zs : List Int) : Prop := zs ≠ [] ∧ ∀ i, 1 ≤ i → i < zs.length → 0 < zs.getD i 0
set_option maxHeartbeats 1000000 in
theorem law_fit {w : World} {A : Option Addr} {n cap : Nat} {zs : List Int} {ms : List Nat} (h : Zl w A n cap zs ms) (hl : n ≤ 1048576) (hs : ms.sum ≤ 1048576) {b : Bool} (hb : b = true ↔ Fit zs) :
    Calls Try.prog 12 #[.slice A n cap] w (BoolP b w) := by
  have HB := Lib.hid hb
  have hlen := Lib.hid h.len
  clear hb
  go_enter Try.func12, Try.ntmps12
  go_upto_region 2 with (fail)
  go_loopw [3] (fun u wr => ∃ i : Nat, 1 ≤ i ∧ (n = 0 ∨ i ≤ n) ∧ u = .int .i64 (i : Int) ∧ Hid (∀ j, 1 ≤ j → j < i → j < n → 0 < zs.getD j 0) ∧ Ext w wr) (fun u wr => n + 1 - (intOf u).toNat)
  case atStart => exact ⟨1, Nat.le_refl _, by omega, rfl, (fun j h1 h2 _ => by omega), Ext.refl _⟩
  case round =>
    obtain ⟨i, hi1, hin, rfl, hall, hr⟩ := hrel
    by_cases hlt : i < n
    · obtain ⟨a, s, B, c, rfl, hc0, hc1, hz⟩ := (h.ext hr).get i hlt
      obtain ⟨m, hm⟩ : ∃ m, ms.getD i 0 = m := ⟨_, rfl⟩
      have hmb := getD_le_sum ms i
      rw [hm] at hc1 hz hmb
      clear hm
      have hq1 : wr.cell? ⟨(a.add (i * 2)).block, (a.add (i * 2)).off + 1, none⟩ = some (.slice B m c) := by
        have e : (a.add (i * 2)).add 1 = ⟨(a.add (i * 2)).block, (a.add (i * 2)).off + 1, none⟩ := rfl
        rw [← e, add_of_add]; exact hc1
      go_upto_region 4 with (fail)
      go_wp2_with fail
      refine (zint_Sign hz (by omega)).mono ?_
      rintro e w2 ⟨d, hd, hdl, hdh, rfl, hx2⟩
      by_cases hd1 : d < 1
      · have hzn : ¬ 0 < zs.getD i 0 := fun hp => by
          have h1 := scmp_pos.2 hp
          rw [← hd.out] at h1
          omega
        have hbf : b = false := by
          cases b with
          | false => rfl
          | true => exact absurd ((HB.out.1 rfl).2 i hi1 (by rw [hlen.out]; exact hlt)) hzn
        subst hbf
        clear hzn HB
        go_wp2_with fail
        go_ret
        exact ⟨rfl, hr.trans hx2⟩
      · have hzp : 0 < zs.getD i 0 := scmp_pos.1 (by rw [← hd.out]; omega)
        have HZ := Lib.hid hzp
        clear hzp hd
        go_wp2_with fail
        go_roundw
        case rel =>
          refine ⟨i + 1, by omega, by omega, rfl, ?_, hr.trans hx2⟩
          intro j h1 h2 h3
          by_cases hj : j = i
          · rw [hj]; exact HZ.out
          · exact hall.out j h1 (by omega) h3
        case measure => simp [intOf]; omega
    · by_cases hn0 : n = 0
      · have hbf : b = false := by
          cases b with
          | false => rfl
          | true => exact absurd (List.eq_nil_of_length_eq_zero (by rw [hlen.out, hn0])) (HB.out.1 rfl).1
        subst hbf
        subst hn0
        clear HB
        go_wp2_with fail
        go_ret
        exact ⟨rfl, hr⟩
      · have hbt : b = true := HB.out.2 ⟨fun e => hn0 (by rw [← hlen.out, e]; rfl), fun j h1 h2 => hall.out j h1 (by rw [hlen.out] at h2; omega) (by rw [hlen.out] at h2; exact h2)⟩
        subst hbt
        have hnp : 0 < n := by omega
        have hni : 0 < (n : Int) := by omega
        clear HB
        go_wp2_with fail
        go_ret
        exact ⟨rfl, hr⟩
end Go.Proofs.Ytmaconeeonkdgaa
