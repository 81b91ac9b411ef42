/- Contracts of package mulnat: its pieces in place. -/
import Derived.Test.YtmaconeeonkdgaaRadix
import Derived.Test.YtmaconeeonkdgaaNatB
namespace Go.Proofs.Ytmaconeeonkdgaa
open Go.RowKit

def TrimW (A : Option Addr) (xs : List Nat) (w : World) (e : Ending) (w' : World) : Prop :=
  ∃ k : Nat, Hid (k = (wd (nv xs)).length) ∧ e = .returned (.slice A k k) ∧ Rd w A k k (wd (nv xs)) ∧ w = w'

theorem mul_trim {w : World} {A : Option Addr} {n cap : Nat} {xs : List Nat} (hx : Rd w A n cap xs) (hl : n ≤ 1099511627776) :
    Calls Try.prog 100 #[.slice A n cap] w (TrimW A xs w) := by
  have hlen := Lib.hid hx.len
  have hcap := hx.rv.le
  have hmax := hx.rv.max
  rw [len_maxLen] at hmax
  have fin : ∀ k, k ≤ n → k = (wd (nv xs)).length → TrimW A xs w (.returned (.slice A k k)) w := by
    intro k hk h
    have h2 := hx.take hk (Nat.le_refl _) (by omega)
    rw [← wd_take_len hx.wf h] at h2
    exact ⟨k, h, rfl, h2, rfl⟩
  have FIN := Lib.hid fin
  clear fin
  go_enter Try.func100, Try.ntmps100
  go_wp2_with fail
  go_loop [3] (fun u => ∃ k : Nat, k ≤ n ∧ u = .int .i64 (k : Int) ∧ Hid (nv (xs.take k) = nv xs)) (fun u => (intOf u).toNat)
  case atStart => exact ⟨n, Nat.le_refl _, rfl, (show _ = _ by rw [← hlen.out, List.take_length])⟩
  case round =>
    obtain ⟨k, hk, rfl, HV⟩ := hrel
    by_cases h0 : 0 < k
    · obtain ⟨a, x, rfl, hxk, hxb, hc⟩ := hx.get (i := k - 1) (by omega)
      by_cases hz : x = 0
      · subst hz
        go_wp2_with fail
        go_round
        case rel =>
          refine ⟨k - 1, by omega, val_int (by omega), ?_⟩
          show _ = _
          rw [← HV.out, ← nv_take_zero xs (k - 1) (by rw [hlen.out]; omega) hxk.out, Nat.sub_add_cancel h0]
        case measure => simp [intOf]; omega
      · have hzb : ((x : Int) == 0) = false := by simp; omega
        have hk0 : ¬ k = 0 := by omega
        go_wp2_with fail
        go_ret
        have := wd_take (k := k) hx.wf (by rw [hlen.out]; exact hk) HV.out (Or.inr (by rw [hxk.out]; exact hz))
        exact FIN.out k hk (by rw [this, List.length_take, hlen.out]; omega)
    · obtain rfl : k = 0 := by omega
      go_wp2_with fail
      go_ret
      have := wd_take (k := 0) hx.wf (Nat.zero_le _) HV.out (Or.inl rfl)
      exact FIN.out 0 hk (by rw [this, List.length_take, hlen.out]; omega)

/-- what addTo leaves: block g, from place o to its end, is ys more -/
def AddP (g : Nat) (zs : List Nat) (v : Nat) (w : World) (e : Ending) (w' : World) : Prop :=
  ∃ zs', e = .returned (.tuple #[]) ∧ Bk w' g 47 (zs'.map W64) ∧ Wf zs' ∧ Hid (zs'.length = zs.length) ∧ Hid (nv zs' = v) ∧ Upd g w w'

theorem addto_step {l ys : List Nat} {o i c z y s d V : Nat} (hi : o + i < l.length) (h : nv l + WB ^ (o + i) * c = V + WB ^ o * nv (ys.take i)) (hz : l.getD (o + i) 0 = z) (hy : i < ys.length) (hyk : ys.getD i 0 = y)
    (hs : s + WB * d = z + y + c) : nv (l.set (o + i) s) + WB ^ (o + i + 1) * d = V + WB ^ o * nv (ys.take (i + 1)) := by
  have e1 := nv_set hi s
  rw [hz] at e1
  rw [nv_take_snoc ys i hy, hyk, Nat.mul_add, ← Nat.mul_assoc (WB ^ o), ← Nat.pow_add, Nat.pow_succ, Nat.mul_assoc]
  have e2 : WB ^ (o + i) * (s + WB * d) = WB ^ (o + i) * (z + y + c) := by rw [hs]
  simp only [Nat.mul_add] at e2
  omega
theorem addto_step2 {l : List Nat} {k c z s d V : Nat} (hi : k < l.length) (h : nv l + WB ^ k * c = V) (hz : l.getD k 0 = z)
    (hs : s + WB * d = z + c) : nv (l.set k s) + WB ^ (k + 1) * d = V := by
  have e1 := nv_set hi s
  rw [hz] at e1
  rw [Nat.pow_succ, Nat.mul_assoc]
  have e2 : WB ^ k * (s + WB * d) = WB ^ k * (z + c) := by rw [hs]
  simp only [Nat.mul_add] at e2
  omega
theorem mul_addTo {w : World} {g o n cap : Nat} {B : Option Addr} {m cap' : Nat} {zs ys : List Nat} (hz : Bk w g 47 (zs.map W64)) (hwz : Wf zs) (hzl : zs.length = o + n) (hy : Rd w B m cap' ys) (hne : ∀ a, B = some a → 0 < m → a.block ≠ g)
    (hmn : m ≤ n) (hn : n ≤ 1099511627776) (_ho : o ≤ 1099511627776) (hv : nv zs + WB ^ o * nv ys < WB ^ (o + n)) :
    Calls Try.prog 102 #[.slice (some ⟨g, o, none⟩) n cap, .slice B m cap'] w (AddP g zs (nv zs + WB ^ o * nv ys) w) := by
  have hly := Lib.hid hy.len
  have hlz := Lib.hid hzl
  have HV := Lib.hid hv
  clear hzl hv
  go_enter Try.func102, Try.ntmps102
  go_wp2_with fail
  go_loopw [9, 4] (fun u v wr => ∃ (i c : Nat) (l : List Nat), i ≤ m ∧ c ≤ 1 ∧ u = .int .i64 (i : Int) ∧ v = .int .u64 (c : Int) ∧ Hid (l.length = o + n) ∧ Wf l ∧ Bk wr g 47 (l.map W64) ∧
    Hid (nv l + WB ^ (o + i) * c = nv zs + WB ^ o * nv (ys.take i)) ∧ Upd g w wr) (fun u v wr => m - (intOf u).toNat)
  case atStart => exact ⟨0, 0, zs, Nat.zero_le _, Nat.zero_le _, rfl, rfl, hlz.out, hwz, hz, by simp [Hid, nv], Upd.refl _ _⟩
  case round =>
    obtain ⟨i, c, l, hi, hc, rfl, rfl, hll, hwl, hb, hv, hr⟩ := hrel
    by_cases him : i < m
    · obtain ⟨a, y, rfl, hyk, hyb, hcy⟩ := (hy.upd hr (fun a ha => hne a ha (by omega))).get (i := i) (by omega)
      obtain ⟨z, hzk, hzb, hcz⟩ := hb.word hwl (i := o + i) (by rw [hll.out]; omega)
      have hfr := hb.frozen (o + i)
      obtain ⟨s, d, hs, hsb, hd, hadd⟩ := add64_run hc hzb hyb
      go_wp2_with fail
      go_region
      go_wp2_with fail
      go_roundw
      case rel => exact ⟨i + 1, d, l.set (o + i) s, by omega, hd, by go_num, rfl, by show _ = _; rw [List.length_set]; exact hll.out, Wf_set hwl _ (by rw [WB_def]; omega), by rw [← map_W64_set]; exact (hb.set _ _).drew,
        addto_step (by rw [hll.out]; omega) hv.out hzk.out (by rw [hly.out]; omega) hyk.out hs.out, (hr.setCell _ _).drew⟩
      case measure => simp [intOf]; omega
    · obtain rfl : i = m := by omega
      have hv1 : Hid (nv l + WB ^ (o + i) * c = nv zs + WB ^ o * nv ys) := by
        show _ = _
        rw [hv.out, List.take_of_length_le (by rw [hly.out]; omega)]
      clear hv
      go_wp2_with fail
      obtain ⟨wo, rfl⟩ : ∃ wo : World, wo = wr := ⟨_, rfl⟩
      go_loopw [6, 4] (fun u v wr => ∃ (j c : Nat) (l : List Nat), i ≤ j ∧ j ≤ n ∧ c ≤ 1 ∧ u = .int .i64 (j : Int) ∧ v = .int .u64 (c : Int) ∧ Hid (l.length = o + n) ∧ Wf l ∧ Bk wr g 47 (l.map W64) ∧
        Hid (nv l + WB ^ (o + j) * c = nv zs + WB ^ o * nv ys) ∧ Upd g w wr) (fun u v wr => n - (intOf u).toNat)
      case atStart => exact ⟨i, c, l, Nat.le_refl _, hmn, hc, rfl, rfl, hll.out, hwl, hb, hv1.out, hr⟩
      case round =>
        obtain ⟨j, c2, l2, hij, hjn, hc2, rfl, rfl, hl2, hw2, hb2, hv2, hr2⟩ := hrel
        clear hll hwl hb hv1 hr
        by_cases hc0 : c2 = 0
        · subst hc0
          have b0 : ((0 : Int) != 0) = false := rfl
          go_wp2_with fail
          go_end0
          have h := hv2.out
          rw [Nat.mul_zero, Nat.add_zero] at h
          exact ⟨l2, rfl, hb2, hw2, (show _ = _ by rw [hl2.out, hlz.out]), h, hr2⟩
        · obtain rfl : c2 = 1 := by omega
          have hjn' : j < n := by
            refine Nat.lt_of_not_le (fun hle => ?_)
            obtain rfl : j = n := by omega
            have h := hv2.out
            have := HV.out
            rw [Nat.mul_one] at h
            omega
          obtain ⟨z, hzk, hzb, hcz⟩ := hb2.word hw2 (i := o + j) (by rw [hl2.out]; omega)
          have hfr := hb2.frozen (o + j)
          obtain ⟨s, d, hs, hsb, hd, hadd⟩ := add64_runz1 hzb
          have b1 : ((1 : Int) != 0) = true := rfl
          go_wp2_with fail
          go_roundw
          case rel => exact ⟨j + 1, d, l2.set (o + j) s, by omega, by omega, hd, by go_num, rfl, by show _ = _; rw [List.length_set]; exact hl2.out, Wf_set hw2 _ (by rw [WB_def]; omega), by rw [← map_W64_set]; exact (hb2.set _ _),
            addto_step2 (by rw [hl2.out]; omega) hv2.out hzk.out hs.out, (hr2.setCell _ _)⟩
          case measure => simp [intOf]; omega
end Go.Proofs.Ytmaconeeonkdgaa
