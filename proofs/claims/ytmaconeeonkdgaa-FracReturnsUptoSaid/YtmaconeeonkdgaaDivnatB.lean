/- Contracts of package divnat: take, give, guess. -/
import Derived.Test.YtmaconeeonkdgaaDivnat
import Derived.WalkMore
namespace Go.Proofs.Ytmaconeeonkdgaa
open Go.RowKit

/-- the block after give or take: all from place K on stayed -/
def GiveP (g : Nat) (zs : List Nat) (K : Nat) (P : Nat → Nat → Prop) (w w' : World) : Prop :=
  ∃ zs' c, Bk w' g 47 (zs'.map W64) ∧ Wf zs' ∧ Hid (zs'.length = zs.length) ∧ Hid (zs'.drop K = zs.drop K) ∧ c ≤ 1 ∧ Hid (P (nv zs') c) ∧ Upd g w w'
theorem drop_set_lt {l : List Nat} {i K : Nat} (h : i < K) (x : Nat) : (l.set i x).drop K = l.drop K := by rw [List.drop_set_of_lt h]

set_option maxHeartbeats 1000000 in
theorem divnat_give {w : World} {g o cap : Nat} {B : Option Addr} {m cap' : Nat} {zs ys : List Nat} (hz : Bk w g 47 (zs.map W64)) (hwz : Wf zs) (hy : Rd w B m cap' ys) (hne : ∀ a, B = some a → a.block ≠ g)
    (hK : o + m + 1 ≤ zs.length) (hm : m ≤ 1099511627776) (_ho : o ≤ 1099511627776) :
    Calls Try.prog 120 #[.slice (some ⟨g, o, none⟩) (m + 1) cap, .slice B m cap'] w (fun e w' => e = .returned (.tuple #[]) ∧ GiveP g zs (o + m + 1) (fun v c => v + WB ^ (o + m + 1) * c = nv zs + WB ^ o * nv ys) w w') := by
  have hly := Lib.hid hy.len
  have HK := Lib.hid hK
  clear hK
  go_enter Try.func120, Try.ntmps120
  go_wp2_with fail
  go_loopw [8, 4] (fun u v wr => ∃ (i c : Nat) (l : List Nat), i ≤ m ∧ c ≤ 1 ∧ u = .int .i64 (i : Int) ∧ v = .int .u64 (c : Int) ∧ Hid (l.length = zs.length) ∧ Wf l ∧ Bk wr g 47 (l.map W64) ∧ Hid (l.drop (o + m + 1) = zs.drop (o + m + 1)) ∧
    Hid (nv l + WB ^ (o + i) * c = nv zs + WB ^ o * nv (ys.take i)) ∧ Upd g w wr) (fun u v wr => m - (intOf u).toNat)
  case atStart => exact ⟨0, 0, zs, Nat.zero_le _, Nat.zero_le _, rfl, rfl, rfl, hwz, hz, rfl, by simp [Hid, nv], Upd.refl _ _⟩
  case round =>
    obtain ⟨i, c, l, hi, hc, rfl, rfl, hll, hwl, hb, hdr, hv, hr⟩ := hrel
    by_cases him : i < m
    · obtain ⟨a, y, rfl, hyk, hyb, hcy⟩ := (hy.upd hr hne).get (i := i) (by omega)
      obtain ⟨z, hzk, hzb, hcz⟩ := hb.word hwl (i := o + i) (by rw [hll.out]; have := HK.out; omega)
      have hfr := hb.frozen (o + i)
      obtain ⟨s, d, hs, hsb, hd, hadd⟩ := add64_run hc hzb hyb
      go_wp2_with fail
      go_region
      go_wp2_with fail
      go_roundw
      case rel => exact ⟨i + 1, d, l.set (o + i) s, by omega, hd, by go_num, rfl, by show _ = _; rw [List.length_set]; exact hll.out, Wf_set hwl _ (by rw [WB_def]; omega), by rw [← map_W64_set]; exact (hb.set _ _).drew,
        (show _ = _ by rw [drop_set_lt (by omega)]; exact hdr.out), addto_step (by rw [hll.out]; have := HK.out; omega) hv.out hzk.out (by rw [hly.out]; omega) hyk.out hs.out, (hr.setCell _ _).drew⟩
      case measure => simp [intOf]; omega
    · obtain rfl : i = m := by omega
      obtain ⟨z, hzk, hzb, hcz⟩ := hb.word hwl (i := o + i) (by rw [hll.out]; have := HK.out; omega)
      have hfr := hb.frozen (o + i)
      go_wp2_with ((with_reducible refine at_slot (some 34) ?_); refine wpl_u64 rfl rfl rfl rfl rfl u64_add (by omega) ?_; intro s hs hsb)
      go_end0
      refine ⟨rfl, l.set (o + i) s, (z + c) / 18446744073709551616, by rw [← map_W64_set]; exact hb.set _ _, Wf_set hwl _ (by rw [WB_def]; omega), (show _ = _ by rw [List.length_set]; exact hll.out), (show _ = _ by rw [drop_set_lt (by omega)]; exact hdr.out), by omega, ?_, hr.setCell _ _⟩
      have h := addto_step2 (k := o + i) (c := c) (s := s) (d := (z + c) / 18446744073709551616) (by rw [hll.out]; have := HK.out; omega) hv.out hzk.out (by rw [hs.out, WB_def]; exact Nat.mod_add_div _ _)
      rwa [List.take_of_length_le (by rw [hly.out]; exact Nat.le_refl _)] at h

theorem take_step {l ys : List Nat} {o i c t z y s u d hi lo lo2 cc V : Nat} (hi2 : o + i < l.length) (h : nv l + WB ^ o * (d * nv (ys.take i)) = V + WB ^ (o + i) * (c + t)) (hz : l.getD (o + i) 0 = z) (hy : i < ys.length) (hyk : ys.getD i 0 = y)
    (hp : lo + WB * hi = d * y) (ha : lo2 + WB * cc = lo + c) (hs : s + lo2 + t = z + WB * u) : nv (l.set (o + i) s) + WB ^ o * (d * nv (ys.take (i + 1))) = V + WB ^ (o + i + 1) * ((hi + cc) + u) := by
  have e1 := nv_set hi2 s
  rw [hz] at e1
  rw [nv_take_snoc ys i hy, hyk, Nat.mul_add d, Nat.mul_add (WB ^ o), show WB ^ o * (d * (WB ^ i * y)) = WB ^ (o + i) * (d * y) from by rw [Nat.pow_add, Nat.mul_left_comm d, ← Nat.mul_assoc (WB ^ o)], Nat.pow_succ, Nat.mul_assoc (WB ^ (o + i)), ← hp]
  have e2 : WB ^ (o + i) * (s + lo2 + t) = WB ^ (o + i) * (z + WB * u) := by rw [hs]
  have e3 : WB ^ (o + i) * (lo2 + WB * cc) = WB ^ (o + i) * (lo + c) := by rw [ha]
  simp only [Nat.mul_add] at e2 e3 h ⊢
  omega
theorem take_step2 {l : List Nat} {k c t z s u A V : Nat} (hi2 : k < l.length) (h : nv l + A = V + WB ^ k * (c + t)) (hz : l.getD k 0 = z) (hs : s + c + t = z + WB * u) :
    nv (l.set k s) + A = V + WB ^ (k + 1) * u := by
  have e1 := nv_set hi2 s
  rw [hz] at e1
  rw [Nat.pow_succ, Nat.mul_assoc]
  have e2 : WB ^ k * (s + c + t) = WB ^ k * (z + WB * u) := by rw [hs]
  simp only [Nat.mul_add] at e2 h ⊢
  omega
theorem take_carry {hi lo c lo2 cc d y : Nat} (hd : d ≤ 18446744073709551615) (hy : y ≤ 18446744073709551615) (hc : c ≤ 18446744073709551615) (hp : lo + WB * hi = d * y) (ha : lo2 + WB * cc = lo + c) : hi + cc ≤ 18446744073709551615 := by
  have h1 : d * y ≤ 18446744073709551615 * 18446744073709551615 := Nat.mul_le_mul hd hy
  rw [WB_def] at hp ha
  omega
set_option maxHeartbeats 2000000 in
theorem divnat_take {w : World} {g o cap : Nat} {B : Option Addr} {m cap' : Nat} {zs ys : List Nat} (hz : Bk w g 47 (zs.map W64)) (hwz : Wf zs) (hy : Rd w B m cap' ys) (hne : ∀ a, B = some a → a.block ≠ g)
    (hK : o + m + 1 ≤ zs.length) (hm : m ≤ 1099511627776) (_ho : o ≤ 1099511627776) {d : Nat} (hd : d ≤ 18446744073709551615) :
    Calls Try.prog 119 #[.slice (some ⟨g, o, none⟩) (m + 1) cap, .slice B m cap', .int .u64 (d : Int)] w (fun e w' => ∃ b : Bool, e = .returned (.bool b) ∧ GiveP g zs (o + m + 1) (fun v c => (b = true ↔ c = 1) ∧ v + WB ^ o * (d * nv ys) = nv zs + WB ^ (o + m + 1) * c) w w') := by
  have hly := Lib.hid hy.len
  have HK := Lib.hid hK
  clear hK
  go_enter Try.func119, Try.ntmps119
  go_wp2_with fail
  go_loopw [16, 7, 8] (fun u v x wr => ∃ (i c t : Nat) (l : List Nat), i ≤ m ∧ c ≤ 18446744073709551615 ∧ t ≤ 1 ∧ u = .int .i64 (i : Int) ∧ v = .int .u64 (c : Int) ∧ x = .int .u64 (t : Int) ∧ Hid (l.length = zs.length) ∧ Wf l ∧ Bk wr g 47 (l.map W64) ∧ Hid (l.drop (o + m + 1) = zs.drop (o + m + 1)) ∧
    Hid (nv l + WB ^ o * (d * nv (ys.take i)) = nv zs + WB ^ (o + i) * (c + t)) ∧ Upd g w wr) (fun u v x wr => m - (intOf u).toNat)
  case atStart => exact ⟨0, 0, 0, zs, Nat.zero_le _, Nat.zero_le _, Nat.zero_le _, rfl, rfl, rfl, rfl, hwz, hz, rfl, by simp [Hid, nv], Upd.refl _ _⟩
  case round =>
    obtain ⟨i, c, t, l, hi, hc, ht, rfl, rfl, rfl, hll, hwl, hb, hdr, hv, hr⟩ := hrel
    by_cases him : i < m
    · obtain ⟨a, y, rfl, hyk, hyb, hcy⟩ := (hy.upd hr hne).get (i := i) (by omega)
      obtain ⟨z, hzk, hzb, hcz⟩ := hb.word hwl (i := o + i) (by rw [hll.out]; have := HK.out; omega)
      have hfr := hb.frozen (o + i)
      go_wp2_with fail
      refine (bits_Mul64 d y hd hyb _).mono ?_
      rintro e w1 ⟨hi', lo, hp, hhb, hlb, rfl, rfl⟩
      obtain ⟨lo2, cc, hlo2, hlo2b, hccb, hadd⟩ := add64_run0 hlb hc
      obtain ⟨s, u, hs, hsb, hu, hsub⟩ := sub64_run ht hzb hlo2b
      have hcar : (hi' : Int) + (cc : Int) ≤ 18446744073709551615 := by have := take_carry hd hyb hc hp.out hlo2.out; omega
      go_wp2_with fail
      go_roundw
      case rel => exact ⟨i + 1, hi' + cc, u, l.set (o + i) s, by omega, by omega, hu, by go_num, by go_num, rfl, by show _ = _; rw [List.length_set]; exact hll.out, Wf_set hwl _ (by rw [WB_def]; omega), by rw [← map_W64_set]; exact (hb.set _ _),
        (show _ = _ by rw [drop_set_lt (by omega)]; exact hdr.out), take_step (by rw [hll.out]; have := HK.out; omega) hv.out hzk.out (by rw [hly.out]; omega) hyk.out hp.out hlo2.out hs.out, (hr.setCell _ _)⟩
      case measure => simp [intOf]; omega
    · obtain rfl : i = m := by omega
      obtain ⟨z, hzk, hzb, hcz⟩ := hb.word hwl (i := o + i) (by rw [hll.out]; have := HK.out; omega)
      have hfr := hb.frozen (o + i)
      obtain ⟨s, u, hs, hsb, hu, hsub⟩ := sub64_run ht hzb hc
      have hfin := take_step2 (k := o + i) (by rw [hll.out]; have := HK.out; omega) hv.out hzk.out hs.out
      rw [List.take_of_length_le (by rw [hly.out]; exact Nat.le_refl _)] at hfin
      have HFIN := Lib.hid hfin
      clear hfin
      go_wp2_with fail
      go_ret
      refine ⟨_, rfl, l.set (o + i) s, u, by rw [← map_W64_set]; exact hb.set _ _, Wf_set hwl _ (by rw [WB_def]; omega), (show _ = _ by rw [List.length_set]; exact hll.out), (show _ = _ by rw [drop_set_lt (by omega)]; exact hdr.out), hu, ⟨?_, HFIN.out⟩, hr.setCell _ _⟩
      simp
      omega

def GuessP (u2 u1 u0 v1 v0 : Nat) (w : World) (e : Ending) (w' : World) : Prop :=
  ∃ d : Nat, e = .returned (.int .u64 (d : Int)) ∧ d ≤ 18446744073709551615 ∧ Hid (d * (v1 * WB + v0) ≤ (u2 * WB + u1) * WB + u0) ∧ Hid (d = 18446744073709551615 ∨ (u2 * WB + u1) * WB + u0 < (d + 1) * (v1 * WB + v0)) ∧ ∃ m, w' = w.drewN m
theorem guess_only {d D T V : Nat} (h1 : d ≤ 18446744073709551615) (h2 : d * V ≤ T) (h3 : d = 18446744073709551615 ∨ T < (d + 1) * V) (k1 : D ≤ 18446744073709551615) (k2 : D * V ≤ T) (k3 : D = 18446744073709551615 ∨ T < (D + 1) * V) : d = D := by
  have key : ∀ a b : Nat, a ≤ 18446744073709551615 → a * V ≤ T → (b = 18446744073709551615 ∨ T < (b + 1) * V) → a ≤ b := by
    intro a b ha h k
    rcases k with k | k
    · omega
    · refine Nat.le_of_not_lt (fun hlt => ?_)
      have := Nat.mul_le_mul_right V (Nat.succ_le_of_lt hlt)
      rw [Nat.succ_eq_add_one] at this
      omega
  exact Nat.le_antisymm (key _ _ h1 h2 k3) (key _ _ k1 k2 h3)
theorem guess_is (T V : Nat) (hV : 0 < V) : ∃ D : Nat, D ≤ 18446744073709551615 ∧ D * V ≤ T ∧ (D = 18446744073709551615 ∨ T < (D + 1) * V) := by
  by_cases h : T / V ≤ 18446744073709551615
  · exact ⟨T / V, h, Nat.div_mul_le_self _ _, Or.inr (by rw [Nat.mul_comm]; exact Nat.lt_mul_div_succ T hV)⟩
  · refine ⟨18446744073709551615, Nat.le_refl _, ?_, Or.inl rfl⟩
    have h1 := Nat.div_mul_le_self T V
    have h2 := Nat.mul_le_mul_right V (Nat.le_of_lt (Nat.lt_of_not_le h))
    omega
/-- the guess under way -/
structure Gs (u2 u1 u0 v1 v0 d rest : Nat) : Prop where
  eq : d * v1 + rest = u2 * WB + u1
  top : d = 18446744073709551615 ∨ (u2 * WB + u1) * WB + u0 < (d + 1) * (v1 * WB + v0)
theorem Gs.done {u2 u1 u0 v1 v0 d rest : Nat} (h : Gs u2 u1 u0 v1 v0 d rest) (hd : d * v0 ≤ rest * WB + u0) : d * (v1 * WB + v0) ≤ (u2 * WB + u1) * WB + u0 := by
  rw [← h.eq, Nat.add_mul, Nat.mul_add, ← Nat.mul_assoc]
  omega
theorem Gs.step {u2 u1 u0 v1 v0 d rest : Nat} (h : Gs u2 u1 u0 v1 v0 (d + 1) rest) (hd : rest * WB + u0 < (d + 1) * v0) : Gs u2 u1 u0 v1 v0 d (rest + v1) := by
  refine ⟨?_, Or.inr ?_⟩
  · rw [← h.eq, Nat.succ_mul]; omega
  · rw [← h.eq, Nat.mul_add, Nat.add_mul, ← Nat.mul_assoc]
    omega
theorem Gs.cmp {hi lo p rest u0 : Nat} (hp : lo + WB * hi = p) (hlo : lo ≤ 18446744073709551615) (hu : u0 ≤ 18446744073709551615) : (hi < rest ∨ hi = rest ∧ lo ≤ u0) ↔ p ≤ rest * WB + u0 := by
  rw [← hp, WB_def]
  omega
theorem Gs.over {d v0 rest u0 : Nat} (hd : d ≤ 18446744073709551615) (hv : v0 ≤ 18446744073709551615) (hr : 18446744073709551616 ≤ rest) : d * v0 ≤ rest * WB + u0 := by
  have h1 : d * v0 ≤ 18446744073709551615 * 18446744073709551615 := Nat.mul_le_mul hd hv
  rw [WB_def]
  omega
theorem divnat_guess {u2 u1 u0 v1 v0 : Nat} (h2 : u2 ≤ v1) (h1 : u1 ≤ 18446744073709551615) (h0 : u0 ≤ 18446744073709551615) (hv1 : v1 ≤ 18446744073709551615) (hv0 : v0 ≤ 18446744073709551615) (hpos : 0 < v1) (w : World) :
    Calls Try.prog 118 #[.int .u64 (u2 : Int), .int .u64 (u1 : Int), .int .u64 (u0 : Int), .int .u64 (v1 : Int), .int .u64 (v0 : Int)] w (GuessP u2 u1 u0 v1 v0 w) := by
  go_enter Try.func118, Try.ntmps118
  go_wp2_with fail
  go_step3
  go_upto_if 21 with (fail)
  go_cut [11, 12] (fun a b wc => ∃ d r : Nat, a = .int .u64 (d : Int) ∧ b = .int .u64 (r : Int) ∧ d ≤ 18446744073709551615 ∧ r ≤ 18446744073709551615 ∧ Hid (Gs u2 u1 u0 v1 v0 d r) ∧ ∃ m, wc = w.drewN m)
  case first =>
    by_cases hlt : v1 ≤ u2
    · obtain ⟨s, c, hs, hsb, hc, hadd⟩ := add64_run0 h1 hv1
      have hG : Hid (Gs u2 u1 u0 v1 v0 18446744073709551615 (u1 + v1)) := by
        refine ⟨?_, Or.inl rfl⟩
        obtain rfl : u2 = v1 := by omega
        rw [WB_def]; omega
      by_cases hc0 : c = 0
      · subst hc0
        have b0 : ((0 : Int) != 0) = false := rfl
        go_wp2_with fail
        go_meet
        case rel =>
          have e : s = u1 + v1 := by have := hs.out; omega
          exact ⟨18446744073709551615, s, rfl, rfl, by omega, hsb, by rw [e]; exact hG, 0, rfl⟩
      · obtain rfl : c = 1 := by omega
        have b1 : ((1 : Int) != 0) = true := rfl
        go_wp2_with fail
        simp only [Exit.noGoto_ret]
        go_ret
        exact ⟨18446744073709551615, rfl, by omega, hG.out.done (Gs.over (by omega) hv0 (by have := hs.out; rw [WB_def] at this; omega)), Or.inl rfl, 0, rfl⟩
    · go_wp2_with fail
      refine (bits_Div64 (show u2 < v1 by omega) h1 hv1 _).mono ?_
      rintro e w1 ⟨d, r, hd, hr, hdb, hrb, rfl, m1, rfl⟩
      go_wp2_with fail
      go_meet
      case rel =>
        have e1 : d * v1 + r = u2 * WB + u1 := by rw [hd.out, hr.out, Nat.mul_comm]; exact Nat.div_add_mod _ _
        refine ⟨d, r, rfl, rfl, hdb, by omega, ⟨e1, Or.inr ?_⟩, m1, rfl⟩
        rw [← e1, Nat.add_mul, Nat.add_mul, Nat.one_mul, Nat.mul_add, ← Nat.mul_assoc]
        have h3 : r * WB + WB ≤ v1 * WB := by
          have := Nat.mul_le_mul_right WB (Nat.succ_le_of_lt hrb)
          rwa [Nat.succ_mul] at this
        have h4 : u0 < WB := by rw [WB_def]; omega
        omega
  case rest =>
    obtain ⟨d0, r0, rfl, rfl, hd0, hr0, hG0, hx0⟩ := hcut
    go_wp2_with fail
    go_step3
    go_wp2_with fail
    go_loopw [11, 12] (fun a b wr => ∃ d r : Nat, a = .int .u64 (d : Int) ∧ b = .int .u64 (r : Int) ∧ d ≤ 18446744073709551615 ∧ r ≤ 18446744073709551615 ∧ Hid (Gs u2 u1 u0 v1 v0 d r) ∧ wc = wr) (fun a b wr => (intOf a).toNat)
    case atStart => exact ⟨d0, r0, rfl, rfl, hd0, hr0, hG0, rfl⟩
    case round =>
      obtain ⟨d, r, rfl, rfl, hd, hr, hG, rfl⟩ := hrel
      clear hG0 hd0 hr0
      go_wp2_with fail
      refine (bits_Mul64 d v0 hd hv0 _).mono ?_
      rintro e w1 ⟨hi, lo, hp, hhb, hlb, rfl, rfl⟩
      have hcmp := Lib.hid (Gs.cmp (rest := r) hp.out hlb h0)
      have fin : ∀ d : Nat, d ≤ 18446744073709551615 → d * (v1 * WB + v0) ≤ (u2 * WB + u1) * WB + u0 → (d = 18446744073709551615 ∨ (u2 * WB + u1) * WB + u0 < (d + 1) * (v1 * WB + v0)) → GuessP u2 u1 u0 v1 v0 w (.returned (.int .u64 (d : Int))) wc := fun d a b c => ⟨d, rfl, a, b, c, hx0⟩
      have FIN := Lib.hid fin
      clear fin
      have bad : ¬ d * v0 ≤ r * WB + u0 → ∃ d', d = d' + 1 ∧ Gs u2 u1 u0 v1 v0 d' (r + v1) := by
        intro h
        cases d with
        | zero => simp at h
        | succ d' => exact ⟨d', rfl, hG.out.step (by omega)⟩
      have BAD := Lib.hid bad
      clear bad
      obtain ⟨s, c, hs, hsb, hc, hadd⟩ := add64_run0 hr hv1
      by_cases hA : hi < r
      · go_wp2_with fail
        go_ret
        exact FIN.out d hd (hG.out.done (hcmp.out.1 (Or.inl hA))) hG.out.top
      · by_cases hB : hi = r
        · have b1 : ((hi : Int) == (r : Int)) = true := by simp [hB]
          have HB := Lib.hid hB
          clear hB
          by_cases hC : lo ≤ u0
          · go_wp2_with fail
            go_ret
            exact FIN.out d hd (hG.out.done (hcmp.out.1 (Or.inr ⟨HB.out, hC⟩))) hG.out.top
          · obtain ⟨d', rfl, hG'⟩ := BAD.out (fun h => by have := hcmp.out.2 h; have := HB.out; omega)
            have HG' := Lib.hid hG'
            clear hG'
            have ed : ((d' + 1 : Nat) : Int) - 1 = (d' : Int) := by omega
            by_cases hc0 : c = 0
            · subst hc0
              have b0 : ((0 : Int) != 0) = false := rfl
              go_wp2_with fail
              go_roundw
              case rel => exact ⟨d', s, rfl, rfl, by omega, hsb, by rw [show s = r + v1 from by have := hs.out; omega]; exact HG', trivial⟩
              case measure => simp [intOf]
            · obtain rfl : c = 1 := by omega
              have b0 : ((1 : Int) != 0) = true := rfl
              go_wp2_with fail
              go_ret
              exact FIN.out d' (by omega) (HG'.out.done (Gs.over (by omega) hv0 (by have := hs.out; rw [WB_def] at this; omega))) HG'.out.top
        · have b1 : ((hi : Int) == (r : Int)) = false := by simp; omega
          obtain ⟨d', rfl, hG'⟩ := BAD.out (fun h => by have := hcmp.out.2 h; omega)
          have HG' := Lib.hid hG'
          clear hG'
          have ed : ((d' + 1 : Nat) : Int) - 1 = (d' : Int) := by omega
          by_cases hc0 : c = 0
          · subst hc0
            have b0 : ((0 : Int) != 0) = false := rfl
            go_wp2_with fail
            go_roundw
            case rel => exact ⟨d', s, rfl, rfl, by omega, hsb, by rw [show s = r + v1 from by have := hs.out; omega]; exact HG', trivial⟩
            case measure => simp [intOf]
          · obtain rfl : c = 1 := by omega
            have b0 : ((1 : Int) != 0) = true := rfl
            go_wp2_with fail
            go_ret
            exact FIN.out d' (by omega) (HG'.out.done (Gs.over (by omega) hv0 (by have := hs.out; rw [WB_def] at this; omega))) HG'.out.top
end Go.Proofs.Ytmaconeeonkdgaa
