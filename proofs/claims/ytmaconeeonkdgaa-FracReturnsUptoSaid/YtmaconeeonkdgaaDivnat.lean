/- Contracts of package divnat: its pieces. -/
import Derived.Test.YtmaconeeonkdgaaDiv64b
import Derived.Test.YtmaconeeonkdgaaMulnatD
namespace Go.Proofs.Ytmaconeeonkdgaa
open Go.RowKit

/-- a word of a slice of the call's own, and what the slice is after a store -/
theorem Own.word {w : World} {base : Nat} {A : Option Addr} {n cap : Nat} {xs : List Nat} (h : Own w base 47 1 A n cap (xs.map W64)) (hw : Wf xs) {i : Nat} (hi : i < n) :
    ∃ g x, A = some ⟨g, 0, none⟩ ∧ base ≤ g ∧ Hid (xs.getD i 0 = x) ∧ x ≤ 18446744073709551615 ∧ w.cell? ⟨g, i, none⟩ = some (.int .u64 (x : Int)) ∧ w.frozen? ⟨g, i, none⟩ = false ∧
      ∀ u : Nat, Own (w.setCell ⟨g, i, none⟩ (.int .u64 (u : Int))) base 47 1 (some ⟨g, 0, none⟩) n cap ((xs.set i u).map W64) := by
  have hlen : xs.length = n := by simpa using h.rv.len
  rcases h with ⟨rfl, rfl, rfl, _⟩ | ⟨g, cs, rfl, hb, hk, hn, hm, hl, hv⟩
  · omega
  · have hlt := Wf_getD hw i
    have hi2 : i < cs.length := by omega
    refine ⟨g, _, rfl, hb, rfl, by rw [WB_def] at hlt; omega, ?_, hk.frozen i, fun u => ?_⟩
    · rw [hk.cell hi2]
      have : cs.getD i undef = (cs.take (n * 1)).getD i undef := by
        simp only [List.getD_eq_getElem?_getD, List.getElem?_take]
        rw [if_pos (by omega)]
      rw [this, hv]
      simp [List.getD_eq_getElem?_getD, List.getElem?_map, List.getElem?_eq_getElem (show i < xs.length by omega)]
    · refine Own.mk_ hb (hk.set i _) hn hm (by rw [List.length_set]; exact hl) ?_
      rw [← map_W64_set, ← hv, List.take_set]

def RetWord (w : World) (q r : Nat) (e : Ending) (w' : World) : Prop :=
  ∃ A n cap r', e = .returned (.tuple #[.slice A n cap, .int .u64 (r' : Nat), .int .i64 0]) ∧ Hid (r' = r) ∧ r' ≤ 18446744073709551615 ∧ Hid (n = (wd q).length) ∧ Rd w' A n cap (wd q) ∧ Own w' w.heap.size 47 1 A n cap ((wd q).map W64) ∧ Ext w w'
theorem divnat_Word_bad {w : World} {A : Option Addr} {n cap : Nat} :
    Calls Try.prog 104 #[.slice A n cap, .int .u64 0] w (fun e w' => e = .returned (.tuple #[.slice none 0 0, .int .u64 0, .int .i64 4]) ∧ w = w') := by
  go_enter Try.func104, Try.ntmps104
  go_wp2_with fail
  go_ret3
  exact ⟨rfl, rfl⟩
theorem word_step {l : List Nat} {k x rest d r' v V : Nat} (hk : k < l.length) (h : WB ^ (k + 1) * nv (l.drop (k + 1)) * v + WB ^ (k + 1) * rest + nv (l.take (k + 1)) = V) (hx : l.getD k 0 = x) (hs : rest * WB + x = d * v + r') :
    WB ^ k * nv ((l.set k d).drop k) * v + WB ^ k * r' + nv ((l.set k d).take k) = V := by
  have e1 : (l.set k d).take k = l.take k := by rw [List.take_set_of_le (Nat.le_refl k)]
  have e2 : (l.set k d).drop k = d :: l.drop (k + 1) := by
    rw [List.drop_eq_getElem_cons (by rw [List.length_set]; exact hk)]
    congr 1
    · simp
    · rw [List.drop_set_of_lt (by omega)]
  rw [e1, e2, nv_cons, ← h, nv_take_snoc l k hk, hx, Nat.pow_succ]
  have e3 : WB ^ k * (rest * WB + x) = WB ^ k * (d * v + r') := by rw [hs]
  have e4 : WB ^ k * (d + WB * nv (l.drop (k + 1))) * v = WB ^ k * WB * nv (l.drop (k + 1)) * v + WB ^ k * (d * v) := by
    rw [Nat.mul_add, Nat.add_mul, Nat.add_comm, ← Nat.mul_assoc (WB ^ k) WB, Nat.mul_assoc (WB ^ k) d]
  have e5 : WB ^ k * WB * rest = WB ^ k * (rest * WB) := by rw [Nat.mul_assoc, Nat.mul_comm WB rest]
  rw [e4, e5]
  simp only [Nat.mul_add] at e3
  omega
theorem divnat_Word {w : World} {A : Option Addr} {n cap : Nat} {xs : List Nat} (hx : Rd w A n cap xs) (hl : n ≤ 1099511627775) {v : Nat} (hv0 : v ≠ 0) (hvb : v ≤ 18446744073709551615) :
    Calls Try.prog 104 #[.slice A n cap, .int .u64 (v : Int)] w (RetWord w (nv xs / v) (nv xs % v)) := by
  have h0 : ((v : Int) == 0) = false := by simp; omega
  go_enter Try.func104, Try.ntmps104
  go_wp2_with fail
  refine (nat_Least hx (by omega)).mono ?_
  rintro e w1 ⟨A1, n1, c1, rfl, hn1, hr1, ho1, hx1⟩
  have hn1b : n1 ≤ n := by
    have := len_wd_nv hx.wf
    rw [hn1.out, ← hx.len]; exact this
  clear h0
  have h0 : ((v : Int) == 0) = false := by simp; omega
  go_wp2_with fail
  obtain ⟨l0, hl0⟩ : ∃ l0, wd (nv xs) = l0 := ⟨_, rfl⟩
  have hnl0 : Hid (nv l0 = nv xs) := (show _ = _ by rw [← hl0, nv_wd])
  rw [hl0] at hr1 ho1
  have hll0 : Hid (l0.length = n1) := hr1.len
  have hwl0 := hr1.wf
  clear hr1 hl0
  go_loopw [9, 8] (fun a b wr => ∃ (k r : Nat) (l : List Nat), k ≤ n1 ∧ r < v ∧ a = .int .i64 ((k : Int) - 1) ∧ b = .int .u64 (r : Int) ∧ Hid (l.length = n1) ∧ Wf l ∧ Own wr w.heap.size 47 1 A1 n1 c1 (l.map W64) ∧
    Hid (WB ^ k * nv (l.drop k) * v + WB ^ k * r + nv (l.take k) = nv xs) ∧ Ext w wr) (fun a b wr => (intOf a + 1).toNat)
  case atStart => exact ⟨n1, 0, l0, Nat.le_refl _, by omega, by go_num, rfl, hll0, hwl0, ho1, (show _ = _ by rw [List.drop_of_length_le (by rw [hll0.out]; exact Nat.le_refl _), List.take_of_length_le (by rw [hll0.out]; exact Nat.le_refl _), hnl0.out]; simp [nv]), hx1⟩
  case round =>
    obtain ⟨k, r, l, hk, hr, rfl, rfl, hll, hwl, ho, hV, hxr⟩ := hrel
    clear hll0 hwl0 ho1 hnl0
    by_cases hk0 : 0 < k
    · obtain ⟨k, rfl⟩ : ∃ j, k = j + 1 := ⟨k - 1, by omega⟩
      obtain ⟨g, x, rfl, hg, hxk, hxb, hc, hfr, hset⟩ := ho.word hwl (i := k) (by omega)
      have ek : ((k + 1 : Nat) : Int) - 1 = (k : Int) := by omega
      rw [ek]
      go_wp2_with fail
      refine (bits_Div64 hr hxb hvb _).mono ?_
      rintro e w2 ⟨d, r', hd, hr', hdb, hrv, rfl, m2, hm2⟩
      have hx2 : Ext wr w2 := by rw [hm2]; exact (Ext.refl wr).drewN m2
      clear hm2
      have ho2 := ho.ext hx2
      obtain ⟨g', x', hg', _, _, _, hc2, hfr2, hset2⟩ := ho2.word hwl (i := k) (by omega)
      cases hg'
      go_wp2_with fail
      go_roundw
      case rel =>
        refine ⟨k, r', l.set k d, by omega, hrv, rfl, rfl, (show _ = _ by rw [List.length_set]; exact hll.out), Wf_set hwl k (by rw [WB_def]; omega), hset2 d, ?_, (hxr.trans hx2).setCell hg _⟩
        refine word_step (by rw [hll.out]; omega) hV.out hxk.out ?_
        rw [hd.out, hr'.out, Nat.mul_comm _ v]; exact (Nat.div_add_mod _ _).symm
      case measure => simp [intOf]
    · obtain rfl : k = 0 := by omega
      have hVl : nv l * v + r = nv xs := by simpa [nv] using hV.out
      have hq : nv l = nv xs / v := by rw [← hVl, Nat.mul_comm, Nat.mul_add_div (by omega), Nat.div_eq_of_lt hr]; rfl
      have hrr : Hid (r = nv xs % v) := (show _ = _ by rw [← hVl, Nat.mul_comm, Nat.mul_add_mod, Nat.mod_eq_of_lt hr])
      have HQ := Lib.hid hq
      clear hq hVl
      have ek : ((0 : Nat) : Int) - 1 = -1 := rfl
      rw [ek]
      go_wp2_with fail
      refine (nat_Least (ho.rd hwl) (by omega)).mono ?_
      rintro e w2 ⟨A2, n2, c2, rfl, hn2, hr2, ho2, hx2⟩
      rw [HQ.out] at hn2 hr2 ho2
      go_wp2_with fail
      go_ret3
      exact ⟨A2, n2, c2, r, rfl, hrr, by omega, hn2, hr2, ho2.mono hxr.size, hxr.trans hx2⟩

/-- a block made by the call -/
def NewB (w : World) (v n : Nat) (e : Ending) (w' : World) : Prop :=
  ∃ g zs, e = .returned (.slice (some ⟨g, 0, none⟩) n n) ∧ w.heap.size ≤ g ∧ Bk w' g 47 (zs.map W64) ∧ Wf zs ∧ Hid (zs.length = n) ∧ Hid (nv zs = v) ∧ Ext w w'

theorem shl_word {x s : Nat} (hs : s < 64) : x * 2 ^ s % 18446744073709551616 = (x % 2 ^ (64 - s)) * 2 ^ s ∧ x * 2 ^ s = x * 2 ^ s % 18446744073709551616 + WB * (x / 2 ^ (64 - s)) := by
  have e : 18446744073709551616 = 2 ^ (64 - s) * 2 ^ s := by rw [← Nat.pow_add, Nat.sub_add_cancel (by omega)]
  have h1 : x * 2 ^ s % 18446744073709551616 = (x % 2 ^ (64 - s)) * 2 ^ s := by rw [e, Nat.mul_mod_mul_right]
  refine ⟨h1, ?_⟩
  rw [h1, WB_def, e]
  have h2 := Nat.mod_add_div x (2 ^ (64 - s))
  conv => lhs; rw [← h2]
  rw [Nat.add_mul, Nat.mul_assoc, Nat.mul_comm (x / 2 ^ (64 - s)), ← Nat.mul_assoc]
theorem shifted_step {l xs : List Nat} {i c x s r30 r32 d : Nat} (hs : s < 64) (hx : xs.getD i 0 = x) (hi : i < l.length) (hc : c < 2 ^ s) (h30 : r30 = x * 2 ^ s % 18446744073709551616) (h32 : r32 = r30 ||| c) (hd : d = x / 2 ^ (64 - s))
    (h : nv (l.take i) + WB ^ i * c = nv (xs.take i) * 2 ^ s) : nv ((l.set i r32).take (i + 1)) + WB ^ (i + 1) * d = nv (xs.take (i + 1)) * 2 ^ s := by
  obtain ⟨e1, e2⟩ := shl_word (x := x) hs
  have e3 : r32 = r30 + c := by rw [h32, h30, e1, or_join hc]
  have e4 : nv (xs.take (i + 1)) = nv (xs.take i) + WB ^ i * x := by
    by_cases hi2 : i < xs.length
    · rw [nv_take_snoc xs i hi2, hx]
    · have : x = 0 := by rw [← hx]; simp [List.getD_eq_getElem?_getD, List.getElem?_eq_none (show xs.length ≤ i by omega)]
      rw [this, List.take_of_length_le (by omega), List.take_of_length_le (by omega)]; simp
  rw [nv_set_snoc hi, e4, Nat.add_mul, ← h, e3, hd, Nat.pow_succ, Nat.mul_assoc (WB ^ i) WB, Nat.mul_assoc (WB ^ i) x, e2, ← h30]
  simp only [Nat.mul_add]
  omega
theorem shifted_lt {x s : Nat} (hx : x ≤ 18446744073709551615) (hs : s < 64) : x / 2 ^ (64 - s) < 2 ^ s := by
  refine Nat.div_lt_of_lt_mul ?_
  rw [← Nat.pow_add, Nat.sub_add_cancel (by omega)]
  omega
set_option maxHeartbeats 1000000 in
theorem divnat_shifted {w : World} {A : Option Addr} {m cap : Nat} {xs : List Nat} (hx : Rd w A m cap xs) (_hl : m ≤ 1099511627775) {s n : Nat} (hs : s < 64) (hn : n ≤ 1099511627776) (hmn : m ≤ n) (hfit : nv xs * 2 ^ s < WB ^ n) :
    Calls Try.prog 117 #[.slice A m cap, .int .u64 (s : Int), .int .i64 (n : Int)] w (NewB w (nv xs * 2 ^ s) n) := by
  have hlx := Lib.hid hx.len
  have HF := Lib.hid hfit
  clear hfit
  have hsi : (s : Int) ≤ 63 := by omega
  have hmk := run_make1 (P := Try.prog) Try.underlying25 info64 rfl (by decide) (n : Int) (by omega) (by omega)
  rw [Int.toNat_natCast] at hmk
  go_enter Try.func117, Try.ntmps117
  go_wp2_with fail
  clear hmk
  obtain ⟨g, hg⟩ : ∃ g, w.heap.size = g := ⟨_, rfl⟩
  rw [hg]
  obtain ⟨wa, hwa⟩ : ∃ wa, w.alloc (.cells (zc (.int .u64 0) n) 47) = wa := ⟨_, rfl⟩
  rw [hwa]
  have hbk : Bk wa g 47 ((List.replicate n 0).map W64) := by
    rw [← hwa, ← hg, ← replicate_W64]; exact Bk.new' _ _ _
  have hea : Ext w wa := by rw [← hwa]; exact (Ext.refl w).alloc _
  have hgs : w.heap.size ≤ g := by rw [hg]; exact Nat.le_refl _
  clear hg hwa
  go_loopw [15, 8] (fun u v wr => ∃ (i c : Nat) (l : List Nat), i ≤ n ∧ c ≤ 18446744073709551615 ∧ Hid (c < 2 ^ s) ∧ u = .int .i64 (i : Int) ∧ v = .int .u64 (c : Int) ∧ Hid (l.length = n) ∧ Wf l ∧ Bk wr g 47 (l.map W64) ∧
    Hid (nv (l.take i) + WB ^ i * c = nv (xs.take i) * 2 ^ s) ∧ Ext w wr) (fun u v wr => n - (intOf u).toNat)
  case atStart => exact ⟨0, 0, _, Nat.zero_le _, Nat.zero_le _, Nat.two_pow_pos s, rfl, rfl, List.length_replicate, Wf_zeros _, hbk, by simp [Hid, nv], hea⟩
  case round =>
    obtain ⟨i, c, l, hi, hcb, hc, rfl, rfl, hll, hwl, hb, hv, hr⟩ := hrel
    clear hbk hea
    by_cases hin : i < n
    · obtain ⟨o, ho, _, hco⟩ := hb.word hwl (i := i) (by rw [hll.out]; omega)
      have hfr := hb.frozen i
      have key : ∀ x r32 d r30 : Nat, xs.getD i 0 = x → r30 = x * 2 ^ s % 18446744073709551616 → r32 = r30 ||| c → d = x / 2 ^ (64 - s) → r32 ≤ 18446744073709551615 → x ≤ 18446744073709551615 → ∀ w2, Upd g wr w2 → Bk w2 g 47 ((l.set i r32).map W64) → Ext w w2 →
          ∃ (j c : Nat) (l : List Nat), j ≤ n ∧ c ≤ 18446744073709551615 ∧ Hid (c < 2 ^ s) ∧ Value.int .i64 ((i : Int) + 1) = .int .i64 (j : Int) ∧ Value.int .u64 (d : Int) = .int .u64 (c : Int) ∧ Hid (l.length = n) ∧ Wf l ∧ Bk w2 g 47 (l.map W64) ∧
            Hid (nv (l.take j) + WB ^ j * c = nv (xs.take j) * 2 ^ s) ∧ Ext w w2 := by
        intro x r32 d r30 h1 h2 h3 h4 h5 h6 w2 hu hb2 he
        have h7 := shifted_lt h6 hs
        rw [← h4] at h7
        have h8 : 2 ^ s ≤ 2 ^ 63 := Nat.pow_le_pow_right (by omega) (by omega)
        exact ⟨i + 1, d, l.set i r32, by omega, by omega, h7, rfl, rfl, (show _ = _ by rw [List.length_set]; exact hll.out), Wf_set hwl i (by rw [WB_def]; omega), hb2, shifted_step hs h1 (by rw [hll.out]; omega) hc.out h2 h3 h4 hv.out, he⟩
      have KEY := Lib.hid key
      clear key
      have hs64 : s ≤ 64 := by omega
      by_cases him : i < m
      · obtain ⟨a, x, rfl, hxk, hxb, hcx⟩ := (hx.ext hr).get (i := i) (by omega)
        by_cases hs0 : 0 < s
        · go_wp2_with (first
            | ((with_reducible refine at_slot (some 30) ?_); refine wpl_u64 rfl rfl rfl rfl rfl (u64_shl hs64) (by omega) ?_; intro r30 h30 hb30)
            | ((with_reducible refine at_slot (some 32) ?_); refine wpl_u64 rfl rfl rfl rfl rfl (u64_or hb30 hcb) (by have := Nat.or_lt_two_pow (n := 64) (x := r30) (y := c) (by omega) (by omega); omega) ?_; intro r32 h32 hb32)
            | ((with_reducible refine at_slot (some 38) ?_); refine wpl_u64 rfl rfl rfl rfl rfl (u64_sub (x := 64) (y := s) (by omega)) (by omega) ?_; intro r38 h38 hb38; obtain rfl : r38 = 64 - s := (by have := h38.out; omega))
            | ((with_reducible refine at_slot (some 39) ?_); refine wpl_u64 rfl rfl rfl rfl rfl (u64_shr (s := 64 - s) (by omega)) (by have := Nat.div_le_self x (2 ^ (64 - s)); omega) ?_; intro d hd hdb))
          go_roundw
          case rel => exact KEY.out x r32 d r30 hxk.out h30.out h32.out hd.out hb32 hxb _ ((Upd.refl _ _).setCell _ _) (by rw [← map_W64_set]; exact hb.set _ _) (hr.setCell hgs _)
          case measure => simp [intOf]; omega
        · go_wp2_with (first
            | ((with_reducible refine at_slot (some 30) ?_); refine wpl_u64 rfl rfl rfl rfl rfl (u64_shl hs64) (by omega) ?_; intro r30 h30 hb30)
            | ((with_reducible refine at_slot (some 32) ?_); refine wpl_u64 rfl rfl rfl rfl rfl (u64_or hb30 hcb) (by have := Nat.or_lt_two_pow (n := 64) (x := r30) (y := c) (by omega) (by omega); omega) ?_; intro r32 h32 hb32))
          go_roundw
          case rel => exact KEY.out x r32 0 r30 hxk.out h30.out h32.out (by rw [show s = 0 from by omega, Nat.div_eq_of_lt (by omega)]) hb32 hxb _ ((Upd.refl _ _).setCell _ _) (by rw [← map_W64_set]; exact hb.set _ _) (hr.setCell hgs _)
          case measure => simp [intOf]; omega
      · have hx0 : Hid (xs.getD i 0 = 0) := by
          show _ = _
          rw [List.getD_eq_getElem?_getD, List.getElem?_eq_none (by rw [hlx.out]; omega)]; rfl
        by_cases hs0 : 0 < s
        · go_wp2_with (first
            | ((with_reducible refine at_slot (some 30) ?_); refine wpl_u64 rfl rfl rfl rfl rfl (u64_shl (x := 0) hs64) (by omega) ?_; intro r30 h30 hb30)
            | ((with_reducible refine at_slot (some 32) ?_); refine wpl_u64 rfl rfl rfl rfl rfl (u64_or hb30 hcb) (by have := Nat.or_lt_two_pow (n := 64) (x := r30) (y := c) (by omega) (by omega); omega) ?_; intro r32 h32 hb32)
            | ((with_reducible refine at_slot (some 38) ?_); refine wpl_u64 rfl rfl rfl rfl rfl (u64_sub (x := 64) (y := s) (by omega)) (by omega) ?_; intro r38 h38 hb38; obtain rfl : r38 = 64 - s := (by have := h38.out; omega))
            | ((with_reducible refine at_slot (some 39) ?_); refine wpl_u64 rfl rfl rfl rfl rfl (u64_shr (x := 0) (s := 64 - s) (by omega)) (by have := Nat.div_le_self 0 (2 ^ (64 - s)); omega) ?_; intro d hd hdb))
          go_roundw
          case rel => exact KEY.out 0 r32 d r30 hx0.out h30.out h32.out hd.out hb32 (by omega) _ ((Upd.refl _ _).setCell _ _) (by rw [← map_W64_set]; exact hb.set _ _) (hr.setCell hgs _)
          case measure => simp [intOf]; omega
        · go_wp2_with (first
            | ((with_reducible refine at_slot (some 30) ?_); refine wpl_u64 rfl rfl rfl rfl rfl (u64_shl (x := 0) hs64) (by omega) ?_; intro r30 h30 hb30)
            | ((with_reducible refine at_slot (some 32) ?_); refine wpl_u64 rfl rfl rfl rfl rfl (u64_or hb30 hcb) (by have := Nat.or_lt_two_pow (n := 64) (x := r30) (y := c) (by omega) (by omega); omega) ?_; intro r32 h32 hb32))
          go_roundw
          case rel => exact KEY.out 0 r32 0 r30 hx0.out h30.out h32.out (by simp) hb32 (by omega) _ ((Upd.refl _ _).setCell _ _) (by rw [← map_W64_set]; exact hb.set _ _) (hr.setCell hgs _)
          case measure => simp [intOf]; omega
    · obtain rfl : i = n := by omega
      go_wp2_with fail
      go_ret
      refine ⟨g, l, rfl, hgs, hb, hwl, hll, ?_, hr⟩
      have h1 := hv.out
      rw [List.take_of_length_le (by rw [hll.out]; exact Nat.le_refl _), List.take_of_length_le (by rw [hlx.out]; exact hmn)] at h1
      have h2 := HF.out
      show _ = _
      rcases Nat.eq_zero_or_pos c with h0 | h0
      · rw [h0, Nat.mul_zero] at h1; exact h1
      · have := Nat.le_mul_of_pos_right (WB ^ i) h0
        omega
end Go.Proofs.Ytmaconeeonkdgaa
