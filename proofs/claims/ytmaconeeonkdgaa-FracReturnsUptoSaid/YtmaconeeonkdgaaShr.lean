/- nat.Shr -/
import Derived.Test.YtmaconeeonkdgaaDivnatB
namespace Go.Proofs.Ytmaconeeonkdgaa
open Go.RowKit

theorem wrap_i64_nat {n : Nat} (h : n ≤ 9223372036854775807) : IntKind.i64.wrap (n : Int) = (n : Int) := by
  simp only [IntKind.wrap, IntKind.bits, IntKind.signed]
  simp
  omega
theorem i64_quo {x y : Nat} (hy : y ≠ 0) (hx : x ≤ 9223372036854775807) (P : Program) (t : TypeId) (w : World) : (binOp .quo t (.int .i64 (x : Int)) (.int .i64 (y : Int))).run P w = .ok (.int .i64 ((x / y : Nat) : Int)) w := by
  have h1 := Nat.div_le_self x y
  have e : IntKind.i64.wrap ((x : Int).tdiv (y : Int)) = ((x / y : Nat) : Int) := by
    have : (x : Int).tdiv (y : Int) = ((x / y : Nat) : Int) := by rw [Int.tdiv_eq_ediv_of_nonneg (by omega)]; simp
    rw [this, wrap_i64_nat (by omega)]
  simp only [binOp, Op.intDiv]
  simp [hy]
  rw [show (↑x / ↑y : Int) = ((x / y : Nat) : Int) from by simp] at *
  simpa [Int.tdiv_eq_ediv_of_nonneg] using e
theorem i64_rem {x y : Nat} (hy : y ≠ 0) (hx : x ≤ 9223372036854775807) (P : Program) (t : TypeId) (w : World) : (binOp .rem t (.int .i64 (x : Int)) (.int .i64 (y : Int))).run P w = .ok (.int .i64 ((x % y : Nat) : Int)) w := by
  have h1 := Nat.mod_le x y
  have e : IntKind.i64.wrap ((x : Int).tmod (y : Int)) = ((x % y : Nat) : Int) := by
    have : (x : Int).tmod (y : Int) = ((x % y : Nat) : Int) := by rw [Int.tmod_eq_emod_of_nonneg (by omega)]; simp
    rw [this, wrap_i64_nat (by omega)]
  simp only [binOp, Op.intDiv]
  simp [hy]
  rw [show (↑x % ↑y : Int) = ((x % y : Nat) : Int) from by simp] at *
  simp [Int.tmod_eq_emod_of_nonneg]
/-- a rule of one operation of two places, with its result behind a name -/
theorem wpl_i64 {P : Program} {w : World} {ops : Array Oper} {rest : List Oper} {o : Oper} {a : Act} {Q : Exit → Act → World → Prop} (hgd : o.guard = none) {op : BinOp} {t ty : TypeId} {x y : Operand} (ho : o.op = .binOp op t x y ty)
    {vx vy : Value} {f : Nat} (hx : a.eval x = vx) (hy : a.eval y = vy) (hne : (op matches .eql | .neq) = false) (hr : ∀ (P : Program) (t : TypeId) (w : World), (binOp op t vx vy).run P w = .ok (.int .i64 (f : Int)) w)
    (h : ∀ r : Nat, Hid (r = f) → wpList P ops Q rest (a.put o.dst (.int .i64 (r : Int))) w) : wpList P ops Q (o :: rest) a w :=
  wpl_bin hgd ho hx hy hne (fun w => hr P t w) (h f rfl)

theorem bits_or_u64 {x y : Nat} (hx : x ≤ 18446744073709551615) (hy : y ≤ 18446744073709551615) : bits BinOp.or IntKind.u64 (x : Int) (y : Int) = ((x ||| y : Nat) : Int) := by
  have e : IntKind.u64.wrap ((BitVec.ofInt 64 (x : Int) ||| BitVec.ofInt 64 (y : Int)).toNat : Int) = ((x ||| y : Nat) : Int) := by
    rw [BitVec.toNat_or, ofInt_64 hx, ofInt_64 hy, wrap_u64_nat, Nat.mod_eq_of_lt (Nat.or_lt_two_pow (n := 64) (by omega) (by omega))]
  exact e
theorem wrap_shl (x k : Nat) : IntKind.u64.wrap ((x : Int) * 2 ^ k) = ((x * 2 ^ k % 18446744073709551616 : Nat) : Int) := by
  rw [← wrap_u64_nat]; simp
theorem shr_word {x y s : Nat} (hs : s < 64) : x / 2 ^ s ||| (y * 2 ^ (64 - s) % 18446744073709551616) = x / 2 ^ s + (y % 2 ^ s) * 2 ^ (64 - s) ∨ 18446744073709551616 ≤ x := by
  by_cases hx : x < 18446744073709551616
  · left
    have e : 18446744073709551616 = 2 ^ s * 2 ^ (64 - s) := by rw [← Nat.pow_add, show s + (64 - s) = 64 from by omega]
    have h1 : y * 2 ^ (64 - s) % 18446744073709551616 = (y % 2 ^ s) * 2 ^ (64 - s) := by rw [e, Nat.mul_mod_mul_right]
    have h2 : x / 2 ^ s < 2 ^ (64 - s) := Nat.div_lt_of_lt_mul (by rw [← e]; exact hx)
    rw [h1, Nat.or_comm, or_join h2, Nat.add_comm]
  · right; omega
theorem shr_step {l xs : List Nat} {i x y z s : Nat} (hi : i < l.length) (hix : i < xs.length) (hx : xs.getD i 0 = x) (_hy : xs.getD (i + 1) 0 = y) (hz : z = x / 2 ^ s + (y % 2 ^ s) * 2 ^ (64 - s)) (hs : s < 64) {r0 : Nat}
    (h : nv (l.take i) * 2 ^ s + r0 = nv (xs.take i) + WB ^ i * (x % 2 ^ s)) : nv ((l.set i z).take (i + 1)) * 2 ^ s + r0 = nv (xs.take (i + 1)) + WB ^ (i + 1) * (y % 2 ^ s) := by
  rw [nv_set_snoc hi, nv_take_snoc xs i hix, hx, Nat.add_mul]
  have e1 : z * 2 ^ s = x / 2 ^ s * 2 ^ s + WB * (y % 2 ^ s) := by
    rw [hz, Nat.add_mul, Nat.mul_assoc, ← Nat.pow_add, Nat.sub_add_cancel (by omega), ← WB_pow, Nat.mul_comm WB]
  have e2 : x / 2 ^ s * 2 ^ s + x % 2 ^ s = x := by rw [Nat.mul_comm]; exact Nat.div_add_mod _ _
  have e3 : WB ^ i * x = WB ^ i * (x / 2 ^ s * 2 ^ s) + WB ^ i * (x % 2 ^ s) := by rw [← Nat.mul_add, e2]
  rw [Nat.mul_assoc (WB ^ i) z, e1, e3, Nat.pow_succ, Nat.mul_assoc (WB ^ i) WB, Nat.mul_add]
  omega
set_option maxHeartbeats 2000000 in
theorem nat_Shr {w : World} {A : Option Addr} {m cap : Nat} {xs : List Nat} (hx : Rd w A m cap xs) (hl : m ≤ 1099511627775) {n : Nat} (hn : n ≤ 9223372036854775807) :
    Calls Try.prog 121 #[.slice A m cap, .int .i64 (n : Int)] w (RetWE w (nv xs / 2 ^ n) 0) := by
  go_enter Try.func121, Try.ntmps121
  go_wp2_with fail
  refine (nat_size hx (by omega)).mono ?_
  rintro e w' ⟨k, hk, hkn, rfl, rfl⟩
  go_upto_region 4 with (first
    | ((with_reducible refine at_slot (some 16) ?_); refine wpl_i64 rfl rfl rfl rfl rfl (i64_quo (x := n) (y := 64) (by omega) hn) ?_; intro q hq)
    | ((with_reducible refine at_slot (some 18) ?_); refine wpl_i64 rfl rfl rfl rfl rfl (i64_rem (x := n) (y := 64) (by omega) hn) ?_; intro s hs; have hs64 : s < 64 := (by rw [hs.out]; exact Nat.mod_lt _ (by omega)); have hqb : q ≤ 9223372036854775807 := (by have := hq.out; omega)))
  have hnqs : Hid (n = 64 * q + s) := (show _ = _ by rw [hq.out, hs.out]; exact (Nat.div_add_mod _ _).symm)
  clear hq hs
  have hlx := Lib.hid hx.len
  by_cases hkq : k ≤ q
  · go_wp2_with fail
    go_ret2
    refine RetWE_of (RetW_nil ?_ (Ext.refl w))
    refine Nat.div_eq_of_lt ?_
    rw [hnqs.out, Nat.pow_add, Nat.pow_mul, ← WB_pow]
    have h1 := lt_pow_len (nv xs)
    rw [← hk.out] at h1
    have h2 : WB ^ k ≤ WB ^ q := Nat.pow_le_pow_right WB_pos hkq
    have h3 := Nat.le_mul_of_pos_right (WB ^ q) (Nat.two_pow_pos s)
    omega
  · obtain ⟨p, hkp⟩ : ∃ p, k = q + p := ⟨k - q, by omega⟩
    have hp : 0 < p := by omega
    -- the words that stay
    obtain ⟨ys, hys⟩ : ∃ ys, (xs.take k).drop q = ys := ⟨_, rfl⟩
    have hyl : Hid (ys.length = p) := (show _ = _ by rw [← hys, List.length_drop, List.length_take, hlx.out]; omega)
    have hyv : Hid (nv xs / 2 ^ n = nv ys / 2 ^ s) := by
      show _ = _
      rw [hnqs.out, Nat.pow_add, Nat.pow_mul, ← WB_pow, ← Nat.div_div_eq_div_mul]
      congr 1
      have h1 := nv_take_len hx.wf hk.out
      have h2 := nv_split (xs.take k) q (by rw [List.length_take, hlx.out]; omega)
      have h3 := nv_take_lt (Wf_take hx.wf k) q
      rw [← h1, h2, hys, Nat.add_comm, Nat.mul_add_div (Nat.pow_pos WB_pos), Nat.div_eq_of_lt h3, Nat.add_zero]
    have hyg : Hid (∀ i, i < p → ys.getD i 0 = xs.getD (q + i) 0) := by
      intro i hi
      rw [← hys]
      simp only [List.getD_eq_getElem?_getD, List.getElem?_drop, List.getElem?_take]
      rw [if_pos (by omega)]
    clear hys hk
    have hmk := run_make1 (P := Try.prog) Try.underlying25 info64 rfl (by decide) ((k : Int) - (q : Int)) (by omega) (by omega)
    have et : ((k : Int) - (q : Int)).toNat = p := by omega
    rw [et] at hmk
    clear et
    have hxn := Lib.hid hnqs.out
    clear hnqs
    have hnk : ¬ (k : Int) ≤ (q : Int) := by omega
    have hnk0 : ¬ (k : Int) - (q : Int) < 0 := by omega
    have HL := Lib.hid hl
    clear hqb hn
    have hkp1 : k ≤ q + p := by omega
    have hkp2 : q + p ≤ k := by omega
    clear hkp
    go_wp2_with fail
    clear hmk
    obtain ⟨g, hg⟩ : ∃ g, w.heap.size = g := ⟨_, rfl⟩
    rw [hg]
    obtain ⟨wa, hwa⟩ : ∃ wa, w.alloc (.cells (zc (.int .u64 0) p) 47) = wa := ⟨_, rfl⟩
    rw [hwa]
    have hbk : Bk wa g 47 ((List.replicate p 0).map W64) := by
      rw [← hwa, ← hg, ← replicate_W64]; exact Bk.new' _ _ _
    have hea : Ext w wa := by rw [← hwa]; exact (Ext.refl w).alloc _
    have hgs : w.heap.size ≤ g := by rw [hg]; exact Nat.le_refl _
    clear hg hwa
    have hsb : (s : Int) ≤ 63 := by omega
    have hs64' : s ≤ 64 := by omega
    go_loopw [29] (fun u wr => ∃ (i : Nat) (l : List Nat), i ≤ p ∧ u = .int .i64 (i : Int) ∧ Hid (l.length = p) ∧ Wf l ∧ Bk wr g 47 (l.map W64) ∧
      Hid (nv (l.take i) * 2 ^ s + ys.getD 0 0 % 2 ^ s = nv (ys.take i) + WB ^ i * (ys.getD i 0 % 2 ^ s)) ∧ Ext w wr) (fun u wr => p - (intOf u).toNat)
    case atStart => exact ⟨0, _, Nat.zero_le _, rfl, List.length_replicate, Wf_zeros _, hbk, by simp [Hid, nv], hea⟩
    case round =>
      obtain ⟨i, l, hi, rfl, hll, hwl, hb, hv, hr⟩ := hrel
      clear hbk hea
      by_cases hip : i < p
      · obtain ⟨a, x, rfl, hxk, hxb, hcx⟩ := (hx.ext hr).get (i := q + i) (by omega)
        obtain ⟨o, ho, _, hco⟩ := hb.word hwl (i := i) (by rw [hll.out]; omega)
        have hfr := hb.frozen i
        have hxy : Hid (ys.getD i 0 = x) := (show _ = _ by rw [hyg.out i hip]; exact hxk.out)
        by_cases hi1 : i + 1 < p
        · obtain ⟨a', y, ha', hyk, hyb, hcy⟩ := (hx.ext hr).get (i := q + i + 1) (by omega)
          cases ha'
          have hyy : Hid (ys.getD (i + 1) 0 = y) := (show _ = _ by rw [hyg.out (i + 1) hi1]; exact hyk.out)
          go_upto_region 12 with ((with_reducible refine at_slot (some 41) ?_); refine wpl_u64 rfl rfl rfl rfl rfl (u64_shr hs64') (by have := Nat.div_le_self x (2 ^ s); omega) ?_; intro z hz hzb)
          obtain ⟨w2, hw2⟩ : ∃ w2, wr.setCell ⟨g, i, none⟩ (.int .u64 (z : Int)) = w2 := ⟨_, rfl⟩
          rw [hw2]
          have hb2 : Bk w2 g 47 ((l.set i z).map W64) := by rw [← hw2, ← map_W64_set]; exact hb.set i _
          have hr2 : Ext w w2 := by rw [← hw2]; exact hr.setCell hgs _
          have hwl2 : Wf (l.set i z) := Wf_set hwl i (by rw [WB_def]; omega)
          have hll2 : Hid ((l.set i z).length = p) := (show _ = _ by rw [List.length_set]; exact hll.out)
          have hz2 : Hid ((l.set i z).getD i 0 = z) := (show _ = _ by have := hll.out; simp [List.getD_eq_getElem?_getD, this, hip])
          clear hw2
          obtain ⟨z2, hzk2, hzb2, hcz2⟩ := hb2.word hwl2 (i := i) (by rw [hll2.out]; omega)
          obtain rfl : z2 = z := by rw [← hzk2.out, hz2.out]
          have hfr2 := hb2.frozen i
          obtain ⟨a2, y2, ha2, hyk2, _, hcy2⟩ := (hx.ext hr2).get (i := q + i + 1) (by omega)
          cases ha2
          obtain rfl : y2 = y := by rw [← hyk2.out, hyk.out]
          clear hcy hco hb hr hfr hcx hzk2 hyk2
          have hcy4 : w2.cell? (⟨a.block, a.off + (q + i + 1), none⟩ : Addr) = some (.int .u64 (y2 : Int)) := by simpa [Addr.add] using hcy2
          clear hcy2
          have hmb : y2 * 2 ^ (64 - s) % 18446744073709551616 ≤ 18446744073709551615 := by omega
          obtain ⟨r, hrd⟩ : ∃ r, z2 ||| (y2 * 2 ^ (64 - s) % 18446744073709551616) = r := ⟨_, rfl⟩
          have hrb : r ≤ 18446744073709551615 := by
            have := Nat.or_lt_two_pow (n := 64) (x := z2) (y := y2 * 2 ^ (64 - s) % 18446744073709551616) (by omega) (by omega)
            omega
          have hbits : Hid (bits BinOp.or IntKind.u64 (z2 : Int) (IntKind.u64.wrap ((y2 : Int) * 2 ^ (64 - s))) = (r : Int)) := by
            show _ = _
            rw [wrap_shl, bits_or_u64 hzb hmb, hrd]
          have hsum : Hid (r = x / 2 ^ s + (y2 % 2 ^ s) * 2 ^ (64 - s)) := by
            show _ = _
            rw [← hrd, hz.out]
            rcases shr_word (x := x) (y := y2) hs64 with h | h
            · exact h
            · omega
          clear hrd hmb
          go_region
          rw [hbits.out]
          go_wp2_with fail
          go_roundw
          case rel =>
            refine ⟨i + 1, (l.set i z2).set i r, by omega, by go_num, (show _ = _ by rw [List.length_set, hll2.out]), Wf_set hwl2 i (by rw [WB_def]; omega), by rw [← map_W64_set]; exact (hb2.set i _).drew, ?_, (hr2.setCell hgs _).drew⟩
            show _ = _
            rw [List.set_set, hyy.out]
            exact shr_step (by rw [hll.out]; omega) (by rw [hyl.out]; omega) hxy.out hyy.out hsum.out hs64 (by rw [← hxy.out]; exact hv.out)
          case measure => simp [intOf]; omega
        · have hi2 : ¬ (q : Int) + (i : Int) + 1 < (k : Int) := by omega
          have hyz : Hid (ys.getD (i + 1) 0 = 0) := by
            show _ = _
            rw [List.getD_eq_getElem?_getD, List.getElem?_eq_none (by rw [hyl.out]; omega)]; rfl
          go_wp2_with ((with_reducible refine at_slot (some 41) ?_); refine wpl_u64 rfl rfl rfl rfl rfl (u64_shr hs64') (by have := Nat.div_le_self x (2 ^ s); omega) ?_; intro z hz hzb)
          go_roundw
          case rel =>
            refine ⟨i + 1, l.set i z, by omega, by go_num, (show _ = _ by rw [List.length_set, hll.out]), Wf_set hwl i (by rw [WB_def]; omega), by rw [← map_W64_set]; exact hb.set i _, ?_, hr.setCell hgs _⟩
            have := shr_step (l := l) (y := 0) (z := z) (by rw [hll.out]; omega) (by rw [hyl.out]; omega) hxy.out hyz.out (by rw [hz.out]; simp) hs64 (by rw [← hxy.out]; exact hv.out)
            show _ = _
            rw [hyz.out]
            exact this
          case measure => simp [intOf]; omega
      · obtain rfl : i = p := by omega
        have hval : Hid (nv l = nv xs / 2 ^ n) := by
          show _ = _
          have h := hv.out
          rw [List.take_of_length_le (by rw [hll.out]; exact Nat.le_refl _), List.take_of_length_le (by rw [hyl.out]; exact Nat.le_refl _)] at h
          have h0 : ys.getD i 0 = 0 := by rw [List.getD_eq_getElem?_getD, List.getElem?_eq_none (by rw [hyl.out]; exact Nat.le_refl _)]; rfl
          rw [h0, Nat.zero_mod, Nat.mul_zero, Nat.add_zero] at h
          have h1 := Nat.mod_lt (ys.getD 0 0) (Nat.two_pow_pos s)
          rw [hyv.out, ← h, Nat.mul_comm, Nat.mul_add_div (Nat.two_pow_pos s), Nat.div_eq_of_lt h1, Nat.add_zero]
        have hr2 : Rd wr (some ⟨g, 0, none⟩) i i l := by
          have := hb.rd hwl (o := 0) (n := i) (cap := i) (Nat.le_refl _) (by rw [hll.out]; omega) (by rw [len_maxLen]; omega)
          rwa [List.drop_zero, List.take_of_length_le (by rw [hll.out]; omega)] at this
        have hpm : i ≤ m := by omega
        clear hkp1 hkp2
        go_wp2_with fail
        refine (nat_size hr2 (by omega)).mono ?_
        rintro e w' ⟨t, ht, htn, rfl, rfl⟩
        go_wp2_with fail
        go_ret2
        rw [← hval.out]
        exact RetWE_of (RetW_mk (ys := l) hgs hb hll.out htn (by rw [len_maxLen]; omega) (wd_take_len hwl ht.out).symm hr)
end Go.Proofs.Ytmaconeeonkdgaa
