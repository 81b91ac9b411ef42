/- math/bits.Div64: the walk. -/
import Derived.Test.YtmaconeeonkdgaaDiv64
import Derived.Deep.CutBlock
namespace Go.Proofs.Ytmaconeeonkdgaa
open Go.RowKit

def Div64P (hi lo y : Nat) (w : World) (e : Ending) (w' : World) : Prop :=
  ∃ q r : Nat, Hid (q = (hi * WB + lo) / y) ∧ Hid (r = (hi * WB + lo) % y) ∧ q ≤ 18446744073709551615 ∧ r < y ∧ e = .returned (.tuple #[.int .u64 (q : Int), .int .u64 (r : Int)]) ∧ ∃ m, w' = w.drewN m

theorem div64_zero {lo y : Nat} (hlo : lo ≤ 18446744073709551615) (hy : 1 ≤ y) (hyb : y ≤ 18446744073709551615) (w : World) :
    Calls Try.prog 115 #[.int .u64 0, .int .u64 (lo : Int), .int .u64 (y : Int)] w (Div64P 0 lo y w) := by
  have h1 : ((y : Int) == 0) = false := by simp; omega
  have h2 : ¬ (y : Int) ≤ 0 := by omega
  have h3 : (lo : Int) / (y : Int) ≤ (lo : Int) := Int.ediv_le_self _ (by omega)
  have h4 : 0 ≤ (lo : Int) / (y : Int) := Int.ediv_nonneg (by omega) (by omega)
  have h5 := Int.emod_nonneg (lo : Int) (b := (y : Int)) (by omega)
  have h6 := Int.emod_lt_of_pos (lo : Int) (b := (y : Int)) (by omega)
  go_enter Try.func115, Try.ntmps115
  go_wp2_with fail
  go_quiet (fail)
  go_wp2_with fail
  go_ret2
  refine ⟨lo / y, lo % y, by simp [Hid], by simp [Hid], ?_, Nat.mod_lt _ hy, by simp, _, rfl⟩
  have := Nat.div_le_self lo y
  omega
theorem Guess.fin {yn1 yn0 yy u un q r : Nat} (e : yy = yn1 * 4294967296 + yn0) (h0 : yn0 < 4294967296) (hyy : 0 < yy) (hu : u < yy) (hun : un < 4294967296) (hG : Guess 4294967296 yn1 yn0 u un q r)
    (hd : (q < 4294967296 ∧ q * yn0 ≤ 4294967296 * r + un) ∨ (q ≤ 4294967296 ∧ 4294967296 ≤ r)) : q ≤ 4294967295 ∧ ∃ v, Hid (u * 4294967296 + un = q * yy + v) ∧ v < yy := by
  obtain ⟨a, b⟩ := hG.done h0 hd
  rw [← e] at a b
  refine ⟨?_, u * 4294967296 + un - q * yy, ?_, ?_⟩
  · have : q < 4294967296 := by
      rw [a]
      refine Nat.div_lt_of_lt_mul ?_
      have := Nat.mul_le_mul_right 4294967296 (Nat.succ_le_of_lt hu)
      rw [Nat.succ_mul] at this
      omega
    omega
  · show _ = _
    omega
  · have := Nat.lt_mul_div_succ (u * 4294967296 + un) hyy
    rw [← a, Nat.mul_add, Nat.mul_one, Nat.mul_comm yy q] at this
    omega
theorem quo_rem {q u y r65 rh : Nat} (hy : 0 < y) (hu : u ≤ 18446744073709551615) (e1 : q = u / y) (e2 : r65 = q * y % 18446744073709551616) (e3 : rh = (u + (18446744073709551616 - r65)) % 18446744073709551616) : rh = u % y := by
  have e4 := Nat.div_add_mod u y
  rw [e1, Nat.mul_comm] at e2
  have e5 := Nat.mod_lt u hy
  generalize y * (u / y) = a at *
  generalize u % y = b at *
  omega
set_option maxHeartbeats 4000000 in
theorem div64_pos {hi lo y : Nat} (hhi : 1 ≤ hi) (hlt : hi < y) (hlo : lo ≤ 18446744073709551615) (hyb : y ≤ 18446744073709551615) (w : World) :
    Calls Try.prog 115 #[.int .u64 (hi : Int), .int .u64 (lo : Int), .int .u64 (y : Int)] w (Div64P hi lo y w) := by
  have h1 : ((y : Int) == 0) = false := by simp; omega
  have h2 : ¬ (y : Int) ≤ (hi : Int) := by omega
  have h3 : ((hi : Int) == 0) = false := by simp; omega
  go_enter Try.func115, Try.ntmps115
  go_wp2_with fail
  refine (bits_LeadingZeros64 y hyb _).mono ?_
  rintro e w' ⟨s, hs, hs64, rfl, rfl⟩
  go_upto_block 0 with (first
    | ((with_reducible refine at_slot (some 39) ?_); refine wpl_u64 rfl rfl rfl rfl rfl (u64_shl hs64) (by omega) ?_; intro yy hyy hyyb)
    | ((with_reducible refine at_slot (some 41) ?_); refine wpl_u64 rfl rfl rfl rfl rfl (u64_shr (s := 32) (by omega)) (by omega) ?_; intro yn1 hyn1 hyn1b)
    | ((with_reducible refine at_slot (some 43) ?_); refine wpl_u64 rfl rfl rfl rfl rfl (u64_and (y := 4294967295) hyyb (by omega)) (by have := Nat.and_le_left (n := yy) (m := 4294967295); omega) ?_; intro yn0 hyn0 hyn0b)
    | ((with_reducible refine at_slot (some 46) ?_); refine wpl_u64 rfl rfl rfl rfl rfl (u64_shl hs64) (by omega) ?_; intro r46 h46 hb46)
    | ((with_reducible refine at_slot (some 49) ?_); refine wpl_u64 rfl rfl rfl rfl rfl (u64_sub (x := 64) (y := s) (by omega)) (by omega) ?_; intro r49 h49 hb49)
    | ((with_reducible refine at_slot (some 50) ?_); refine wpl_u64 rfl rfl rfl rfl rfl (u64_shr (s := r49) (by rw [h49.out]; omega)) (by have := Nat.div_le_self lo (2 ^ r49); omega) ?_; intro r50 h50 hb50)
    | ((with_reducible refine at_slot (some 51) ?_); refine wpl_u64 rfl rfl rfl rfl rfl (u64_or hb46 hb50) (by have := Nat.or_lt_two_pow (n := 64) (x := r46) (y := r50) (by omega) (by omega); omega) ?_; intro u hu hub)
    | ((with_reducible refine at_slot (some 54) ?_); refine wpl_u64 rfl rfl rfl rfl rfl (u64_shl hs64) (by omega) ?_; intro un10 h10 hb10)
    | ((with_reducible refine at_slot (some 56) ?_); refine wpl_u64 rfl rfl rfl rfl rfl (u64_shr (s := 32) (by omega)) (by omega) ?_; intro un1 hun1 hun1b)
    | ((with_reducible refine at_slot (some 58) ?_); refine wpl_u64 rfl rfl rfl rfl rfl (u64_and (y := 4294967295) hb10 (by omega)) (by have := Nat.and_le_left (n := un10) (m := 4294967295); omega) ?_; intro un0 hun0 hun0b)
    | ((with_reducible refine at_slot (some 61) ?_); refine wpl_u64 rfl rfl rfl rfl rfl (u64_quo (by have := (div64_yn1 (by omega) hs.out hyy.out hyn1.out).2; omega) hub) (by have := Nat.div_le_self u yn1; omega) ?_; intro q1 hq1 hq1b)
    | ((with_reducible refine at_slot (some 65) ?_); refine wpl_u64 rfl rfl rfl rfl rfl u64_mul (by omega) ?_; intro r65 h65 hb65)
    | ((with_reducible refine at_slot (some 66) ?_); refine wpl_u64 rfl rfl rfl rfl rfl (u64_sub (by omega)) (by omega) ?_; intro rh hrh hrhb))
  have hN := div64_norm hlt hlo hs.out hs64 hyy.out hyn1.out hyn0.out h46.out h49.out h50.out hu.out h10.out hun1.out hun0.out
  have hyn1lo := (div64_yn1 (by omega) hs.out hyy.out hyn1.out).2
  obtain ⟨n1, n2, n3, n4, n5, n6, n7, n8, n9⟩ := hN
  have N1 := Lib.hid n1
  have N2 := Lib.hid n2
  have N3 := Lib.hid n3
  have N5 := Lib.hid n5
  have N6 := Lib.hid n6
  have NL := Lib.hid hyn1lo
  have hyylo : 0 < yy := by omega
  have hyn1hi : (yn1 : Int) ≤ 4294967295 := by omega
  have hyn1pos : 0 < yn1 := by omega
  have hun1hi : (un1 : Int) ≤ 4294967295 := by omega
  have hyn0hi : (yn0 : Int) ≤ 4294967295 := by omega
  have hun0hi : (un0 : Int) ≤ 4294967295 := by omega
  have N8 := Lib.hid n8
  have N9 := Lib.hid n9
  have hq1' : Hid (q1 = u / yn1) := hq1
  have hrh' : Hid (rh = u % yn1) := quo_rem (by omega) hub hq1.out h65.out hrh.out
  clear n1 n2 n3 n4 n5 n6 n7 n8 n9 hyn1lo hyy hyn1 hyn0 h46 h49 h50 hu h10 hun1 hun0 h65 hrh hq1
  clear hb46 hb49 hb50 hb65 hrhb hq1b h1 h2 h3
  go_cut [15, 16] (fun a b wc => ∃ q r v : Nat, a = .int .u64 (q : Int) ∧ b = .int .u64 (r : Int) ∧ q ≤ 4294967295 ∧ Hid (u * 4294967296 + un1 = q * yy + v) ∧ v < yy ∧ w = wc)
  case first =>
    have HG0 := Lib.hid (Guess.start (B := 4294967296) (yn1 := yn1) (yn0 := yn0) (u := u) (un := un1) (by omega) (by have := NL.out; omega) N6.out (by rw [← N2.out]; exact N5.out) N3.out)
    refine wp_block ?_
    go_wp2_with fail
    go_loop [15, 16] (fun a b => ∃ q r : Nat, a = .int .u64 (q : Int) ∧ b = .int .u64 (r : Int) ∧ q ≤ 4294967297 ∧ r ≤ 4294967295 ∧ Hid (Guess 4294967296 yn1 yn0 u un1 q r)) (fun a b => (intOf a).toNat)
    case atStart => exact ⟨q1, rh, rfl, rfl, by have := HG0.out.qb; rw [hq1'.out]; omega, by rw [hrh'.out]; have := Nat.mod_lt u (show 0 < yn1 by omega); omega, by rw [hq1'.out, hrh'.out]; exact HG0⟩
    case round =>
      obtain ⟨q, r, rfl, rfl, hq, hr, hG⟩ := hrel
      by_cases hqB : (4294967296 : Int) ≤ (q : Int)
      · have HS := Lib.hid (hG.out.step N6.out (by rw [← N2.out]; exact N5.out) (Or.inl (by omega)) (by omega))
        have HQ := Lib.hid hq
        by_cases hrB : (4294967296 : Int) ≤ (r : Int) + (yn1 : Int)
        · go_upto_region 20 with (fail)
          have HQB := Lib.hid hqB
          clear hqB
          go_wp2_with fail
          go_meet
          case rel =>
            obtain ⟨a, v, b, c⟩ := Guess.fin N2.out N3.out hyylo N5.out N6.out HS.out (Or.inr ⟨by have := HQB.out; omega, by omega⟩)
            exact ⟨q - 1, r + yn1, v, val_int (by have := HQB.out; omega), val_int (by omega), a, b, c, rfl⟩
        · go_upto_region 20 with (fail)
          have HQB := Lib.hid hqB
          clear hqB
          go_wp2_with fail
          go_round
          case rel => exact ⟨q - 1, r + yn1, val_int (by have := HQB.out; omega), val_int (by omega), by omega, by omega, HS⟩
          case measure => have := HQB.out; simp [intOf]; omega
      · have hp1 : (q : Int) * (yn0 : Int) ≤ 18446744065119617025 := by
          have h : q * yn0 ≤ 4294967295 * 4294967295 := Nat.mul_le_mul (by omega) (by omega)
          rw [← Int.natCast_mul]; omega
        have hp0 : 0 ≤ (q : Int) * (yn0 : Int) := Int.mul_nonneg (by omega) (by omega)
        by_cases hT : 4294967296 * r + un1 < q * yn0
        · have hTi : 4294967296 * (r : Int) + (un1 : Int) < (q : Int) * (yn0 : Int) := by rw [← Int.natCast_mul]; omega
          have hqp := Guess.pos (B := 4294967296) (r := r) (un := un1) (by omega) (Or.inr hT)
          have HS := Lib.hid (hG.out.step N6.out (by rw [← N2.out]; exact N5.out) (Or.inr hT) hqp)
          clear hT
          by_cases hrB : (4294967296 : Int) ≤ (r : Int) + (yn1 : Int)
          · go_wp2_with fail
            go_meet
            case rel =>
              obtain ⟨a, v, b, c⟩ := Guess.fin N2.out N3.out hyylo N5.out N6.out HS.out (Or.inr ⟨by omega, by omega⟩)
              exact ⟨q - 1, r + yn1, v, val_int (by omega), val_int (by omega), a, b, c, rfl⟩
          · go_wp2_with fail
            go_round
            case rel => exact ⟨q - 1, r + yn1, val_int (by omega), val_int (by omega), by omega, by omega, HS⟩
            case measure => simp [intOf]; omega
        · have hTi : ¬ 4294967296 * (r : Int) + (un1 : Int) < (q : Int) * (yn0 : Int) := by rw [← Int.natCast_mul]; omega
          have HT := Lib.hid (show q * yn0 ≤ 4294967296 * r + un1 by omega)
          clear hT
          go_wp2_with fail
          go_meet
          case rel =>
            obtain ⟨a, v, b, c⟩ := Guess.fin N2.out N3.out hyylo N5.out N6.out hG.out (Or.inl ⟨by omega, HT.out⟩)
            exact ⟨q, r, v, rfl, rfl, a, b, c, rfl⟩
  case rest =>
    obtain ⟨qa, ra, v, rfl, rfl, hqa, hv, hvy, rfl⟩ := hcut
    clear hq1' hrh'
    go_upto_block 2 with (first
      | ((with_reducible refine at_slot (some 87) ?_); refine wpl_u64 rfl rfl rfl rfl rfl u64_mul (by omega) ?_; intro r87 h87 hb87)
      | ((with_reducible refine at_slot (some 89) ?_); refine wpl_u64 rfl rfl rfl rfl rfl u64_add (by omega) ?_; intro r89 h89 hb89)
      | ((with_reducible refine at_slot (some 92) ?_); refine wpl_u64 rfl rfl rfl rfl rfl u64_mul (by omega) ?_; intro r92 h92 hb92)
      | ((with_reducible refine at_slot (some 93) ?_); refine wpl_u64 rfl rfl rfl rfl rfl (u64_sub (by omega)) (by omega) ?_; intro v' hv' hbv'; obtain rfl : v' = v := wrap_sub h87.out h89.out h92.out hv'.out hv.out (by omega))
      | ((with_reducible refine at_slot (some 96) ?_); refine wpl_u64 rfl rfl rfl rfl rfl (u64_quo (by omega) (by omega)) (by have := Nat.div_le_self v' yn1; omega) ?_; intro q2 hq2 hq2b)
      | ((with_reducible refine at_slot (some 100) ?_); refine wpl_u64 rfl rfl rfl rfl rfl u64_mul (by omega) ?_; intro r100 h100 hb100)
      | ((with_reducible refine at_slot (some 101) ?_); refine wpl_u64 rfl rfl rfl rfl rfl (u64_sub (by omega)) (by omega) ?_; intro rh2 hrh2 hrhb2))
    have hq2' : Hid (q2 = v' / yn1) := hq2
    have hrh2' : Hid (rh2 = v' % yn1) := quo_rem (by omega) (by omega) hq2.out h100.out hrh2.out
    have NV := Lib.hid hvy
    have N7 := Lib.hid (show un0 < 4294967296 by omega)
    clear hvy hrh2 hq2 h100 h87 h89 h92 hv' hb87 hb89 hb92 hbv' hb100 hrhb2 hq2b
    go_cut [18, 16] (fun a b wc => ∃ q r v : Nat, a = .int .u64 (q : Int) ∧ b = .int .u64 (r : Int) ∧ q ≤ 4294967295 ∧ Hid (v' * 4294967296 + un0 = q * yy + v) ∧ v < yy ∧ w = wc)
    case first =>
      have HG0 := Lib.hid (Guess.start (B := 4294967296) (yn1 := yn1) (yn0 := yn0) (u := v') (un := un0) (by omega) (by have := NL.out; omega) N7.out (by rw [← N2.out]; exact NV.out) N3.out)
      refine wp_block ?_
      go_wp2_with fail
      go_loop [18, 16] (fun a b => ∃ q r : Nat, a = .int .u64 (q : Int) ∧ b = .int .u64 (r : Int) ∧ q ≤ 4294967297 ∧ r ≤ 4294967295 ∧ Hid (Guess 4294967296 yn1 yn0 v' un0 q r)) (fun a b => (intOf a).toNat)
      case atStart => exact ⟨q2, rh2, rfl, rfl, by have := HG0.out.qb; rw [hq2'.out]; omega, by rw [hrh2'.out]; have := Nat.mod_lt v' (show 0 < yn1 by omega); omega, by rw [hq2'.out, hrh2'.out]; exact HG0⟩
      case round =>
        obtain ⟨q, r, rfl, rfl, hq, hr, hG⟩ := hrel
        by_cases hqB : (4294967296 : Int) ≤ (q : Int)
        · have HS := Lib.hid (hG.out.step N7.out (by rw [← N2.out]; exact NV.out) (Or.inl (by omega)) (by omega))
          have HQ := Lib.hid hq
          by_cases hrB : (4294967296 : Int) ≤ (r : Int) + (yn1 : Int)
          · go_upto_region 27 with (fail)
            have HQB := Lib.hid hqB
            clear hqB
            go_wp2_with fail
            go_meet
            case rel =>
              obtain ⟨a, v, b, c⟩ := Guess.fin N2.out N3.out hyylo NV.out N7.out HS.out (Or.inr ⟨by have := HQB.out; omega, by omega⟩)
              exact ⟨q - 1, r + yn1, v, val_int (by have := HQB.out; omega), val_int (by omega), a, b, c, rfl⟩
          · go_upto_region 27 with (fail)
            have HQB := Lib.hid hqB
            clear hqB
            go_wp2_with fail
            go_round
            case rel => exact ⟨q - 1, r + yn1, val_int (by have := HQB.out; omega), val_int (by omega), by omega, by omega, HS⟩
            case measure => have := HQB.out; simp [intOf]; omega
        · have hp1 : (q : Int) * (yn0 : Int) ≤ 18446744065119617025 := by
            have h : q * yn0 ≤ 4294967295 * 4294967295 := Nat.mul_le_mul (by omega) (by omega)
            rw [← Int.natCast_mul]; omega
          have hp0 : 0 ≤ (q : Int) * (yn0 : Int) := Int.mul_nonneg (by omega) (by omega)
          by_cases hT : 4294967296 * r + un0 < q * yn0
          · have hTi : 4294967296 * (r : Int) + (un0 : Int) < (q : Int) * (yn0 : Int) := by rw [← Int.natCast_mul]; omega
            have hqp := Guess.pos (B := 4294967296) (r := r) (un := un0) (by omega) (Or.inr hT)
            have HS := Lib.hid (hG.out.step N7.out (by rw [← N2.out]; exact NV.out) (Or.inr hT) hqp)
            clear hT
            by_cases hrB : (4294967296 : Int) ≤ (r : Int) + (yn1 : Int)
            · go_wp2_with fail
              go_meet
              case rel =>
                obtain ⟨a, v, b, c⟩ := Guess.fin N2.out N3.out hyylo NV.out N7.out HS.out (Or.inr ⟨by omega, by omega⟩)
                exact ⟨q - 1, r + yn1, v, val_int (by omega), val_int (by omega), a, b, c, rfl⟩
            · go_wp2_with fail
              go_round
              case rel => exact ⟨q - 1, r + yn1, val_int (by omega), val_int (by omega), by omega, by omega, HS⟩
              case measure => simp [intOf]; omega
          · have hTi : ¬ 4294967296 * (r : Int) + (un0 : Int) < (q : Int) * (yn0 : Int) := by rw [← Int.natCast_mul]; omega
            have HT := Lib.hid (show q * yn0 ≤ 4294967296 * r + un0 by omega)
            clear hT
            go_wp2_with fail
            go_meet
            case rel =>
              obtain ⟨a, v, b, c⟩ := Guess.fin N2.out N3.out hyylo NV.out N7.out hG.out (Or.inl ⟨by omega, HT.out⟩)
              exact ⟨q, r, v, rfl, rfl, a, b, c, rfl⟩
    case rest =>
      obtain ⟨qb, rb, r, rfl, rfl, hqb, hr, hry, rfl⟩ := hcut
      clear hq2' hrh2'
      have HR := Lib.hid hry
      clear hry
      go_wp2_with (first
        | ((with_reducible refine at_slot (some 126) ?_); refine wpl_u64 rfl rfl rfl rfl rfl u64_mul (by omega) ?_; intro r126 h126 hb126)
        | ((with_reducible refine at_slot (some 128) ?_); refine wpl_u64 rfl rfl rfl rfl rfl u64_add (by omega) ?_; intro r128 h128 hb128)
        | ((with_reducible refine at_slot (some 131) ?_); refine wpl_u64 rfl rfl rfl rfl rfl u64_mul (by omega) ?_; intro r131 h131 hb131)
        | ((with_reducible refine at_slot (some 132) ?_); refine wpl_u64 rfl rfl rfl rfl rfl (u64_sub (by omega)) (by omega) ?_; intro r' hr' hbr'; obtain rfl : r' = r := wrap_sub h126.out h128.out h131.out hr'.out hr.out (by have := HR.out; omega))
        | ((with_reducible refine at_slot (some 134) ?_); refine wpl_u64 rfl rfl rfl rfl rfl (u64_shr hs64) (by have := Nat.div_le_self r' (2 ^ s); omega) ?_; intro rr hrr hrrb))
      go_ret2
      obtain ⟨e1, e2⟩ := div64_final (by omega) N1.out N8.out N9.out hv.out hr.out HR.out
      have hy0 : 0 < y := by omega
      refine ⟨_, _, e1.symm, e2.symm, by omega, ?_, ?_, 0, rfl⟩
      · rw [← e2]; exact Nat.mod_lt _ hy0
      · rw [← hrr.out]; simp
theorem bits_Div64 {hi lo y : Nat} (hlt : hi < y) (hlo : lo ≤ 18446744073709551615) (hyb : y ≤ 18446744073709551615) (w : World) :
    Calls Try.prog 115 #[.int .u64 (hi : Int), .int .u64 (lo : Int), .int .u64 (y : Int)] w (Div64P hi lo y w) := by
  rcases Nat.eq_zero_or_pos hi with e | e
  · subst e; exact div64_zero hlo (by omega) hyb w
  · exact div64_pos e hlt hlo hyb w
end Go.Proofs.Ytmaconeeonkdgaa
