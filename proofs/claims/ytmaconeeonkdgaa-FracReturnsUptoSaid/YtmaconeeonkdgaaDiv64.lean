/- math/bits.Div64: quotient and rest of two words by one. The plain law first, then the walk. -/
import Derived.Test.YtmaconeeonkdgaaBits
namespace Go.Proofs.Ytmaconeeonkdgaa
open Go.RowKit

/-- an operation on two values, by what its run comes to -/
theorem wpl_bin {P : Program} {w : World} {ops : Array Oper} {rest : List Oper} {o : Oper} {a : Act} {Q : Exit → Act → World → Prop} (hgd : o.guard = none) {op : BinOp} {t ty : TypeId} {x y : Operand} (ho : o.op = .binOp op t x y ty)
    {vx vy v : Value} (hx : a.eval x = vx) (hy : a.eval y = vy) (hne : (op matches .eql | .neq) = false) (hr : ∀ w, (binOp op t vx vy).run P w = .ok v w)
    (h : wpList P ops Q rest (a.put o.dst v) w) : wpList P ops Q (o :: rest) a w := by
  refine wpList_plain hgd fun K hK => ?_
  unfold Oper.wp
  have hg : (eqGuard op t x y vx vy).run P w = .ok () w := by
    unfold eqGuard
    cases op <;> first | rfl | (simp at hne)
  simp only [execOp, ho, hx, hy, Sem.run_bind, hg, Result.andThen_ok, hr, Sem.run_pure, Oper.upon]
  exact hK _ _ h
/-- the same, the result a word that is told by a hidden equation -/
theorem wpl_u64 {P : Program} {w : World} {ops : Array Oper} {rest : List Oper} {o : Oper} {a : Act} {Q : Exit → Act → World → Prop} (hgd : o.guard = none) {op : BinOp} {t ty : TypeId} {x y : Operand} (ho : o.op = .binOp op t x y ty)
    {vx vy : Value} {f : Nat} (hx : a.eval x = vx) (hy : a.eval y = vy) (hne : (op matches .eql | .neq) = false) (hr : ∀ (P : Program) (t : TypeId) (w : World), (binOp op t vx vy).run P w = .ok (.int .u64 (f : Int)) w) (hf : f ≤ 18446744073709551615)
    (h : ∀ r : Nat, Hid (r = f) → r ≤ 18446744073709551615 → wpList P ops Q rest (a.put o.dst (.int .u64 (r : Int))) w) : wpList P ops Q (o :: rest) a w :=
  wpl_bin hgd ho hx hy hne (fun w => hr P t w) (h f rfl hf)

theorem wrap_u64_nat (n : Nat) : IntKind.u64.wrap (n : Int) = ((n % 18446744073709551616 : Nat) : Int) := by
  simp [IntKind.wrap, IntKind.bits, IntKind.signed]
theorem u64_shl {x s : Nat} (hs : s ≤ 64) (P : Program) (t : TypeId) (w : World) : (binOp .shl t (.int .u64 (x : Int)) (.int .u64 (s : Int))).run P w = .ok (.int .u64 ((x * 2 ^ s % 18446744073709551616 : Nat) : Int)) w := by
  have e : ((x : Int) * 2 ^ min (s : Int).toNat IntKind.u64.bits) = ((x * 2 ^ s : Nat) : Int) := by
    rw [Int.toNat_natCast, show min s IntKind.u64.bits = s from Nat.min_eq_left hs]; simp
  simp only [binOp]
  rw [shift_shl_any _ _ _ _ (by omega), e, wrap_u64_nat]; rfl
theorem u64_shr {x s : Nat} (hs : s ≤ 64) (P : Program) (t : TypeId) (w : World) : (binOp .shr t (.int .u64 (x : Int)) (.int .u64 (s : Int))).run P w = .ok (.int .u64 ((x / 2 ^ s : Nat) : Int)) w := by
  have e : ((x : Int) / 2 ^ min (s : Int).toNat IntKind.u64.bits) = ((x / 2 ^ s : Nat) : Int) := by
    rw [Int.toNat_natCast, show min s IntKind.u64.bits = s from Nat.min_eq_left hs]; simp
  simp only [binOp]
  rw [shift_shr_any _ _ _ _ (by omega), e]; rfl
theorem u64_mul {x y : Nat} (P : Program) (t : TypeId) (w : World) : (binOp .mul t (.int .u64 (x : Int)) (.int .u64 (y : Int))).run P w = .ok (.int .u64 ((x * y % 18446744073709551616 : Nat) : Int)) w := by
  rw [← wrap_u64_nat, Int.natCast_mul]; rfl
theorem u64_add {x y : Nat} (P : Program) (t : TypeId) (w : World) : (binOp .add t (.int .u64 (x : Int)) (.int .u64 (y : Int))).run P w = .ok (.int .u64 (((x + y) % 18446744073709551616 : Nat) : Int)) w := by
  rw [← wrap_u64_nat, Int.natCast_add]; rfl
theorem u64_sub {x y : Nat} (hy : y ≤ 18446744073709551616) (P : Program) (t : TypeId) (w : World) : (binOp .sub t (.int .u64 (x : Int)) (.int .u64 (y : Int))).run P w = .ok (.int .u64 (((x + (18446744073709551616 - y)) % 18446744073709551616 : Nat) : Int)) w := by
  have e : IntKind.u64.wrap ((x : Int) - (y : Int)) = (((x + (18446744073709551616 - y)) % 18446744073709551616 : Nat) : Int) := by
    simp only [IntKind.wrap, IntKind.bits, IntKind.signed]
    simp
    omega
  rw [← e]; rfl
theorem u64_quo {x y : Nat} (hy : y ≠ 0) (hx : x ≤ 18446744073709551615) (P : Program) (t : TypeId) (w : World) : (binOp .quo t (.int .u64 (x : Int)) (.int .u64 (y : Int))).run P w = .ok (.int .u64 ((x / y : Nat) : Int)) w := by
  have h1 := Nat.div_le_self x y
  have e : IntKind.u64.wrap ((x : Int).tdiv (y : Int)) = ((x / y : Nat) : Int) := by
    have : (x : Int).tdiv (y : Int) = ((x / y : Nat) : Int) := by rw [Int.tdiv_eq_ediv_of_nonneg (by omega)]; simp
    rw [this, wrap_u64_nat, Nat.mod_eq_of_lt (by omega)]
  simp only [binOp, Op.intDiv]
  simp [hy]
  rw [show (↑x / ↑y : Int) = ((x / y : Nat) : Int) from by simp] at *
  simpa [Int.tdiv_eq_ediv_of_nonneg] using e
theorem ofInt_64 {x : Nat} (hx : x ≤ 18446744073709551615) : (BitVec.ofInt 64 (x : Int)).toNat = x := ofInt_u64 x (by omega)
theorem u64_or {x y : Nat} (hx : x ≤ 18446744073709551615) (hy : y ≤ 18446744073709551615) (P : Program) (t : TypeId) (w : World) : (binOp .or t (.int .u64 (x : Int)) (.int .u64 (y : Int))).run P w = .ok (.int .u64 ((x ||| y : Nat) : Int)) w := by
  have e : IntKind.u64.wrap ((BitVec.ofInt 64 (x : Int) ||| BitVec.ofInt 64 (y : Int)).toNat : Int) = ((x ||| y : Nat) : Int) := by
    rw [BitVec.toNat_or, ofInt_64 hx, ofInt_64 hy, wrap_u64_nat, Nat.mod_eq_of_lt (Nat.or_lt_two_pow (n := 64) (by omega) (by omega))]
  rw [← e]; rfl
theorem u64_and {x y : Nat} (hx : x ≤ 18446744073709551615) (hy : y ≤ 18446744073709551615) (P : Program) (t : TypeId) (w : World) : (binOp .and t (.int .u64 (x : Int)) (.int .u64 (y : Int))).run P w = .ok (.int .u64 ((x &&& y : Nat) : Int)) w := by
  have e : IntKind.u64.wrap ((BitVec.ofInt 64 (x : Int) &&& BitVec.ofInt 64 (y : Int)).toNat : Int) = ((x &&& y : Nat) : Int) := by
    rw [BitVec.toNat_and, ofInt_64 hx, ofInt_64 hy, wrap_u64_nat, Nat.mod_eq_of_lt (Nat.and_lt_two_pow (n := 64) _ (by omega))]
  rw [← e]; rfl
/-- a high part and a low part laid together -/
theorem or_join {x y k : Nat} (hy : y < 2 ^ k) : (x * 2 ^ k) ||| y = x * 2 ^ k + y := nat_join k _ _ (by simp) hy

/-- one half digit of the quotient: the guess (q, r) -/
structure Guess (B yn1 yn0 u un q r : Nat) : Prop where
  eq : q * yn1 + r = u
  top : u * B + un < (q + 1) * (yn1 * B + yn0)
  qb : q ≤ B + 1
theorem Guess.start {B yn1 yn0 u un : Nat} (_hB : 0 < B) (h1 : B ≤ 2 * yn1) (hun : un < B) (hu : u < yn1 * B + yn0) (h0 : yn0 < B) : Guess B yn1 yn0 u un (u / yn1) (u % yn1) := by
  have hy1 : 0 < yn1 := by omega
  refine ⟨by rw [Nat.mul_comm]; exact Nat.div_add_mod u yn1, ?_, ?_⟩
  · have h2 : u < (u / yn1 + 1) * yn1 := by
      rw [Nat.mul_comm]; exact Nat.lt_mul_div_succ u hy1
    have h3 : u * B + B ≤ ((u / yn1 + 1) * yn1) * B := by
      have := Nat.mul_le_mul_right B (Nat.succ_le_of_lt h2)
      rwa [Nat.succ_mul] at this
    rw [Nat.mul_add, ← Nat.mul_assoc]
    omega
  · have h2 : u < (B + 2) * yn1 := by
      rw [Nat.add_mul, Nat.mul_comm B]
      omega
    have := (Nat.div_lt_iff_lt_mul hy1).2 h2
    omega
theorem Guess.pos {B yn0 un q r : Nat} (hB : 0 < B) (ht : B ≤ q ∨ B * r + un < q * yn0) : 0 < q := by
  rcases ht with h | h
  · omega
  · rcases Nat.eq_zero_or_pos q with e | e
    · subst e; simp at h
    · exact e
theorem Guess.step {B yn1 yn0 u un q r : Nat} (h : Guess B yn1 yn0 u un q r) (hun : un < B) (hu : u < yn1 * B + yn0) (ht : B ≤ q ∨ B * r + un < q * yn0) (hq : 0 < q) : Guess B yn1 yn0 u un (q - 1) (r + yn1) := by
  obtain ⟨e, ht', qb⟩ := h
  refine ⟨?_, ?_, by omega⟩
  · have : q * yn1 = (q - 1) * yn1 + yn1 := by
      conv => lhs; rw [show q = (q - 1) + 1 from by omega]
      rw [Nat.succ_mul]
    omega
  · rw [Nat.sub_add_cancel hq, Nat.mul_add, ← Nat.mul_assoc]
    rcases ht with h | h
    · have h1 : B * (yn1 * B + yn0) ≤ q * (yn1 * B + yn0) := Nat.mul_le_mul_right _ h
      have h2 : B * (u + 1) ≤ B * (yn1 * B + yn0) := Nat.mul_le_mul_left _ hu
      rw [Nat.mul_add, ← Nat.mul_assoc] at h1
      rw [Nat.mul_succ, Nat.mul_comm B u] at h2
      have h3 : q * (yn1 * B + yn0) = q * yn1 * B + q * yn0 := by rw [Nat.mul_add, Nat.mul_assoc]
      have h4 : B * (yn1 * B + yn0) = B * yn1 * B + B * yn0 := by rw [Nat.mul_add, Nat.mul_assoc]
      omega
    · have h1 : (q * yn1 + r) * B = u * B := by rw [e]
      rw [Nat.add_mul, Nat.mul_comm r B] at h1
      omega
/-- where the search ends the guess is right -/
theorem Guess.done {B yn1 yn0 u un q r : Nat} (h : Guess B yn1 yn0 u un q r) (h0 : yn0 < B) (hd : (q < B ∧ q * yn0 ≤ B * r + un) ∨ (q ≤ B ∧ B ≤ r)) :
    q = (u * B + un) / (yn1 * B + yn0) ∧ q * (yn1 * B + yn0) ≤ u * B + un := by
  obtain ⟨e, ht, _⟩ := h
  have key : q * yn0 ≤ B * r + un := by
    rcases hd with ⟨_, h⟩ | ⟨h1, h2⟩
    · exact h
    · have h3 : q * yn0 ≤ B * B := Nat.mul_le_mul h1 (by omega)
      have h4 : B * B ≤ B * r := Nat.mul_le_mul_left _ h2
      omega
  have hle : q * (yn1 * B + yn0) ≤ u * B + un := by
    have h1 : (q * yn1 + r) * B = u * B := by rw [e]
    rw [Nat.add_mul, Nat.mul_comm r B] at h1
    rw [Nat.mul_add, ← Nat.mul_assoc]
    omega
  refine ⟨?_, hle⟩
  have hpos : 0 < yn1 * B + yn0 := by
    rcases Nat.eq_zero_or_pos (yn1 * B + yn0) with h | h
    · rw [h] at ht; simp at ht
    · exact h
  exact (Nat.div_eq_of_lt_le (by rw [Nat.mul_comm] at hle; rwa [Nat.mul_comm]) ht).symm
/-- what wraps round comes out right where the true number is a word -/
theorem wrap_sub {a b c d r1 r2 r3 r4 : Nat} (h1 : r1 = a % 18446744073709551616) (h2 : r2 = (r1 + b) % 18446744073709551616) (h3 : r3 = c % 18446744073709551616) (h4 : r4 = (r2 + (18446744073709551616 - r3)) % 18446744073709551616)
    (h : a + b = c + d) (hd : d ≤ 18446744073709551615) : r4 = d := by
  omega
theorem norm_word {y s : Nat} (hy : y ≠ 0) (hs : s + blen y = 64) : y * 2 ^ s < 18446744073709551616 ∧ 9223372036854775808 ≤ y * 2 ^ s := by
  have h1 := lt_blen y
  have h2 := blen_le_self hy
  have hb : blen y ≠ 0 := fun h => hy (blen_eq_zero.1 h)
  have h3 : y * 2 ^ s < 2 ^ blen y * 2 ^ s := Nat.mul_lt_mul_of_pos_right h1 (Nat.two_pow_pos s)
  have h4 : 2 ^ (blen y - 1) * 2 ^ s ≤ y * 2 ^ s := Nat.mul_le_mul_right _ h2
  rw [← Nat.pow_add, show blen y + s = 64 from by omega] at h3
  rw [← Nat.pow_add, show blen y - 1 + s = 63 from by omega] at h4
  exact ⟨h3, h4⟩
theorem div64_yn1 {y s yy yn1 : Nat} (hy : y ≠ 0) (hs : s + blen y = 64) (hyy : yy = y * 2 ^ s % 18446744073709551616) (h1 : yn1 = yy / 2 ^ 32) : yy = y * 2 ^ s ∧ 2147483648 ≤ yn1 := by
  obtain ⟨a, b⟩ := norm_word hy hs
  rw [Nat.mod_eq_of_lt a] at hyy
  refine ⟨hyy, ?_⟩
  rw [h1, hyy]; omega
theorem and_mask (x : Nat) : x &&& 4294967295 = x % 4294967296 := Nat.and_two_pow_sub_one_eq_mod x 32
theorem shl_split {lo s : Nat} (hs : s ≤ 64) : lo * 2 ^ s = lo / 2 ^ (64 - s) * 18446744073709551616 + lo * 2 ^ s % 18446744073709551616 := by
  have e : lo * 2 ^ s / 18446744073709551616 = lo / 2 ^ (64 - s) := by
    have h : (18446744073709551616 : Nat) = 2 ^ (64 - s) * 2 ^ s := by rw [← Nat.pow_add, show 64 - s + s = 64 from by omega]
    conv => lhs; rw [h]
    exact Nat.mul_div_mul_right _ _ (Nat.two_pow_pos s)
  rw [← e, Nat.mul_comm (lo * 2 ^ s / 18446744073709551616)]
  exact (Nat.div_add_mod _ _).symm
theorem div64_norm {hi lo y s yy yn1 yn0 r46 r49 r50 u un10 un1 un0 : Nat} (hlt : hi < y) (hlo : lo ≤ 18446744073709551615) (hs : s + blen y = 64) (hs64 : s ≤ 64)
    (hyy : yy = y * 2 ^ s % 18446744073709551616) (h1 : yn1 = yy / 2 ^ 32) (h0 : yn0 = yy &&& 4294967295) (h46 : r46 = hi * 2 ^ s % 18446744073709551616) (h49 : r49 = (64 + (18446744073709551616 - s)) % 18446744073709551616)
    (h50 : r50 = lo / 2 ^ r49) (hu : u = r46 ||| r50) (h10 : un10 = lo * 2 ^ s % 18446744073709551616) (hu1 : un1 = un10 / 2 ^ 32) (hu0 : un0 = un10 &&& 4294967295) :
    yy = y * 2 ^ s ∧ yy = yn1 * 4294967296 + yn0 ∧ yn0 < 4294967296 ∧ yn1 < 4294967296 ∧ u < yy ∧ un1 < 4294967296 ∧ un0 < 4294967296 ∧ un10 = un1 * 4294967296 + un0 ∧ (hi * WB + lo) * 2 ^ s = u * 18446744073709551616 + un10 := by
  obtain ⟨e1, _⟩ := div64_yn1 (by omega) hs hyy h1
  have hyb := (norm_word (y := y) (by omega) hs).1
  have e49 : r49 = 64 - s := by omega
  have hhi : hi * 2 ^ s < y * 2 ^ s := Nat.mul_lt_mul_of_pos_right hlt (Nat.two_pow_pos s)
  have e46 : r46 = hi * 2 ^ s := by rw [h46, Nat.mod_eq_of_lt (by omega)]
  have hsp := shl_split (lo := lo) hs64
  rw [e49] at h50
  have hr50 : r50 < 2 ^ s := by
    rw [h50]
    refine Nat.div_lt_of_lt_mul ?_
    rw [← Nat.pow_add, show 64 - s + s = 64 from by omega]
    omega
  have eu : u = hi * 2 ^ s + r50 := by rw [hu, e46, or_join hr50]
  rw [and_mask] at h0 hu0
  have eU : (hi * WB + lo) * 2 ^ s = u * 18446744073709551616 + un10 := by
    rw [Nat.add_mul, WB_def, hsp, eu, ← h50, ← h10, Nat.add_mul, Nat.mul_right_comm]
    omega
  have huy : u < yy := by
    have h2 : (hi + 1) * 2 ^ s ≤ y * 2 ^ s := Nat.mul_le_mul_right _ hlt
    rw [Nat.succ_mul] at h2
    omega
  refine ⟨e1, by omega, by omega, by omega, huy, by omega, by omega, by omega, eU⟩
theorem div64_final {hi lo y s yy u un10 un1 un0 q1 v q0 r : Nat} (hy : 0 < y) (e1 : yy = y * 2 ^ s) (e10 : un10 = un1 * 4294967296 + un0) (eU : (hi * WB + lo) * 2 ^ s = u * 18446744073709551616 + un10)
    (hq1 : u * 4294967296 + un1 = q1 * yy + v) (hq0 : v * 4294967296 + un0 = q0 * yy + r) (hr : r < yy) :
    (hi * WB + lo) / y = q1 * 4294967296 + q0 ∧ (hi * WB + lo) % y = r / 2 ^ s := by
  have hp := Nat.two_pow_pos s
  have e2 : (hi * WB + lo) * 2 ^ s = (q1 * 4294967296 + q0) * yy + r := by
    have e3 : (q1 * 4294967296 + q0) * yy = (q1 * yy) * 4294967296 + q0 * yy := by rw [Nat.add_mul, Nat.mul_right_comm]
    have e4 : u * 18446744073709551616 + un1 * 4294967296 = (u * 4294967296 + un1) * 4294967296 := by rw [Nat.add_mul, Nat.mul_assoc]
    rw [eU, e10, e3, ← Nat.add_assoc, e4, hq1, Nat.add_mul, Nat.add_assoc, hq0, Nat.add_assoc]
  have hyy : 0 < yy := by rw [e1]; exact Nat.mul_pos hy hp
  constructor
  · rw [← Nat.mul_div_mul_right _ _ hp, ← e1, e2, Nat.mul_comm _ yy, Nat.mul_add_div hyy, Nat.div_eq_of_lt hr, Nat.add_zero]
  · have h := Nat.mul_mod_mul_right (2 ^ s) (hi * WB + lo) y
    rw [← e1, e2, Nat.mul_comm _ yy, Nat.mul_add_mod, Nat.mod_eq_of_lt hr] at h
    rw [h, Nat.mul_div_cancel _ hp]
end Go.Proofs.Ytmaconeeonkdgaa
