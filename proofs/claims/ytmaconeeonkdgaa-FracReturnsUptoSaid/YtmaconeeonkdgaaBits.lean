/- math/bits at this program: Add64 and Sub64 as laws of an operation of the walk, the others as contracts. -/
import Derived.Test.YtmaconeeonkdgaaShelf
import Derived.Test.YtmaconeeonkdgaaMem
import Derived.Shelf.Spec.BitsCarry
import Derived.Lib.ItoaNum
namespace Go.Proofs.Ytmaconeeonkdgaa
open Go.RowKit

/-- the number of binary digits -/
def blen (n : Nat) : Nat := if n = 0 then 0 else Nat.log2 n + 1
theorem blen_zero : blen 0 = 0 := rfl
theorem lt_blen (n : Nat) : n < 2 ^ blen n := by
  unfold blen
  split
  · omega
  · exact Nat.lt_log2_self
theorem blen_le_self {n : Nat} (h : n ≠ 0) : 2 ^ (blen n - 1) ≤ n := by
  unfold blen
  rw [if_neg h, Nat.add_sub_cancel]
  exact Nat.log2_self_le h
theorem blen_eq_zero {n : Nat} : blen n = 0 ↔ n = 0 := by
  unfold blen; split <;> simp_all
theorem blen_le {n k : Nat} (h : n < 2 ^ k) : blen n ≤ k := by
  by_cases h0 : n = 0
  · subst h0; rw [blen_zero]; omega
  · have h1 := blen_le_self h0
    have h2 : 2 ^ (blen n - 1) < 2 ^ k := Nat.lt_of_le_of_lt h1 h
    have := (Nat.pow_lt_pow_iff_right (by omega : 1 < 2)).1 h2
    have h3 : blen n ≠ 0 := fun e => h0 (blen_eq_zero.1 e)
    omega
theorem blen_unique {n k : Nat} (h1 : n < 2 ^ k) (h2 : k = 0 ∨ 2 ^ (k - 1) ≤ n) : blen n = k := by
  have h3 := blen_le h1
  rcases h2 with h | h
  · omega
  · by_cases h0 : k = 0
    · omega
    · have h4 : 2 ^ (k - 1) < 2 ^ blen n := Nat.lt_of_le_of_lt h (lt_blen n)
      have := (Nat.pow_lt_pow_iff_right (by omega : 1 < 2)).1 h4
      omega
theorem bitLen_eq (x : Nat) (h : x < 18446744073709551616) : Lib.bitLen x = blen x := by
  by_cases h0 : x = 0
  · subst h0; simp [Lib.bitLen, Lib.bitLenAux_zero, blen_zero]
  · obtain ⟨a, b, c⟩ := Lib.bitLenAux_bounds 64 x h h0
    exact (blen_unique c (Or.inr b)).symm
theorem WB_pow : WB = 2 ^ 64 := by decide

/-- what the walk shows of a call of Add64, Sub64 -/
theorem call_add64 (x y c : Nat) (hc : c ≤ 1) (w : World) :
    (callFunc 84 #[.int .u64 (x : Int), .int .u64 (y : Int), .int .u64 (c : Int)]).run Try.prog w =
      .ok (.value (.tuple #[.int .u64 (((x + y + c) % 18446744073709551616 : Nat) : Int), .int .u64 (((x + y + c) / 18446744073709551616 : Nat) : Int)])) w := by
  rw [run_callFunc_extern Try.func84 (by kernel_rfl) (by kernel_rfl) (by kernel_rfl) (e := add64Entry) (by kernel_rfl), run_add64 x y c (by omega) (by omega) (by omega) (by omega)]
  simp only [Result.andThen]
  congr 5 <;> omega
/-- s and carry of bits.Add64, as a rule of the walk -/
theorem add64_run {x y c : Nat} (hc : c ≤ 1) (hx : x ≤ 18446744073709551615) (hy : y ≤ 18446744073709551615) : ∃ s d : Nat, Hid (s + WB * d = x + y + c) ∧ s ≤ 18446744073709551615 ∧ d ≤ 1 ∧
    ∀ w, (callFunc 84 #[.int .u64 (x : Int), .int .u64 (y : Int), .int .u64 (c : Int)]).run Try.prog w = .ok (.value (.tuple #[.int .u64 (s : Int), .int .u64 (d : Int)])) w :=
  ⟨(x + y + c) % 18446744073709551616, (x + y + c) / 18446744073709551616, (show _ = _ by rw [WB_def]; exact Nat.mod_add_div _ _), by omega, by omega, fun w => call_add64 x y c hc w⟩
theorem add64_run0 {x y : Nat} (hx : x ≤ 18446744073709551615) (hy : y ≤ 18446744073709551615) : ∃ s d : Nat, Hid (s + WB * d = x + y) ∧ s ≤ 18446744073709551615 ∧ d ≤ 1 ∧
    ∀ w, (callFunc 84 #[.int .u64 (x : Int), .int .u64 (y : Int), .int .u64 0]).run Try.prog w = .ok (.value (.tuple #[.int .u64 (s : Int), .int .u64 (d : Int)])) w :=
  add64_run (c := 0) (by omega) hx hy
theorem add64_runz {x c : Nat} (hc : c ≤ 1) (hx : x ≤ 18446744073709551615) : ∃ s d : Nat, Hid (s + WB * d = x + c) ∧ s ≤ 18446744073709551615 ∧ d ≤ 1 ∧
    ∀ w, (callFunc 84 #[.int .u64 (x : Int), .int .u64 0, .int .u64 (c : Int)]).run Try.prog w = .ok (.value (.tuple #[.int .u64 (s : Int), .int .u64 (d : Int)])) w :=
  add64_run (y := 0) hc hx (by omega)
theorem add64_runz1 {x : Nat} (hx : x ≤ 18446744073709551615) : ∃ s d : Nat, Hid (s + WB * d = x + 1) ∧ s ≤ 18446744073709551615 ∧ d ≤ 1 ∧
    ∀ w, (callFunc 84 #[.int .u64 (x : Int), .int .u64 0, .int .u64 1]).run Try.prog w = .ok (.value (.tuple #[.int .u64 (s : Int), .int .u64 (d : Int)])) w :=
  add64_run (y := 0) (c := 1) (by omega) hx (by omega)
/-- s and carry of bits.Add64 -/
theorem wpl_add64 {w : World} {ops : Array Oper} {rest : List Oper} {o : Oper} {a : Act} {Q : Exit → Act → World → Prop} (hgd : o.guard = none) (x y c : Operand) {ts : Array TypeId}
    (ho : o.op = .call { callee := .value (.func 84), args := #[x, y, c], argTypes := ts }) (X Y C : Nat) (hx : a.eval x = .int .u64 (X : Int)) (hy : a.eval y = .int .u64 (Y : Int)) (hz : a.eval c = .int .u64 (C : Int)) (hC : C ≤ 1) (hX : X ≤ 18446744073709551615) (hY : Y ≤ 18446744073709551615)
    (h : ∀ s d : Nat, Hid (s + WB * d = X + Y + C) → s ≤ 18446744073709551615 → d ≤ 1 → wpList Try.prog ops Q rest (a.put o.dst (.tuple #[.int .u64 (s : Int), .int .u64 (d : Int)])) w) : wpList Try.prog ops Q (o :: rest) a w := by
  refine wpList_plain hgd fun K hK => ?_
  have hrun := call_add64 X Y C hC w
  unfold Oper.wp
  have hf : a.eval (.func 84) = .func (.func 84) #[] #[] := rfl
  simp [execOp, ho, resolve, invoke, hf, hx, hy, hz, hrun, Deferred.ofValue, Oper.upon]
  have := hK _ _ (h ((X + Y + C) % 18446744073709551616) ((X + Y + C) / 18446744073709551616) (show _ = _ by rw [WB_def]; exact Nat.mod_add_div _ _) (by omega) (by omega))
  simpa using this
theorem call_sub64 (x y b : Nat) (hb : b ≤ 1) (w : World) :
    (callFunc 85 #[.int .u64 (x : Int), .int .u64 (y : Int), .int .u64 (b : Int)]).run Try.prog w =
      .ok (.value (.tuple #[.int .u64 (((x + 18446744073709551616 - y - b) % 18446744073709551616 : Nat) : Int), .int .u64 ((if x < y + b then 1 else 0 : Nat) : Int)])) w := by
  rw [run_callFunc_extern Try.func85 (by kernel_rfl) (by kernel_rfl) (by kernel_rfl) (e := sub64Entry) (by kernel_rfl), run_sub64 x y b hb]
  rfl
theorem sub64_run {x y c : Nat} (hc : c ≤ 1) (hx : x ≤ 18446744073709551615) (hy : y ≤ 18446744073709551615) : ∃ s d : Nat, Hid (s + y + c = x + WB * d) ∧ s ≤ 18446744073709551615 ∧ d ≤ 1 ∧
    ∀ w, (callFunc 85 #[.int .u64 (x : Int), .int .u64 (y : Int), .int .u64 (c : Int)]).run Try.prog w = .ok (.value (.tuple #[.int .u64 (s : Int), .int .u64 (d : Int)])) w := by
  have hrun := fun w => call_sub64 x y c hc w
  have e1 : (x + 18446744073709551616 - y - c) % 18446744073709551616 + y + c = x + WB * (if x < y + c then 1 else 0) := by rw [WB_def]; split <;> omega
  have e2 : (x + 18446744073709551616 - y - c) % 18446744073709551616 ≤ 18446744073709551615 := by omega
  have e3 : (if x < y + c then 1 else 0) ≤ 1 := by split <;> omega
  exact ⟨_, _, e1, e2, e3, hrun⟩
theorem sub64_runz1 {x : Nat} (hx : x ≤ 18446744073709551615) : ∃ s d : Nat, Hid (s + 0 + 1 = x + WB * d) ∧ s ≤ 18446744073709551615 ∧ d ≤ 1 ∧
    ∀ w, (callFunc 85 #[.int .u64 (x : Int), .int .u64 0, .int .u64 1]).run Try.prog w = .ok (.value (.tuple #[.int .u64 (s : Int), .int .u64 (d : Int)])) w :=
  sub64_run (y := 0) (c := 1) (by omega) hx (by omega)
/-- difference and borrow of bits.Sub64 -/
theorem wpl_sub64 {w : World} {ops : Array Oper} {rest : List Oper} {o : Oper} {a : Act} {Q : Exit → Act → World → Prop} (hgd : o.guard = none) (x y c : Operand) {ts : Array TypeId}
    (ho : o.op = .call { callee := .value (.func 85), args := #[x, y, c], argTypes := ts }) (X Y C : Nat) (hx : a.eval x = .int .u64 (X : Int)) (hy : a.eval y = .int .u64 (Y : Int)) (hz : a.eval c = .int .u64 (C : Int)) (hC : C ≤ 1) (hX : X ≤ 18446744073709551615) (hY : Y ≤ 18446744073709551615)
    (h : ∀ s d : Nat, Hid (s + Y + C = X + WB * d) → s ≤ 18446744073709551615 → d ≤ 1 → wpList Try.prog ops Q rest (a.put o.dst (.tuple #[.int .u64 (s : Int), .int .u64 (d : Int)])) w) : wpList Try.prog ops Q (o :: rest) a w := by
  refine wpList_plain hgd fun K hK => ?_
  have hrun := call_sub64 X Y C hC w
  have e1 : (X + 18446744073709551616 - Y - C) % 18446744073709551616 + Y + C = X + WB * (if X < Y + C then 1 else 0) := by rw [WB_def]; split <;> omega
  have e2 : (X + 18446744073709551616 - Y - C) % 18446744073709551616 ≤ 18446744073709551615 := by omega
  have e3 : (if X < Y + C then 1 else 0) ≤ 1 := by split <;> omega
  generalize (X + 18446744073709551616 - Y - C) % 18446744073709551616 = s at *
  generalize (if X < Y + C then 1 else 0) = d at *
  unfold Oper.wp
  have hf : a.eval (.func 85) = .func (.func 85) #[] #[] := rfl
  simp only [execOp, ho, resolve, invoke, hf, Deferred.ofValue, List.map_toArray, List.map_cons, List.map_nil, hx, hy, hz, Sem.run_bind, Sem.run_pure, Result.andThen_ok, Array.empty_append, Array.append_empty, hrun, Oper.upon]
  exact hK _ _ (h s d e1 e2 e3)

/-- the others, as contracts -/
theorem bits_Mul64 (x y : Nat) (hx : x ≤ 18446744073709551615) (hy : y ≤ 18446744073709551615) (w : World) :
    Calls Try.prog 112 #[.int .u64 (x : Int), .int .u64 (y : Int)] w fun e w' => ∃ hi lo : Nat, Hid (lo + WB * hi = x * y) ∧ hi ≤ 18446744073709551615 ∧ lo ≤ 18446744073709551615 ∧
      e = .returned (.tuple #[.int .u64 (hi : Int), .int .u64 (lo : Int)]) ∧ w = w' := by
  refine (Try.bits_Mul64 x y (by omega) (by omega) w).mono ?_
  rintro e w' ⟨rfl, rfl⟩
  refine ⟨x * y / 18446744073709551616, x * y % 18446744073709551616, show _ = _ by rw [WB_def]; exact Nat.mod_add_div _ _, ?_, by omega, rfl, rfl⟩
  have h1 : x * y ≤ 18446744073709551615 * 18446744073709551615 := Nat.mul_le_mul hx hy
  omega
theorem bits_Len64 (x : Nat) (hx : x ≤ 18446744073709551615) (w : World) :
    Calls Try.prog 90 #[.int .u64 (x : Int)] w fun e w' => ∃ n : Nat, Hid (n = blen x) ∧ n ≤ 64 ∧ e = .returned (.int .i64 (n : Int)) ∧ w = w' := by
  refine (Try.bits_Len64 x w (by omega) (by omega)).mono ?_
  rintro e w' ⟨rfl, rfl⟩
  refine ⟨blen x, rfl, blen_le (by omega), ?_, rfl⟩
  rw [Int.toNat_natCast, bitLen_eq x (by omega)]
theorem bits_Len (x : Nat) (hx : x ≤ 18446744073709551615) (w : World) :
    Calls Try.prog 122 #[.int .u64 (x : Int)] w fun e w' => ∃ n : Nat, Hid (n = blen x) ∧ n ≤ 64 ∧ e = .returned (.int .i64 (n : Int)) ∧ w = w' := by
  refine (Try.bits_Len x w (by omega) (by omega)).mono ?_
  rintro e w' ⟨rfl, rfl⟩
  refine ⟨blen x, rfl, blen_le (by omega), ?_, rfl⟩
  rw [Int.toNat_natCast, bitLen_eq x (by omega)]
theorem bits_LeadingZeros64 (x : Nat) (hx : x ≤ 18446744073709551615) (w : World) :
    Calls Try.prog 116 #[.int .u64 (x : Int)] w fun e w' => ∃ n : Nat, Hid (n + blen x = 64) ∧ n ≤ 64 ∧ e = .returned (.int .i64 (n : Int)) ∧ w = w' := by
  refine (Try.bits_LeadingZeros64 x w (by omega) (by omega)).mono ?_
  rintro e w' ⟨rfl, rfl⟩
  have h1 : blen x ≤ 64 := blen_le (by omega)
  refine ⟨64 - blen x, show _ = _ by omega, by omega, ?_, rfl⟩
  rw [Int.toNat_natCast, bitLen_eq x (by omega)]
  congr 2; omega
end Go.Proofs.Ytmaconeeonkdgaa
