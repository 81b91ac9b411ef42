/- Rules for slices: elements, lengths, pieces. -/
import Derived.Test.YtmaconeeonkdgaaSxz
namespace Go.Proofs.Ytmaconeeonkdgaa
open Go.RowKit

section
variable {P : Program} {Q : Exit → Act → World → Prop} {n : Nat} {l : Fr} {w : World} {ops : Array Oper} {rest : List Oper} {d : Nat} {ty : TypeId} {pos : String} {af : Array Edge} {gd : Option (Nat × Bool)}
theorem run_index {t e : TypeId} {s m c : Nat} {a : Addr} {k : IntKind} {i : Int} (hT : P.underlying t = some (.slice e)) (hs : ∀ w, (sizeOf e).run P w = .ok s w) (h0 : 0 ≤ i) (h1 : i < m) :
    (Instr.indexAt t (.slice (some a) m c) (.int k i)).run P w = .ok (.pointer (some (a.add (i.toNat * s)))) w := by
  have hu : (underlying t).run P w = .ok (.slice e) w := run_underlying hT w
  unfold Instr.indexAt
  simp only [asIntOf, Sem.run_bind, Sem.run_pure, Result.andThen_ok, hu]
  rw [if_pos ⟨h0, h1⟩]
  simp only [Sem.run_bind, hs w, Result.andThen_ok, Sem.run_pure]
/-- the address of an element -/
theorem wl_index (hw : guardB ops l gd = some true) {x y : Operand} {t e : TypeId} {s m c : Nat} {a : Addr} {k : IntKind} {i : Int} (hx : evo l x = some (.slice (some a) m c)) (hy : evo l y = some (.int k i)) (hT : P.underlying t = some (.slice e)) (hs : ∀ w, (sizeOf e).run P w = .ok s w)
    (h0 : 0 ≤ i) (h1 : i < m) (p : Addr) (hp : a.add (i.toNat * s) = p) (hn : d < n) (h : wl P ops Q n rest ((d, .pointer (some p)) :: l) w) : wl P ops Q n (⟨some d, .indexAddr t x y, ty, pos, af, gd⟩ :: rest) l w :=
  wl_val hw hn (fun a' ha => by
    have e : (Instr.indexAt t (a'.eval x) (a'.eval y)).run P w = .ok (.pointer (some p)) w := by rw [ha.ev hx, ha.ev hy, ← hp]; exact run_index hT hs h0 h1
    show ((Instr.indexAt t (a'.eval x) (a'.eval y) >>= fun r => pure (Next.value r) : Sem Next)).run P w = _
    rw [Sem.run_bind, e]; rfl) h
def optIs (v : Option Value) (k : Nat) (dflt : Nat) : Prop := (v = none ∧ k = dflt) ∨ v = some (.int .i64 (k : Int))
theorem run_bound {i cap : Nat} {k : BoundsCode} (h : i ≤ cap) : (Instr.sliceBound (.int .i64 (i : Int)) cap k).run P w = .ok i w := by
  unfold Instr.sliceBound
  simp only [asIntOf, Sem.run_bind, Sem.run_pure, Result.andThen_ok]
  rw [if_pos ⟨by omega, by omega⟩]
  rfl
theorem run_slice {t e : TypeId} {s m c lo hi : Nat} {A : Option Addr} {low high : Option Value} (hT : P.underlying t = some (.slice e)) (hs : ∀ w, (sizeOf e).run P w = .ok s w) (h1 : optIs low lo 0) (h2 : optIs high hi m) (h3 : lo ≤ hi) (h4 : hi ≤ c) :
    (Instr.sliceAt t (.slice A m c) low high none).run P w = .ok (.slice (if c = lo then A else A.map (·.add (lo * s))) (hi - lo) (c - lo)) w := by
  have hu : (underlying t).run P w = .ok (.slice e) w := run_underlying hT w
  have hb : (Instr.sliceBounds true m c low high none).run P w = .ok (lo, hi, c) w := by
    unfold Instr.sliceBounds
    rcases h1 with ⟨rfl, rfl⟩ | rfl <;> rcases h2 with ⟨rfl, rfl⟩ | rfl
    · simp only [Sem.run_bind, Sem.run_pure, Result.andThen_ok]
    · simp only [Sem.run_bind, Sem.run_pure, Result.andThen_ok, run_bound h4, if_true]
    · simp only [Sem.run_bind, Sem.run_pure, Result.andThen_ok, Option.isSome, run_bound h3]
    · simp only [Sem.run_bind, Sem.run_pure, Result.andThen_ok, Option.isSome, run_bound h4, run_bound h3, if_true]
  unfold Instr.sliceAt
  simp only [Sem.run_bind, hu, Result.andThen_ok]
  unfold Instr.slice
  simp only [Sem.run_bind, hu, Result.andThen_ok, hb, hs w, Sem.run_pure]
/-- s[lo:hi] -/
theorem wl_slice (hw : guardB ops l gd = some true) {x : Operand} {lo' hi' : Option Operand} {t e : TypeId} {s m c lo hi : Nat} {A : Option Addr} (hx : evo l x = some (.slice A m c)) (hT : P.underlying t = some (.slice e)) (hs : ∀ w, (sizeOf e).run P w = .ok s w)
    (h1 : match lo' with | none => lo = 0 | some y => evo l y = some (.int .i64 (lo : Int))) (h2 : match hi' with | none => hi = m | some y => evo l y = some (.int .i64 (hi : Int))) (h3 : lo ≤ hi) (h4 : hi ≤ c)
    {v : Value} (hv : Value.slice (if c = lo then A else A.map (·.add (lo * s))) (hi - lo) (c - lo) = v) (hn : d < n) (h : wl P ops Q n rest ((d, v) :: l) w) : wl P ops Q n (⟨some d, .slice t x lo' hi' none, ty, pos, af, gd⟩ :: rest) l w :=
  wl_val hw hn (fun a' ha => by
    have e : (Instr.sliceAt t (a'.eval x) (lo'.map a'.eval) (hi'.map a'.eval) (Option.map a'.eval none)).run P w = .ok v w := by
      rw [ha.ev hx, ← hv]
      refine run_slice hT hs ?_ ?_ h3 h4
      · cases lo' with
        | none => exact Or.inl ⟨rfl, h1⟩
        | some y => exact Or.inr (by show some (a'.eval y) = _; rw [ha.ev h1])
      · cases hi' with
        | none => exact Or.inl ⟨rfl, h2⟩
        | some y => exact Or.inr (by show some (a'.eval y) = _; rw [ha.ev h2])
    show ((Instr.sliceAt t (a'.eval x) (lo'.map a'.eval) (hi'.map a'.eval) (Option.map a'.eval none) >>= fun r => pure (Next.value r) : Sem Next)).run P w = _
    rw [Sem.run_bind, e]; rfl) h
theorem load_at {T : TypeId} {k : Nat} {p : Addr} (hT : AggT P T k) (us : List Value) (hu : us.length = k) (hc : ∀ j, j < us.length → w.cell? (p.add j) = some (us.getD j undef)) : (loadVar T p).run P w = .ok (.agg us.toArray) w := by
  subst hu
  have h1 := run_loadCells (P := P) (w := w) (p := p) us 0 #[] (fun j hj => by rw [Nat.zero_add]; exact hc j hj)
  unfold loadVar loadCells
  rw [Sem.run_bind, hT.agg w]
  simp only [Result.andThen_ok, if_true, Sem.run_bind, hT.size w, h1]
  simp
theorem load_cell1 {T : TypeId} {p : Addr} {v : Value} (hT : ∀ w, (isAgg T).run P w = .ok false w) (hc : w.cell? p = some v) : (loadVar T p).run P w = .ok v w := by
  unfold loadVar
  rw [Sem.run_bind, hT w]
  simp only [Result.andThen_ok, Bool.false_eq_true, if_false]
  exact run_load1 hc
end
theorem add_zero_addr (a : Addr) : a.add 0 = a := by simp [Addr.add]
/-- tests of counters -/
theorem lt_nat_t {i n : Nat} (h : i < n) : cmpB .lss (i : Int) (n : Int) = some true := by simp only [cmpB, Option.some.injEq, decide_eq_true_eq]; omega
theorem lt_nat_f {i n : Nat} (h : n ≤ i) : cmpB .lss (i : Int) (n : Int) = some false := by simp only [cmpB, Option.some.injEq, decide_eq_false_iff_not]; omega
theorem ge_t {a b : Int} (h : b ≤ a) : cmpB .geq a b = some true := by simp only [cmpB, Option.some.injEq, decide_eq_true_eq]; omega
theorem ge_f {a b : Int} (h : a < b) : cmpB .geq a b = some false := by simp only [cmpB, Option.some.injEq, decide_eq_false_iff_not]; omega
theorem lt_t {a b : Int} (h : a < b) : cmpB .lss a b = some true := by simp only [cmpB, Option.some.injEq, decide_eq_true_eq]; omega
theorem lt_f {a b : Int} (h : b ≤ a) : cmpB .lss a b = some false := by simp only [cmpB, Option.some.injEq, decide_eq_false_iff_not]; omega
theorem gt_t {a b : Int} (h : b < a) : cmpB .gtr a b = some true := by simp only [cmpB, Option.some.injEq, decide_eq_true_eq]; omega
theorem gt_f {a b : Int} (h : a ≤ b) : cmpB .gtr a b = some false := by simp only [cmpB, Option.some.injEq, decide_eq_false_iff_not]; omega
theorem le_t {a b : Int} (h : a ≤ b) : cmpB .leq a b = some true := by simp only [cmpB, Option.some.injEq, decide_eq_true_eq]; omega
theorem le_f {a b : Int} (h : b < a) : cmpB .leq a b = some false := by simp only [cmpB, Option.some.injEq, decide_eq_false_iff_not]; omega
theorem eq_t {a b : Int} (h : a = b) : cmpB .eql a b = some true := by subst h; simp [cmpB]
theorem eq_f {a b : Int} (h : a ≠ b) : cmpB .eql a b = some false := by simp only [cmpB, Option.some.injEq, beq_eq_false_iff_ne, ne_eq]; exact h
theorem ne_t {a b : Int} (h : a ≠ b) : cmpB .neq a b = some true := by simp only [cmpB, Option.some.injEq, bne_iff_ne, ne_eq]; exact h
theorem ne_f {a b : Int} (h : a = b) : cmpB .neq a b = some false := by subst h; simp [cmpB]
/-- sums within bounds -/
theorem ar_i64 {a b c : Int} (h : a + b = c) (h1 : -9223372036854775808 ≤ c) (h2 : c ≤ 9223372036854775807) : arB .add .i64 a b = some c := by
  simp only [arB, Option.some.injEq]; rw [h]; exact IntWalk.i64_in _ ⟨h1, h2⟩
theorem ar_i64s {a b c : Int} (h : a - b = c) (h1 : -9223372036854775808 ≤ c) (h2 : c ≤ 9223372036854775807) : arB .sub .i64 a b = some c := by
  simp only [arB, Option.some.injEq]; rw [h]; exact IntWalk.i64_in _ ⟨h1, h2⟩
theorem ar_i64m {a b c : Int} (h : a * b = c) (h1 : -9223372036854775808 ≤ c) (h2 : c ≤ 9223372036854775807) : arB .mul .i64 a b = some c := by
  simp only [arB, Option.some.injEq]; rw [h]; exact IntWalk.i64_in _ ⟨h1, h2⟩
theorem ar_i64q {a b c : Int} (hb : b ≠ 0) (h : a.tdiv b = c) (h1 : -9223372036854775808 ≤ c) (h2 : c ≤ 9223372036854775807) : arB .quo .i64 a b = some c := by
  simp only [arB]; rw [if_neg hb, h, Option.some.injEq]; exact IntWalk.i64_in _ ⟨h1, h2⟩
theorem ar_rem {k : IntKind} {a b c : Int} (hb : b ≠ 0) (h : a.tmod b = c) : arB .rem k a b = some c := by
  simp only [arB]; rw [if_neg hb, h]
end Go.Proofs.Ytmaconeeonkdgaa
