/- Parts Sxw, IntD, IntE, IntF, Pop, Root, Zg, Ref3, Ref3b, Ref3c, Ref3d, Sxb, joined. -/
import Derived.Test.YthggegdkpalgbaaD1

namespace Go.Proofs.Ythggegdkpalgbaa
open Go.RowKit
/-- the address of word i of a list, and what lies there -/
theorem Rd.at {w : World} {A : Option Addr} {n c : Nat} {xs : List Nat} (h : Rd w A n c xs) {i : Nat} (hi : i < n) :
    ∃ p, A.map (·.add (i * 1)) = some p ∧ w.cell? p = some (.int .u64 ((xs.getD i 0 : Nat) : Int)) ∧ xs.getD i 0 ≤ 18446744073709551615 := by
  obtain ⟨a, x, rfl, hk, hb, hc⟩ := h.get hi
  refine ⟨a.add i, by rw [Nat.mul_one]; rfl, ?_, by rw [hk.out]; exact hb⟩
  rw [hk.out]; exact hc
theorem Rd.updL {w w' : World} {A : Option Addr} {n c : Nat} {xs : List Nat} {g : Nat} (h : Rd w A n c xs) (e : Upd g w w') (hne : 0 < c → ∀ a, A = some a → a.block ≠ g) : Rd w' A n c xs :=
  ⟨⟨h.rv.len, h.rv.le, h.rv.max, fun i hi => by
    obtain ⟨a, ha, hc⟩ := h.rv.get i hi
    exact ⟨a, ha, e.cell hc (by rw [block_of_add]; exact hne (by have := h.rv.le; omega) a ha)⟩, fun a ha hc => Nat.lt_of_lt_of_le (h.rv.blk a ha hc) e.size⟩, h.wf⟩
theorem arr_at (g i : Nat) : (some (⟨g, 0, none⟩ : Addr)).map (·.add (i * 1)) = some ⟨g, i, none⟩ := by
  rw [Nat.mul_one]
  show some ((⟨g, 0, none⟩ : Addr).add i) = _
  rw [add_lit0, Nat.zero_add]
section
variable {P : Program} {Q : Exit → Act → World → Prop} {n : Nat} {l : Fr} {w : World} {ops : Array Oper} {rest : List Oper} {d : Nat} {op : Op} {ty : TypeId} {pos : String} {af : Array Edge} {gd : Option (Nat × Bool)}
theorem run_idx {t e : TypeId} {s m c : Nat} {A : Option Addr} {k : IntKind} {i : Int} {j : Nat} {p : Addr} (hT : P.underlying t = some (.slice e)) (hs : ∀ w, (sizeOf e).run P w = .ok s w) (hi : i = (j : Int)) (hj : j < m) (hp : A.map (·.add (j * s)) = some p) :
    (Instr.indexAt t (.slice A m c) (.int k i)).run P w = .ok (.pointer (some p)) w := by
  subst hi
  cases A with
  | none => cases hp
  | some a =>
    have h := run_index (P := P) (w := w) (t := t) (e := e) (s := s) (m := m) (c := c) (a := a) (k := k) (i := (j : Int)) hT hs (by omega) (by omega)
    rw [h]
    rw [Int.toNat_natCast]
    injection hp with hp
    rw [← hp]
theorem wl_idx (hw : guardB ops l gd = some true) {x y : Operand} {t e : TypeId} {s m c : Nat} {A : Option Addr} {k : IntKind} {i : Int} (hx : evo l x = some (.slice A m c)) (hy : evo l y = some (.int k i)) (hT : P.underlying t = some (.slice e)) (hs : ∀ w, (sizeOf e).run P w = .ok s w)
    (j : Nat) (hi : i = (j : Int)) (hj : j < m) (p : Addr) (hp : A.map (·.add (j * s)) = some p) (hn : d < n) (h : wl P ops Q n rest ((d, .pointer (some p)) :: l) w) : wl P ops Q n (⟨some d, .indexAddr t x y, ty, pos, af, gd⟩ :: rest) l w :=
  wl_val hw hn (fun a' ha => by
    have e : (Instr.indexAt t (a'.eval x) (a'.eval y)).run P w = .ok (.pointer (some p)) w := by rw [ha.ev hx, ha.ev hy]; exact run_idx hT hs hi hj hp
    show ((Instr.indexAt t (a'.eval x) (a'.eval y) >>= fun r => pure (Next.value r) : Sem Next)).run P w = _
    rw [Sem.run_bind, e]; rfl) h
theorem rd_idx {x y : Operand} {t e : TypeId} {s m c : Nat} {A : Option Addr} {k : IntKind} {i : Int} {dst : Option Tmp} (hx : evo l x = some (.slice A m c)) (hy : evo l y = some (.int k i)) (hT : P.underlying t = some (.slice e)) (hs : ∀ w, (sizeOf e).run P w = .ok s w)
    (j : Nat) (hi : i = (j : Int)) (hj : j < m) (p : Addr) (hp : A.map (·.add (j * s)) = some p) : RunD P n l ⟨dst, .indexAddr t x y, ty, pos, af, gd⟩ w (.value (.pointer (some p))) w := fun a' ha => by
  have e : (Instr.indexAt t (a'.eval x) (a'.eval y)).run P w = .ok (.pointer (some p)) w := by rw [ha.ev hx, ha.ev hy]; exact run_idx hT hs hi hj hp
  show ((Instr.indexAt t (a'.eval x) (a'.eval y) >>= fun r => pure (Next.value r) : Sem Next)).run P w = _
  rw [Sem.run_bind, e]; rfl
theorem rd_cmp {o : BinOp} {t t' : TypeId} {x y : Operand} {k : IntKind} {a b : Int} {dst : Option Tmp} (hx : evo l x = some (.int k a)) (hy : evo l y = some (.int k b)) (c : Bool) (hc : cmpB o a b = some c) : RunD P n l ⟨dst, .binOp o t x y t', ty, pos, af, gd⟩ w (.value (.bool c)) w := fun a' ha => by
  have e : ((do eqGuard o t x y (a'.eval x) (a'.eval y); binOp o t (a'.eval x) (a'.eval y)) : Sem Value).run P w = .ok (.bool c) w := by
    rw [ha.ev hx, ha.ev hy]; exact run_cmp hc
  show ((((do eqGuard o t x y (a'.eval x) (a'.eval y); binOp o t (a'.eval x) (a'.eval y)) : Sem Value) >>= fun r => pure (Next.value r)) : Sem Next).run P w = _
  rw [Sem.run_bind, e]; rfl
theorem rd_ar {o : BinOp} {t t' : TypeId} {x y : Operand} {k : IntKind} {a b : Int} {dst : Option Tmp} (hx : evo l x = some (.int k a)) (hy : evo l y = some (.int k b)) (c : Int) (hc : arB o k a b = some c) : RunD P n l ⟨dst, .binOp o t x y t', ty, pos, af, gd⟩ w (.value (.int k c)) w := fun a' ha => by
  have e : ((do eqGuard o t x y (a'.eval x) (a'.eval y); binOp o t (a'.eval x) (a'.eval y)) : Sem Value).run P w = .ok (.int k c) w := by
    rw [ha.ev hx, ha.ev hy]; exact run_ar hc
  show ((((do eqGuard o t x y (a'.eval x) (a'.eval y); binOp o t (a'.eval x) (a'.eval y)) : Sem Value) >>= fun r => pure (Next.value r)) : Sem Next).run P w = _
  rw [Sem.run_bind, e]; rfl
theorem run_store1v {w : World} {T T' : TypeId} {g off : Nat} {vs : List Value} {v : Value} (hT : ∀ w, (sizeOf T).run P w = .ok 1 w) (hv : v.cells = #[v]) (hb : Bk w g T' vs) (hle : off < vs.length) (h1 : v.oneCell' = true) (us' : List Value) (he : vs.set off v = us') :
    ∃ w', (storeVar T ⟨g, off, none⟩ v).run P w = .ok () w' ∧ Bk w' g T' us' ∧ Upd g w w' ∧ w'.heap.size = w.heap.size := by
  have hb2 := hb.set off v
  rw [he] at hb2
  refine ⟨w.setCell ⟨g, off, none⟩ v, ?_, hb2, (Upd.refl g w).setCell off v, by simp [World.setCell]⟩
  unfold storeVar
  rw [Sem.run_bind]
  show ((sizeOf T).run P w).andThen _ = _
  rw [hT w]
  simp only [Result.andThen_ok, hv, List.size_toArray, List.length_cons, List.length_nil, ne_eq, not_true, Nat.zero_add, if_false]
  show ((store ((⟨g, off, none⟩ : Addr).add 0) v >>= fun _ => storeCells ⟨g, off, none⟩ [] (0 + 1) : Sem Unit)).run P w = _
  rw [add_lit0, Nat.add_zero, Sem.run_bind, run_store1 (hb.cell hle) (hb.frozen off) h1]
  rfl
/-- make([]T, k) -/
theorem wl_make {t e : TypeId} {z : Value} {bytes : Nat} {x y : Operand} (hw : guardB ops l gd = some true) {i : Int} {k : Nat} (hx : evo l x = some (.int .i64 i)) (hy : evo l y = some (.int .i64 i)) (hi : i = (k : Int)) (ht : P.underlying t = some (.slice e))
    (hinfo : (P.info? e).map (fun i => (i.zero, i.size, i.bytes)) = some (some z, 1, bytes)) (hz : z.cells = #[z]) (hby : bytes ≤ 64) (hk : k ≤ 1099511627776) (hn : d < n)
    (h : ∀ g w', w.heap.size = g → Bk w' g e (List.replicate k z) → Ext w w' → wl P ops Q n rest ((d, .slice (some ⟨g, 0, none⟩) k k) :: l) w') : wl P ops Q n (⟨some d, .makeSlice t x y, ty, pos, af, gd⟩ :: rest) l w := by
  subst hi
  have hm := run_make1 (P := P) ht hinfo hz hby (k : Int) (by omega) (by omega) w
  rw [Int.toNat_natCast] at hm
  refine wl_val hw hn (fun a' ha => ?_) (h _ (w.alloc (.cells (zc z k) e)) rfl (Bk.new' _ _ _) ((Ext.refl w).alloc _))
  have e' : (Instr.makeSlice t (a'.eval x) (a'.eval y)).run P w = .ok (.slice (some ⟨w.heap.size, 0, none⟩) k k) (w.alloc (.cells (zc z k) e)) := by rw [ha.ev hx, ha.ev hy]; exact hm
  show ((Instr.makeSlice t (a'.eval x) (a'.eval y) >>= fun r => pure (Next.value r) : Sem Next)).run P w = _
  rw [Sem.run_bind, e']; rfl
end
theorem load_word {P : Program} {w : World} {T T' : TypeId} {g i : Nat} {l : List Nat} (hT : ∀ w, (isAgg T).run P w = .ok false w) (hb : Bk w g T' (l.map W64)) (hi : i < l.length) : (loadVar T ⟨g, i, none⟩).run P w = .ok (.int .u64 ((l.getD i 0 : Nat) : Int)) w := by
  refine load_cell hT hb ?_
  simp [List.getD_eq_getElem?_getD, List.getElem?_eq_getElem hi]
theorem len_set {l : List Nat} {N i x : Nat} (h : l.length = N) : (l.set i x).length = N := by rw [List.length_set]; exact h
theorem len_map {f : Nat → Value} {l : List Nat} {i : Nat} (h : i < l.length) : i < (l.map f).length := by rw [List.length_map]; exact h
/-- tests and sums of numbers that are not negative -/
theorem cb_lt_t {A B : Int} {a b : Nat} (ha : A = (a : Int)) (hb : B = (b : Int)) (h : a < b) : cmpB .lss A B = some true := by subst ha hb; exact lt_t (by omega)
theorem cb_lt_f {A B : Int} {a b : Nat} (ha : A = (a : Int)) (hb : B = (b : Int)) (h : b ≤ a) : cmpB .lss A B = some false := by subst ha hb; exact lt_f (by omega)
theorem cb_gt_t {A B : Int} {a b : Nat} (ha : A = (a : Int)) (hb : B = (b : Int)) (h : b < a) : cmpB .gtr A B = some true := by subst ha hb; exact gt_t (by omega)
theorem cb_gt_f {A B : Int} {a b : Nat} (ha : A = (a : Int)) (hb : B = (b : Int)) (h : a ≤ b) : cmpB .gtr A B = some false := by subst ha hb; exact gt_f (by omega)
theorem cb_ge_t {A B : Int} {a b : Nat} (ha : A = (a : Int)) (hb : B = (b : Int)) (h : b ≤ a) : cmpB .geq A B = some true := by subst ha hb; exact ge_t (by omega)
theorem cb_eq_t {A B : Int} {a b : Nat} (ha : A = (a : Int)) (hb : B = (b : Int)) (h : a = b) : cmpB .eql A B = some true := by subst ha hb; exact eq_t (by omega)
theorem cb_eq_f {A B : Int} {a b : Nat} (ha : A = (a : Int)) (hb : B = (b : Int)) (h : a ≠ b) : cmpB .eql A B = some false := by subst ha hb; exact eq_f (by omega)
theorem cb_ne_t {A B : Int} {a b : Nat} (ha : A = (a : Int)) (hb : B = (b : Int)) (h : a ≠ b) : cmpB .neq A B = some true := by subst ha hb; exact ne_t (by omega)
theorem cb_ne_f {A B : Int} {a b : Nat} (ha : A = (a : Int)) (hb : B = (b : Int)) (h : a = b) : cmpB .neq A B = some false := by subst ha hb; exact ne_f (by omega)
theorem au_add {A B : Int} {a b : Nat} (ha : A = (a : Int)) (hb : B = (b : Int)) (h : a + b ≤ 18446744073709551615) : arB .add .u64 A B = some ((a + b : Nat) : Int) := by
  subst ha hb; simp only [arB, Option.some.injEq]; rw [← Int.natCast_add]; exact IntWalk.u64_in _ ⟨by omega, by omega⟩
theorem au_sub {A B : Int} {a b : Nat} (ha : A = (a : Int)) (hb : B = (b : Int)) (h : b ≤ a) (h2 : a ≤ 18446744073709551615) : arB .sub .u64 A B = some ((a - b : Nat) : Int) := by
  subst ha hb; simp only [arB, Option.some.injEq]; rw [show (a : Int) - (b : Int) = ((a - b : Nat) : Int) by omega]; exact IntWalk.u64_in _ ⟨by omega, by omega⟩
theorem au_mul {A B : Int} {a b : Nat} (ha : A = (a : Int)) (hb : B = (b : Int)) (h : a * b ≤ 18446744073709551615) : arB .mul .u64 A B = some ((a * b : Nat) : Int) := by
  subst ha hb; simp only [arB, Option.some.injEq]; rw [← Int.natCast_mul]; exact IntWalk.u64_in _ ⟨by omega, by omega⟩
theorem au_quo {A B : Int} {a b : Nat} (ha : A = (a : Int)) (hb : B = (b : Int)) (h : b ≠ 0) (h2 : a ≤ 18446744073709551615) : arB .quo .u64 A B = some ((a / b : Nat) : Int) := by
  subst ha hb
  have e : ((a : Int)).tdiv (b : Int) = ((a / b : Nat) : Int) := rfl
  have h3 : a / b ≤ a := Nat.div_le_self a b
  have h4 : (0 : Int) ≤ ((a / b : Nat) : Int) := Int.natCast_nonneg _
  have h5 : ((a / b : Nat) : Int) ≤ (a : Int) := Int.ofNat_le.2 h3
  simp only [arB]; rw [if_neg (by omega), e, Option.some.injEq]
  generalize ((a / b : Nat) : Int) = q at h4 h5
  exact IntWalk.u64_in _ ⟨by omega, by omega⟩
theorem au_rem {k : IntKind} {A B : Int} {a b : Nat} (ha : A = (a : Int)) (hb : B = (b : Int)) (h : b ≠ 0) : arB .rem k A B = some ((a % b : Nat) : Int) := by
  subst ha hb
  have e : ((a : Int)).tmod (b : Int) = ((a % b : Nat) : Int) := rfl
  simp only [arB]; rw [if_neg (by omega), e]
theorem ai_add {A B : Int} {a b : Nat} (ha : A = (a : Int)) (hb : B = (b : Int)) (h : a + b ≤ 9223372036854775807) : arB .add .i64 A B = some ((a + b : Nat) : Int) := by
  subst ha hb; exact ar_i64 (by omega) (by omega) (by omega)
theorem ai_sub {A B : Int} {a b : Nat} (ha : A = (a : Int)) (hb : B = (b : Int)) (h : b ≤ a) (h2 : a ≤ 9223372036854775807) : arB .sub .i64 A B = some ((a - b : Nat) : Int) := by
  subst ha hb; exact ar_i64s (by omega) (by omega) (by omega)
theorem ai_mul {A B : Int} {a b : Nat} (ha : A = (a : Int)) (hb : B = (b : Int)) (h : a * b ≤ 9223372036854775807) : arB .mul .i64 A B = some ((a * b : Nat) : Int) := by
  subst ha hb; exact ar_i64m (by rw [← Int.natCast_mul]) (by omega) (by omega)
theorem ai_quo {A B : Int} {a b : Nat} (ha : A = (a : Int)) (hb : B = (b : Int)) (h : b ≠ 0) (h2 : a ≤ 9223372036854775807) : arB .quo .i64 A B = some ((a / b : Nat) : Int) := by
  subst ha hb
  have h3 : a / b ≤ a := Nat.div_le_self a b
  have h4 : (0 : Int) ≤ ((a / b : Nat) : Int) := Int.natCast_nonneg _
  have h5 : ((a / b : Nat) : Int) ≤ (a : Int) := Int.ofNat_le.2 h3
  refine ar_i64q (by omega) rfl ?_ ?_
  · show _ ≤ ((a / b : Nat) : Int)
    generalize ((a / b : Nat) : Int) = q at h4 h5
    omega
  · show ((a / b : Nat) : Int) ≤ _
    generalize ((a / b : Nat) : Int) = q at h4 h5
    omega
theorem sz_u64 (w : World) : (sizeOf 23).run Try.prog w = .ok 1 w := by kernel_rfl
theorem ag_u64 (w : World) : (isAgg 23).run Try.prog w = .ok false w := by kernel_rfl
theorem un_u64 : Try.prog.underlying 22 = some (.slice 23) := Try.underlying22
end Go.Proofs.Ythggegdkpalgbaa

namespace Go.Proofs.Ythggegdkpalgbaa
open Go.RowKit
/-- quotient and rest, the rest on the divisor's side -/
structure Flo (q r x y : Int) : Prop where
  eq : q * y + r = x
  pos : 0 < y → 0 ≤ r ∧ r < y
  neg : y < 0 → y < r ∧ r ≤ 0
end Go.Proofs.Ythggegdkpalgbaa

namespace Go.Proofs.Ythggegdkpalgbaa
open Go.RowKit
theorem Zi.sgn {w : World} {s : Bool} {A : Option Addr} {n cap : Nat} {z : Int} (h : Zi w s A n cap z) (h0 : z ≠ 0) : s = decide (z < 0) := by
  obtain ⟨xs, _, rfl⟩ := h
  have hm : nv xs ≠ 0 := fun e => h0 (sg_eq_zero.2 e)
  rw [sg_lt, decide_eq_true (show 0 < nv xs by omega), Bool.and_true]
end Go.Proofs.Ythggegdkpalgbaa

namespace Go.Proofs.Ythggegdkpalgbaa
open Go.RowKit
/-- quotient and rest, the rest from 0 on -/
structure Euc (q r x y : Int) : Prop where
  eq : q * y + r = x
  lo : 0 ≤ r
  hi : r < y
end Go.Proofs.Ythggegdkpalgbaa

namespace Go.Proofs.Ythggegdkpalgbaa.Pop
/-- the mask that repeats a byte k times -/
def mk (m : Nat) : Nat → Nat
  | 0 => 0
  | k + 1 => m + 256 * mk m k
theorem and_byte (a A m M : Nat) (ha : a < 256) (hm : m < 256) : (a + 256 * A) &&& (m + 256 * M) = (a &&& m) + 256 * (A &&& M) := by
  have h1 : ((a + 256 * A) &&& (m + 256 * M)) % 2 ^ 8 = a &&& m := by
    rw [Nat.and_mod_two_pow]
    congr 1 <;> omega
  have h2 : ((a + 256 * A) &&& (m + 256 * M)) / 2 ^ 8 = A &&& M := by
    rw [Nat.and_div_two_pow]
    congr 1 <;> omega
  have h3 := Nat.mod_add_div ((a + 256 * A) &&& (m + 256 * M)) (2 ^ 8)
  rw [h1, h2] at h3
  exact h3.symm
def f1 (k x : Nat) : Nat := (x / 2 &&& mk 85 k) + (x &&& mk 85 k)
def f2 (k x : Nat) : Nat := (x / 4 &&& mk 51 k) + (x &&& mk 51 k)
def f3 (k x : Nat) : Nat := (x / 16 + x) &&& mk 15 k
def d1 (b : Nat) : Nat := (b / 2 &&& 85) + (b &&& 85)
def d2 (b : Nat) : Nat := (b / 4 &&& 51) + (b &&& 51)
def d3 (b : Nat) : Nat := (b / 16 + b) &&& 15
def pc (b : Nat) : Nat := d3 (d2 (d1 b))
theorem t1 : ∀ b : Fin 256, ∀ p : Fin 2, ((b.val / 2 + 128 * p.val) &&& 85) = (b.val / 2 &&& 85) := by decide +kernel
theorem t2 : ∀ b : Fin 256, ∀ p : Fin 4, ((b.val / 4 + 64 * p.val) &&& 51) = (b.val / 4 &&& 51) := by decide +kernel
theorem t3 : ∀ b : Fin 256, ∀ p : Fin 5, ((d2 (d1 b.val) / 16 + d2 (d1 b.val) + 16 * p.val) &&& 15) = pc b.val := by decide +kernel
theorem t4 : ∀ b : Fin 256, d1 b.val < 256 ∧ d2 (d1 b.val) < 69 ∧ d2 (d1 b.val) % 16 ≤ 4 ∧ pc b.val ≤ 8 ∧ (pc b.val = 0 → b.val = 0) ∧ (128 ≤ b.val → pc b.val ≤ 1 → b.val = 128) := by decide +kernel
theorem f1_step {k b B : Nat} (hb : b < 256) : f1 (k + 1) (b + 256 * B) = d1 b + 256 * f1 k B := by
  unfold f1 d1
  rw [show mk 85 (k + 1) = 85 + 256 * mk 85 k from rfl]
  have e : (b + 256 * B) / 2 = (b / 2 + 128 * (B % 2)) + 256 * (B / 2) := by omega
  rw [e, and_byte _ _ _ _ (by omega) (by omega), and_byte _ _ _ _ hb (by omega), t1 ⟨b, hb⟩ ⟨B % 2, by omega⟩]
  show (b / 2 &&& 85) + _ + _ = _
  omega
theorem f2_step {k b B : Nat} (hb : b < 256) : f2 (k + 1) (b + 256 * B) = d2 b + 256 * f2 k B := by
  unfold f2 d2
  rw [show mk 51 (k + 1) = 51 + 256 * mk 51 k from rfl]
  have e : (b + 256 * B) / 4 = (b / 4 + 64 * (B % 4)) + 256 * (B / 4) := by omega
  rw [e, and_byte _ _ _ _ (by omega) (by omega), and_byte _ _ _ _ hb (by omega), t2 ⟨b, hb⟩ ⟨B % 4, by omega⟩]
  show (b / 4 &&& 51) + _ + _ = _
  omega
/-- all three steps, byte by byte: the higher part's lowest half byte is at most 4 -/
theorem steps {k b B : Nat} (hb : b < 256) (hB : f2 k (f1 k B) % 16 ≤ 4) :
    f3 (k + 1) (f2 (k + 1) (f1 (k + 1) (b + 256 * B))) = pc b + 256 * f3 k (f2 k (f1 k B)) ∧ f2 (k + 1) (f1 (k + 1) (b + 256 * B)) % 16 ≤ 4 := by
  obtain ⟨h1, h2, h3, _⟩ := t4 ⟨b, hb⟩
  rw [f1_step hb, f2_step h1]
  refine ⟨?_, by omega⟩
  generalize f2 k (f1 k B) = C at *
  unfold f3
  rw [show mk 15 (k + 1) = 15 + 256 * mk 15 k from rfl]
  have e : (d2 (d1 b) + 256 * C) / 16 + (d2 (d1 b) + 256 * C) = (d2 (d1 b) / 16 + d2 (d1 b) + 16 * (C % 16)) + 256 * (C / 16 + C) := by omega
  have h2' : d2 (d1 b) < 69 := h2
  rw [e, and_byte _ _ _ _ (by omega) (by omega), t3 ⟨b, hb⟩ ⟨C % 16, by omega⟩]
theorem eight {b0 b1 b2 b3 b4 b5 b6 b7 : Nat} (h0 : b0 < 256) (h1 : b1 < 256) (h2 : b2 < 256) (h3 : b3 < 256) (h4 : b4 < 256) (h5 : b5 < 256) (h6 : b6 < 256) (h7 : b7 < 256) :
    f3 8 (f2 8 (f1 8 (b0 + 256 * (b1 + 256 * (b2 + 256 * (b3 + 256 * (b4 + 256 * (b5 + 256 * (b6 + 256 * (b7 + 256 * 0))))))))))
      = pc b0 + 256 * (pc b1 + 256 * (pc b2 + 256 * (pc b3 + 256 * (pc b4 + 256 * (pc b5 + 256 * (pc b6 + 256 * pc b7)))))) := by
  have s7 := steps (k := 0) (B := 0) h7 (by decide)
  have s6 := steps h6 s7.2
  have s5 := steps h5 s6.2
  have s4 := steps h4 s5.2
  have s3 := steps h3 s4.2
  have s2 := steps h2 s3.2
  have s1 := steps h1 s2.2
  have s0 := steps h0 s1.2
  rw [s0.1, s1.1, s2.1, s3.1, s4.1, s5.1, s6.1, s7.1]
  simp [f3, mk]
theorem folds {p0 p1 p2 p3 p4 p5 p6 p7 : Nat} (h0 : p0 ≤ 8) (h1 : p1 ≤ 8) (h2 : p2 ≤ 8) (h3 : p3 ≤ 8) (h4 : p4 ≤ 8) (h5 : p5 ≤ 8) (h6 : p6 ≤ 8) (h7 : p7 ≤ 8) {x3 x4 x5 x6 : Nat}
    (e3 : x3 = p0 + 256 * (p1 + 256 * (p2 + 256 * (p3 + 256 * (p4 + 256 * (p5 + 256 * (p6 + 256 * p7))))))) (e4 : x4 = x3 + x3 / 256) (e5 : x5 = x4 + x4 / 65536) (e6 : x6 = x5 + x5 / 4294967296) :
    x6 % 128 = p0 + p1 + p2 + p3 + p4 + p5 + p6 + p7 ∧ x6 < 18446744073709551616 := by
  have g4 : x4 = (p0 + p1) + 256 * ((p1 + p2) + 256 * ((p2 + p3) + 256 * ((p3 + p4) + 256 * ((p4 + p5) + 256 * ((p5 + p6) + 256 * ((p6 + p7) + 256 * p7)))))) := by omega
  clear e3 e4
  have g5 : x5 = (p0 + p1 + p2 + p3) + 256 * ((p1 + p2 + p3 + p4) + 256 * ((p2 + p3 + p4 + p5) + 256 * ((p3 + p4 + p5 + p6) + 256 * ((p4 + p5 + p6 + p7) + 256 * ((p5 + p6 + p7) + 256 * ((p6 + p7) + 256 * p7)))))) := by omega
  clear g4 e5
  have gq : x5 / 4294967296 = (p4 + p5 + p6 + p7) + 256 * ((p5 + p6 + p7) + 256 * ((p6 + p7) + 256 * p7)) := by omega
  rw [gq] at e6
  have g6 : x6 = (p0 + p1 + p2 + p3 + p4 + p5 + p6 + p7) + 256 * (((p1 + p2 + p3 + p4) + 256 * ((p2 + p3 + p4 + p5) + 256 * ((p3 + p4 + p5 + p6) + 256 * ((p4 + p5 + p6 + p7) + 256 * ((p5 + p6 + p7) + 256 * ((p6 + p7) + 256 * p7)))))) + ((p5 + p6 + p7) + 256 * ((p6 + p7) + 256 * p7))) := by omega
  clear gq e6 g5
  omega
/-- a word whose highest bit stands has the count 1 just where it is 2^63 -/
theorem one {x x1 x2 x3 x4 x5 x6 : Nat} (hx : x < 18446744073709551616) (hh : 9223372036854775808 ≤ x) (e1 : x1 = f1 8 x) (e2 : x2 = f2 8 x1) (e3 : x3 = f3 8 x2) (e4 : x4 = x3 + x3 / 256) (e5 : x5 = x4 + x4 / 65536) (e6 : x6 = x5 + x5 / 4294967296) :
    x6 % 128 = 1 ↔ x = 9223372036854775808 := by
  obtain ⟨b0, q0, hb0, hq0⟩ : ∃ b q, b < 256 ∧ x = b + 256 * q := ⟨x % 256, x / 256, by omega, by omega⟩
  obtain ⟨b1, q1, hb1, hq1⟩ : ∃ b q, b < 256 ∧ q0 = b + 256 * q := ⟨q0 % 256, q0 / 256, by omega, by omega⟩
  obtain ⟨b2, q2, hb2, hq2⟩ : ∃ b q, b < 256 ∧ q1 = b + 256 * q := ⟨q1 % 256, q1 / 256, by omega, by omega⟩
  obtain ⟨b3, q3, hb3, hq3⟩ : ∃ b q, b < 256 ∧ q2 = b + 256 * q := ⟨q2 % 256, q2 / 256, by omega, by omega⟩
  obtain ⟨b4, q4, hb4, hq4⟩ : ∃ b q, b < 256 ∧ q3 = b + 256 * q := ⟨q3 % 256, q3 / 256, by omega, by omega⟩
  obtain ⟨b5, q5, hb5, hq5⟩ : ∃ b q, b < 256 ∧ q4 = b + 256 * q := ⟨q4 % 256, q4 / 256, by omega, by omega⟩
  obtain ⟨b6, b7, hb6, hq6⟩ : ∃ b q, b < 256 ∧ q5 = b + 256 * q := ⟨q5 % 256, q5 / 256, by omega, by omega⟩
  have hb7 : b7 < 256 := by omega
  have hb7' : 128 ≤ b7 := by omega
  have e := eight hb0 hb1 hb2 hb3 hb4 hb5 hb6 hb7
  have ex : x = b0 + 256 * (b1 + 256 * (b2 + 256 * (b3 + 256 * (b4 + 256 * (b5 + 256 * (b6 + 256 * (b7 + 256 * 0))))))) := by omega
  rw [← ex, ← e1, ← e2, ← e3] at e
  have p0 := (t4 ⟨b0, hb0⟩).2.2.2
  have p1 := (t4 ⟨b1, hb1⟩).2.2.2
  have p2 := (t4 ⟨b2, hb2⟩).2.2.2
  have p3 := (t4 ⟨b3, hb3⟩).2.2.2
  have p4 := (t4 ⟨b4, hb4⟩).2.2.2
  have p5 := (t4 ⟨b5, hb5⟩).2.2.2
  have p6 := (t4 ⟨b6, hb6⟩).2.2.2
  have p7 := (t4 ⟨b7, hb7⟩).2.2.2
  have hf := (folds p0.1 p1.1 p2.1 p3.1 p4.1 p5.1 p6.1 p7.1 e e4 e5 e6).1
  simp only at p0 p1 p2 p3 p4 p5 p6 p7
  rw [hf]
  show (pc b0 + pc b1 + pc b2 + pc b3 + pc b4 + pc b5 + pc b6 + pc b7 = 1) ↔ _
  constructor
  · intro h
    have h7 : pc b7 ≠ 0 := fun hz => by have := p7.2.1 hz; omega
    have hs : pc b0 + pc b1 + pc b2 + pc b3 + pc b4 + pc b5 + pc b6 = 0 ∧ pc b7 = 1 := by clear p0 p1 p2 p3 p4 p5 p6 p7 e e1 e2 e3 e4 e5 e6 ex hq0 hq1 hq2 hq3 hq4 hq5 hq6 hf; omega
    obtain ⟨hs, h8⟩ := hs
    have z0 := p0.2.1 (by omega)
    have z1 := p1.2.1 (by omega)
    have z2 := p2.2.1 (by omega)
    have z3 := p3.2.1 (by omega)
    have z4 := p4.2.1 (by omega)
    have z5 := p5.2.1 (by omega)
    have z6 := p6.2.1 (by omega)
    have z7 := p7.2.2 hb7' (by omega)
    omega
  · intro h
    obtain rfl : b7 = 128 := by omega
    obtain rfl : b0 = 0 := by omega
    obtain rfl : b1 = 0 := by omega
    obtain rfl : b2 = 0 := by omega
    obtain rfl : b3 = 0 := by omega
    obtain rfl : b4 = 0 := by omega
    obtain rfl : b5 = 0 := by omega
    obtain rfl : b6 = 0 := by omega
    decide
end Go.Proofs.Ythggegdkpalgbaa.Pop

namespace Go.Proofs.Ythggegdkpalgbaa
open Go.RowKit
/-- r is X's root to the power k, rounded down -/
def IsRoot (X k r : Nat) : Prop := r ^ k ≤ X ∧ X < (r + 1) ^ k
theorem IsRoot.le {X k r s : Nat} (h : IsRoot X k r) (hs : X < (s + 1) ^ k) : r ≤ s := by
  refine Nat.le_of_not_lt (fun hlt => ?_)
  have h1 := Nat.pow_le_pow_left (Nat.succ_le_of_lt hlt) k
  have := h.1
  rw [Nat.succ_eq_add_one] at h1
  omega
theorem IsRoot.zero {k : Nat} (hk : 1 ≤ k) : IsRoot 0 k 0 := ⟨by rw [Nat.zero_pow (by omega)]; exact Nat.le_refl _, by rw [Nat.zero_add, Nat.one_pow]; omega⟩
theorem IsRoot.one {X : Nat} : IsRoot X 1 X := ⟨by rw [Nat.pow_one]; exact Nat.le_refl _, by rw [Nat.pow_one]; omega⟩
end Go.Proofs.Ythggegdkpalgbaa

namespace Go.Proofs.Ythggegdkpalgbaa
open Go.RowKit
theorem mix : Try.prog.follows .mixedOrders = true := by kernel_rfl
/-- the value is u -/
def Is (u v : Value) (_ : World) : Prop := v = u
/-- the value is an integer of the call's own -/
def ZR (b : Nat) (z : Int) (v : Value) (w : World) : Prop := ∃ s A n c, v = .agg #[.bool s, .slice A n c] ∧ Zr w b s A n c z
/-- the value is a slice of words of the call's own: the least form of m -/
def WR (b : Nat) (m : Nat) (v : Value) (w : World) : Prop := ∃ A n c, v = .slice A n c ∧ n = (wd m).length ∧ Own w b 23 1 A n c ((wd m).map W64)
/-- the slice reads as the number m -/
def Wi (w : World) (A : Option Addr) (n c : Nat) (m : Nat) : Prop := ∃ xs, Rd w A n c xs ∧ nv xs = m
theorem Wi.ext {w w' : World} {A : Option Addr} {n c m : Nat} (h : Wi w A n c m) (e : Ext w w') : Wi w' A n c m := by
  obtain ⟨xs, h1, h2⟩ := h
  exact ⟨xs, h1.ext e, h2⟩
theorem Wi.len {w : World} {A : Option Addr} {n c m : Nat} (h : Wi w A n c m) : (wd m).length ≤ n := by
  obtain ⟨xs, h1, rfl⟩ := h
  have := len_wd_nv h1.wf
  rw [h1.len] at this; exact this
/-- two values, three -/
def T2 (R S : Value → World → Prop) (v : Value) (w : World) : Prop := ∃ a b, v = .tuple #[a, b] ∧ R a w ∧ S b w
def T3 (R S T : Value → World → Prop) (v : Value) (w : World) : Prop := ∃ a b c, v = .tuple #[a, b, c] ∧ R a w ∧ S b w ∧ T c w
/-- a call answers -/
def Gv (w : World) (R : Value → World → Prop) (e : Ending) (w' : World) : Prop := ∃ v, e = .returned v ∧ R v w' ∧ Ext w w'
section
variable {w w' : World} {b : Nat} {z x y : Int} {v u : Value} {R S T : Value → World → Prop}
theorem ZR.ext (h : ZR b z v w) (e : Ext w w') : ZR b z v w' := by
  obtain ⟨s, A, n, c, rfl, h⟩ := h
  exact ⟨s, A, n, c, rfl, h.ext e⟩
theorem Is.ext (h : Is u v w) (_ : Ext w w') : Is u v w' := h
theorem WR.ext {m : Nat} (h : WR b m v w) (e : Ext w w') : WR b m v w' := by
  obtain ⟨A, n, c, rfl, h1, h2⟩ := h
  exact ⟨A, n, c, rfl, h1, h2.ext e⟩
theorem gw {m : Nat} (hb : b ≤ w.heap.size) (e : Ending) (w' : World) (h : RetW w m e w') : Gv w (WR b m) e w' := by
  obtain ⟨A, n, c, rfl, h1, h2, h3, h4⟩ := h
  exact ⟨_, rfl, ⟨A, n, c, rfl, h1.out, h3.mono hb⟩, h4⟩
theorem gwe {m : Nat} {er : Int} (hb : b ≤ w.heap.size) (e : Ending) (w' : World) (h : RetWE w m er e w') : Gv w (T2 (WR b m) (Is (.int .i64 er))) e w' := by
  obtain ⟨A, n, c, rfl, h1, h2, h3, h4⟩ := h
  exact ⟨_, rfl, ⟨_, _, rfl, ⟨A, n, c, rfl, h1.out, h3.mono hb⟩, rfl⟩, h4⟩
theorem Gv.imp (hi : ∀ v w, R v w → S v w) (e : Ending) (w' : World) (h : Gv w R e w') : Gv w S e w' := by
  obtain ⟨v, rfl, h1, h2⟩ := h
  exact ⟨v, rfl, hi _ _ h1, h2⟩
theorem ZR.imp {b' : Nat} (hb : b ≤ b') (v : Value) (w : World) (h : ZR b' z v w) : ZR b z v w := by
  obtain ⟨s, A, n, c, rfl, h⟩ := h
  exact ⟨s, A, n, c, rfl, h.mono hb⟩
theorem WR.imp {b' m : Nat} (hb : b ≤ b') (v : Value) (w : World) (h : WR b' m v w) : WR b m v w := by
  obtain ⟨A, n, c, rfl, h1, h2⟩ := h
  exact ⟨A, n, c, rfl, h1, h2.mono hb⟩
theorem T2.imp {R' S' : Value → World → Prop} (h1 : ∀ v w, R v w → R' v w) (h2 : ∀ v w, S v w → S' v w) (v : Value) (w : World) (h : T2 R S v w) : T2 R' S' v w := by
  obtain ⟨a, c, rfl, h3, h4⟩ := h
  exact ⟨a, c, rfl, h1 _ _ h3, h2 _ _ h4⟩
theorem T3.imp {R' S' T' : Value → World → Prop} (h1 : ∀ v w, R v w → R' v w) (h2 : ∀ v w, S v w → S' v w) (h0 : ∀ v w, T v w → T' v w) (v : Value) (w : World) (h : T3 R S T v w) : T3 R' S' T' v w := by
  obtain ⟨a, c, d, rfl, h3, h4, h5⟩ := h
  exact ⟨a, c, d, rfl, h1 _ _ h3, h2 _ _ h4, h0 _ _ h5⟩
theorem Is.imp {u : Value} (v : Value) (w : World) (h : Is u v w) : Is u v w := h
theorem gis {u : Value} (e : Ending) (w' : World) (h : e = .returned u ∧ Ext w w') : Gv w (Is u) e w' := ⟨_, h.1, rfl, h.2⟩
theorem gbool {c : Bool} (e : Ending) (w' : World) (h : BoolP c w e w') : Gv w (Is (.bool c)) e w' := ⟨_, h.1, rfl, h.2⟩
end
section
variable {w : World} {b : Nat} (hb : b ≤ w.heap.size) {s t u : Bool} {A B C : Option Addr} {n cap m cap' k cap'' : Nat} {x y z : Int}
include hb
omit hb in
theorem g_divnat_Exact_bad {i j : Nat} (hy : Wi w B m cap' j) (hl' : m ≤ 274877906944) (h0 : j = 0) :
    Calls Try.prog 64 #[.slice A n cap, .slice B m cap'] w (Gv w (Is (.tuple #[.slice none 0 0, .int .i64 4]))) := by
  obtain ⟨ys, h1, rfl⟩ := hy
  exact (divnat_Exact_bad h1 (by omega) h0).mono gis
omit hb in
theorem g_divnat_Exact_not {i j : Nat} (hx : Wi w A n cap i) (hl : n ≤ 274877906944) (hy : Wi w B m cap' j) (hl' : m ≤ 274877906944) (h0 : j ≠ 0) (h1 : i % j ≠ 0) :
    Calls Try.prog 64 #[.slice A n cap, .slice B m cap'] w (Gv w (Is (.tuple #[.slice none 0 0, .int .i64 8]))) := by
  obtain ⟨ys, hy, rfl⟩ := hy
  obtain ⟨xs, hx, rfl⟩ := hx
  exact (divnat_Exact_not hx hl hy hl' h0 h1).mono gis
theorem g_divnat_Exact {i j : Nat} (hx : Wi w A n cap i) (hl : n ≤ 274877906944) (hy : Wi w B m cap' j) (hl' : m ≤ 274877906944) (h0 : j ≠ 0) (h1 : i % j = 0) :
    Calls Try.prog 64 #[.slice A n cap, .slice B m cap'] w (Gv w (T2 (WR b (i / j)) (Is (.int .i64 0)))) := by
  obtain ⟨ys, hy, rfl⟩ := hy
  obtain ⟨xs, hx, rfl⟩ := hx
  exact (divnat_Exact hx hl hy hl' h0 h1).mono (gwe hb)
end
section
variable {w : World} {s t : Bool} {A B : Option Addr} {n cap m cap' : Nat} {x y : Int}
end
end Go.Proofs.Ythggegdkpalgbaa

namespace Go.Proofs.Ythggegdkpalgbaa
open Go.RowKit
/-- a list without the zeros at the high end -/
def TR (A : Option Addr) (n c : Nat) (xs : List Nat) (v : Value) (_ : World) : Prop := ∃ k, v = .slice A k c ∧ k ≤ n ∧ (k = 0 ∨ xs.getD (k - 1) 0 ≠ 0) ∧ ∀ b, nb b (xs.take k) = nb b xs
theorem trim_step {xs : List Nat} {k : Nat} (hk : k > 0) (hl : k ≤ xs.length) (h0 : xs.getD (k - 1) 0 = 0) (hv : ∀ b, nb b (xs.take k) = nb b xs) (b : Nat) : nb b (xs.take (k - 1)) = nb b xs := by
  rw [← hv b, ← nb_take_zero b xs (k - 1) (by omega) h0, Nat.sub_add_cancel hk]
theorem slice_to (A : Option Addr) (c k : Nat) : Value.slice (if c = 0 then A else A.map (·.add (0 * 1))) (k - 0) (c - 0) = .slice A k c := by
  have h0 : A.map (·.add (0 * 1)) = A := by
    cases A with
    | none => rfl
    | some a => simp [add_zero_addr]
  rw [h0, ite_self]; rfl
/-- digits to the base 2^32, as they are handed on -/
def WD (m : Nat) (v : Value) (w : World) : Prop := ∃ A k c, v = .slice A k c ∧ Rd w A k c (db 4294967296 m)
theorem b32 : 2 ≤ 4294967296 := by decide
theorem WB_32 : WB = 4294967296 ^ 2 := by decide
theorem Wfb.wf {xs : List Nat} (h : Wfb 4294967296 xs) : Wf xs := fun x hx => Nat.lt_trans (h x hx) (by decide)
theorem Bk.rd0 {w : World} {g N : Nat} {t : TypeId} {l : List Nat} (h : Bk w g t (l.map W64)) (hw : Wf l) (hl : l.length = N) (hN : N ≤ 9223372036854775807) : Rd w (some ⟨g, 0, none⟩) N N l := by
  have := h.rd hw (o := 0) (n := N) (cap := N) (Nat.le_refl _) (by omega) (by rw [len_maxLen]; exact hN)
  rwa [List.drop_zero, List.take_of_length_le (Nat.le_of_eq hl)] at this
theorem Rd.trim {w : World} {A : Option Addr} {n c k : Nat} {xs : List Nat} (h : Rd w A n c xs) (hw : Wfb 4294967296 xs) (hk : k ≤ n) (ht : k = 0 ∨ xs.getD (k - 1) 0 ≠ 0) (hv : ∀ b, nb b (xs.take k) = nb b xs) :
    Rd w A k c (db 4294967296 (nb 4294967296 xs)) := by
  rw [db_take b32 hw (by rw [h.len]; exact hk) (hv _) ht]
  exact h.take hk (by have := h.rv.le; omega) (Nat.le_refl _)
theorem halves_step3 {l xs : List Nat} {i x : Nat} (hl : 2 * i + 1 < l.length) (hi : i < xs.length) (hx : xs.getD i 0 = x) (h : nb 4294967296 (l.take (2 * i)) = nv (xs.take i)) :
    nb 4294967296 (((l.set (2 * i) (x % 4294967296)).set (2 * i + 1) (x / 4294967296)).take (2 * (i + 1))) = nv (xs.take (i + 1)) := by
  rw [show 2 * (i + 1) = 2 * i + 1 + 1 by omega, nb_set_snoc 4294967296 (by rw [List.length_set]; exact hl), nb_set_snoc 4294967296 (by omega), h, nv_take_snoc xs i hi, hx, WB_32, ← Nat.pow_mul, Nat.pow_succ, Nat.mul_assoc, Nat.add_assoc, ← Nat.mul_add, Nat.mod_add_div]
/-- what the steps of words keep -/
structure WI (ys l : List Nat) (i : Nat) : Prop where
  wf : Wf l
  v : nv l = nb 4294967296 (ys.take i)
  z : ∀ j, i ≤ 2 * j → l.getD j 0 = 0
  o : i % 2 = 1 → l.getD (i / 2) 0 < 4294967296
theorem WI.start (ys : List Nat) (N : Nat) : WI ys (List.replicate N 0) 0 := by
  refine ⟨fun x hx => by rw [(List.mem_replicate.1 hx).2]; decide, ?_, fun j _ => ?_, fun h => by omega⟩
  · rw [nv_nb, nb_zeros]; rfl
  · rw [List.getD_eq_getElem?_getD]
    by_cases h : j < N
    · rw [List.getElem?_replicate_of_lt h]; rfl
    · rw [List.getElem?_eq_none (by rw [List.length_replicate]; omega)]; rfl
theorem WI.even {ys l : List Nat} {i : Nat} (h : WI ys l i) (he : i % 2 = 0) (hi : i < ys.length) (hl : i / 2 < l.length) (hd : ys.getD i 0 < 4294967296) : WI ys (l.set (i / 2) (ys.getD i 0)) (i + 1) := by
  have h0 := h.z (i / 2) (by omega)
  have h1 := nv_set hl (ys.getD i 0)
  refine ⟨Wf_set h.wf _ (Nat.lt_trans hd (by decide)), ?_, fun j hj => ?_, fun _ => ?_⟩
  · rw [nb_take_snoc 4294967296 ys i hi, ← h.v]
    rw [h0, Nat.mul_zero, Nat.add_zero, WB_32, ← Nat.pow_mul, show 2 * (i / 2) = i by omega] at h1
    exact h1
  · rw [getD_set_ne (by omega), h.z j (by omega)]
  · rw [show (i + 1) / 2 = i / 2 by omega, getD_set_eq hl]; exact hd
theorem WI.odd {ys l : List Nat} {i : Nat} (h : WI ys l i) (he : i % 2 = 1) (hi : i < ys.length) (hl : i / 2 < l.length) (hd : ys.getD i 0 < 4294967296) : WI ys (l.set (i / 2) (l.getD (i / 2) 0 + ys.getD i 0 * 4294967296)) (i + 1) := by
  have h0 := h.o he
  have h1 := nv_set hl (l.getD (i / 2) 0 + ys.getD i 0 * 4294967296)
  refine ⟨Wf_set h.wf _ (by rw [WB_def]; omega), ?_, fun j hj => ?_, fun h => by omega⟩
  · have e : WB ^ (i / 2) * 4294967296 = 4294967296 ^ i := by
      rw [WB_32, ← Nat.pow_mul, ← Nat.pow_succ, show (2 * (i / 2)).succ = i by omega]
    rw [nb_take_snoc 4294967296 ys i hi, ← h.v, ← e]
    rw [Nat.mul_add] at h1
    have e2 : WB ^ (i / 2) * (ys.getD i 0 * 4294967296) = WB ^ (i / 2) * 4294967296 * ys.getD i 0 := by rw [Nat.mul_comm (ys.getD i 0), Nat.mul_assoc]
    omega
  · rw [getD_set_ne (by omega), h.z j (by omega)]
theorem WI.done {xs ys l : List Nat} {k : Nat} (h : WI ys l k) (hk : ys.length = k) (hl : l.length = (k + 1) / 2) (hv : nb 4294967296 ys = nb 4294967296 xs) (ht : k = 0 ∨ ys.getD (k - 1) 0 ≠ 0) : l.take ((k + 1) / 2) = wd (nb 4294967296 xs) := by
  have hv2 : nv l = nb 4294967296 xs := by rw [h.v, List.take_of_length_le (Nat.le_of_eq hk), hv]
  rw [List.take_of_length_le (by omega), ← hv2]
  refine (wd_of_ge h.wf ?_).symm
  by_cases h0 : k = 0
  · left; omega
  · right
    have h1 : ys.getD (k - 1) 0 ≠ 0 := by omega
    rw [hv2, ← hv, nb_split 4294967296 ys (k - 1) (by omega), hl]
    have h2 : WB ^ ((k + 1) / 2 - 1) ≤ 4294967296 ^ (k - 1) := by
      rw [WB_32, ← Nat.pow_mul]
      exact Nat.pow_le_pow_right (by decide) (by omega)
    have h3 : 1 ≤ nb 4294967296 (ys.drop (k - 1)) := by
      rw [List.drop_eq_getElem_cons (by omega), nb_cons]
      rw [List.getD_eq_getElem?_getD, List.getElem?_eq_getElem (by omega), Option.getD_some] at h1
      omega
    have h4 : 4294967296 ^ (k - 1) * 1 ≤ 4294967296 ^ (k - 1) * nb 4294967296 (ys.drop (k - 1)) := Nat.mul_le_mul_left _ h3
    omega
theorem top_take {xs : List Nat} {k : Nat} (h : k = 0 ∨ xs.getD (k - 1) 0 ≠ 0) : k = 0 ∨ (xs.take k).getD (k - 1) 0 ≠ 0 := by
  by_cases h0 : k = 0
  · exact Or.inl h0
  · rw [getD_take (by omega)]; exact h
set_option maxHeartbeats 4000000 in
theorem ref3_Trim {w : World} {A : Option Addr} {n cap : Nat} {xs : List Nat} (hx : Rd w A n cap xs) (hln : n ≤ 1099511627776) :
    Calls Try.prog 87 #[.slice A n cap] w (Gv w (TR A n cap xs)) := by
  have hlen := hx.len
  have hle := hx.rv.le
  refine sx_enter Try.func87 rfl (n := 21) rfl (Nat.le_of_ble_eq_true rfl) (args := [.slice A n cap]) ?_
  refine cw_keep [(0, .slice A n cap)] ⟨rfl, trivial⟩ ?_
  refine cw_seq ?_
  refine cw_region ?_
  refine wl_assign rfl rfl (by decide) ?_
  refine wl_nil ?_
  refine eo_then ?_
  refine cw_seq ?_
  refine cw_region ?_
  refine wl_move rfl rfl (by decide) ?_
  refine wl_pure rfl rfl (v := .int .i64 ((n : Nat) : Int)) (by decide) (by kernel_rfl) ?_
  refine wl_assign rfl rfl (by decide) ?_
  refine wl_nil ?_
  refine eo_then ?_
  refine cw_seq ?_
  refine cw_block ?_
  refine cw_loop (T := World × Nat)
    (fun ⟨wr, k⟩ => [(0, .slice A n cap), (3, .int .i64 ((k : Nat) : Int))])
    (fun ⟨wr, k⟩ => wr)
    (fun ⟨wr, k⟩ => (Ext w wr) ∧ (k ≤ n) ∧ (∀ b, nb b (xs.take k) = nb b xs) ∧ (Rd wr A n cap xs))
    (fun ⟨wr, k⟩ => k)
    (⟨w, n⟩ : World × Nat) ⟨(Ext.refl w), Nat.le_refl _, fun b => by rw [List.take_of_length_le (by omega)], hx⟩ rfl ⟨rfl, rfl, trivial⟩ ?_
  rintro ⟨wr, k⟩ ⟨hw1, hk, hv, rl0⟩
  refine cw_re [(0, .slice A n cap), (3, .int .i64 ((k : Nat) : Int))] wr rfl ⟨rfl, rfl, trivial⟩ ?_
  refine cw_seq ?_
  refine cw_seq ?_
  by_cases hkp : k > 0
  ·
    by_cases hz : xs.getD (k - 1) 0 = 0
    ·
      refine cw_region ?_
      refine wl_move rfl rfl (by decide) ?_
      refine wl_cmp rfl rfl rfl true (cb_gt_t (a := k) (b := 0) rfl rfl (by omega)) (by decide) ?_
      refine wl_move rfl rfl (by decide) ?_
      refine wl_move rfl rfl (by decide) ?_
      refine wl_move rfl rfl (by decide) ?_
      refine wl_ar rfl rfl rfl ((k - 1 : Nat) : Int) (ai_sub (a := k) (b := 1) rfl rfl (by omega) (by omega)) (by decide) ?_
      obtain ⟨p1, hp1, hc1, hv1⟩ := (rl0).at (i := k - 1) (by omega)
      refine wl_idx rfl rfl rfl un_u64 sz_u64 (k - 1) rfl (by omega) p1 hp1 (by decide) ?_
      refine wl_load rfl rfl (load_cell1 ag_u64 hc1) (by decide) ?_
      refine wl_cmp rfl rfl rfl true (cb_eq_t (a := xs.getD (k - 1) 0) (b := 0) rfl rfl (by omega)) (by decide) ?_
      refine wl_pure rfl rfl (v := .bool true) (by decide) (by kernel_rfl) ?_
      refine wl_nil ?_
      refine eo_then ?_
      refine cw_true rfl ?_
      refine cw_skip ?_
      refine eo_then ?_
      refine cw_block ?_
      refine cw_region ?_
      refine wl_move rfl rfl (by decide) ?_
      refine wl_ar rfl rfl rfl ((k - 1 : Nat) : Int) (ai_sub (a := k) (b := 1) rfl rfl (by omega) (by omega)) (by decide) ?_
      refine wl_assign rfl rfl (by decide) ?_
      refine wl_nil ?_
      refine eo_block_normal ?_
      refine eo_round (⟨wr, k - 1⟩ : World × Nat) ⟨hw1, (by omega), trim_step hkp (by omega) hz hv, rl0⟩ (show k - 1 < k by omega) rfl ⟨rfl, rfl, trivial⟩
    ·
      refine cw_region ?_
      refine wl_move rfl rfl (by decide) ?_
      refine wl_cmp rfl rfl rfl true (cb_gt_t (a := k) (b := 0) rfl rfl (by omega)) (by decide) ?_
      refine wl_move rfl rfl (by decide) ?_
      refine wl_move rfl rfl (by decide) ?_
      refine wl_move rfl rfl (by decide) ?_
      refine wl_ar rfl rfl rfl ((k - 1 : Nat) : Int) (ai_sub (a := k) (b := 1) rfl rfl (by omega) (by omega)) (by decide) ?_
      obtain ⟨p2, hp2, hc2, hv2⟩ := (rl0).at (i := k - 1) (by omega)
      refine wl_idx rfl rfl rfl un_u64 sz_u64 (k - 1) rfl (by omega) p2 hp2 (by decide) ?_
      refine wl_load rfl rfl (load_cell1 ag_u64 hc2) (by decide) ?_
      refine wl_cmp rfl rfl rfl false (cb_eq_f (a := xs.getD (k - 1) 0) (b := 0) rfl rfl (by omega)) (by decide) ?_
      refine wl_pure rfl rfl (v := .bool false) (by decide) (by kernel_rfl) ?_
      refine wl_nil ?_
      refine eo_then ?_
      refine cw_false rfl ?_
      refine cw_exit ?_
      refine eo_thenX ?_
      refine eo_loopX ?_
      refine eo_block_here ?_
      refine eo_then ?_
      refine cw_seq ?_
      refine cw_region ?_
      refine wl_move rfl rfl (by decide) ?_
      refine wl_move rfl rfl (by decide) ?_
      refine wl_slice rfl rfl un_u64 sz_u64 (lo := 0) (hi := k) rfl rfl (by omega) (by omega) (v := .slice A k cap) (slice_to _ _ _) (by decide) ?_
      refine wl_assign rfl rfl (by decide) ?_
      refine wl_nil ?_
      refine eo_then ?_
      refine cw_ret ?_
      refine eo_ret [.slice A k cap] rfl ⟨rfl, trivial⟩ ?_
      exact ⟨_, rfl, ⟨k, rfl, hk, Or.inr hz, hv⟩, hw1⟩
  ·
    refine cw_region ?_
    refine wl_move rfl rfl (by decide) ?_
    refine wl_cmp rfl rfl rfl false (cb_gt_f (a := k) (b := 0) rfl rfl (by omega)) (by decide) ?_
    refine wl_move rfl rfl (by decide) ?_
    refine wl_off rfl (by decide) ?_
    refine wl_off rfl (by decide) ?_
    refine wl_off rfl (by decide) ?_
    refine wl_off rfl (by decide) ?_
    refine wl_off rfl (by decide) ?_
    refine wl_off rfl (by decide) ?_
    refine wl_pure rfl rfl (v := .bool false) (by decide) (by kernel_rfl) ?_
    refine wl_nil ?_
    refine eo_then ?_
    refine cw_false rfl ?_
    refine cw_exit ?_
    refine eo_thenX ?_
    refine eo_loopX ?_
    refine eo_block_here ?_
    refine eo_then ?_
    refine cw_seq ?_
    refine cw_region ?_
    refine wl_move rfl rfl (by decide) ?_
    refine wl_move rfl rfl (by decide) ?_
    refine wl_slice rfl rfl un_u64 sz_u64 (lo := 0) (hi := k) rfl rfl (by omega) (by omega) (v := .slice A k cap) (slice_to _ _ _) (by decide) ?_
    refine wl_assign rfl rfl (by decide) ?_
    refine wl_nil ?_
    refine eo_then ?_
    refine cw_ret ?_
    refine eo_ret [.slice A k cap] rfl ⟨rfl, trivial⟩ ?_
    exact ⟨_, rfl, ⟨k, rfl, hk, Or.inl (by omega), hv⟩, hw1⟩
set_option maxHeartbeats 4000000 in
theorem ref3_halves {w : World} {A : Option Addr} {n cap : Nat} {xs : List Nat} (hx : Rd w A n cap xs) (hln : n ≤ 274877906944) :
    Calls Try.prog 82 #[.slice A n cap] w (Gv w (WD (nv xs))) := by
  have hlen := hx.len
  have hle := hx.rv.le
  refine sx_enter Try.func82 rfl (n := 38) rfl (Nat.le_of_ble_eq_true rfl) (args := [.slice A n cap]) ?_
  refine cw_keep [(0, .slice A n cap)] ⟨rfl, trivial⟩ ?_
  refine cw_seq ?_
  refine cw_region ?_
  refine wl_assign rfl rfl (by decide) ?_
  refine wl_nil ?_
  refine eo_then ?_
  refine cw_seq ?_
  refine cw_region ?_
  refine wl_move rfl rfl (by decide) ?_
  refine wl_call rfl rfl (vs := [.slice A n cap]) (by kernel_rfl) (by decide) (ref3_Trim hx (by omega)) ?_
  rintro _ v1 ⟨xr3, rfl, r3, e2⟩
  refine ret_intro ?_
  have hw1 : Ext w v1 := (Ext.refl w).trans e2
  obtain ⟨k4, rfl, hk4, ht4, hv4⟩ := r3
  have rd4 := ((hx.ext e2)).take hk4 (by omega) (Nat.le_refl _)
  refine wl_assign rfl rfl (by decide) ?_
  refine wl_nil ?_
  refine eo_then ?_
  refine cw_seq ?_
  obtain ⟨ys, hys⟩ : ∃ ys, xs.take k4 = ys := ⟨_, rfl⟩
  have hvy : nv ys = nv xs := by rw [← hys, nv_nb, nv_nb]; exact hv4 _
  rw [hys] at rd4
  have hly := rd4.len
  refine cw_region ?_
  refine wl_move rfl rfl (by decide) ?_
  refine wl_pure rfl rfl (v := .int .i64 ((k4 : Nat) : Int)) (by decide) (by kernel_rfl) ?_
  refine wl_ar rfl rfl rfl ((2 * k4 : Nat) : Int) (ai_mul (a := 2) (b := k4) rfl rfl (by omega)) (by decide) ?_
  refine wl_make rfl (k := 2 * k4) rfl rfl rfl un_u64 info64 rfl (by decide) (by omega) (by decide) fun g5 v6 hg7 hb8 e9 => ?_
  rw [replicate_W64] at hb8
  have ge10 : w.heap.size ≤ g5 := by rw [← hg7]; exact hw1.size
  have ne12 : 0 < cap → ∀ a, A = some a → a.block ≠ g5 := fun hc a ha => by have := (rd4).rv.blk a ha hc; omega
  clear hg7
  have hw2 : Ext w v6 := hw1.trans e9
  refine wl_assign rfl rfl (by decide) ?_
  refine wl_nil ?_
  refine eo_then ?_
  refine cw_seq ?_
  refine cw_seq ?_
  refine cw_region ?_
  refine wl_assign rfl rfl (by decide) ?_
  refine wl_nil ?_
  refine eo_then ?_
  refine cw_block ?_
  refine cw_loop (T := World × Nat × List Nat)
    (fun ⟨wr, i, l⟩ => [(0, .slice A k4 cap), (3, .slice (some ⟨g5, 0, none⟩) (2 * k4) (2 * k4)), (4, .int .i64 ((i : Nat) : Int))])
    (fun ⟨wr, i, l⟩ => wr)
    (fun ⟨wr, i, l⟩ => (Ext w wr) ∧ (i ≤ k4) ∧ (Bk wr g5 23 (l.map W64)) ∧ (l.length = 2 * k4) ∧ (Wfb 4294967296 l) ∧ (nb 4294967296 (l.take (2 * i)) = nv (ys.take i)) ∧ (Rd wr A k4 cap ys))
    (fun ⟨wr, i, l⟩ => k4 - i)
    (⟨v6, 0, _⟩ : World × Nat × List Nat) ⟨hw2, Nat.zero_le _, hb8, (List.length_replicate (n := 2 * k4) (a := 0)), Wfb_zeros (by decide) _, by simp [nb, nv], (rd4.ext e9)⟩ rfl ⟨rfl, rfl, rfl, trivial⟩ ?_
  rintro ⟨wr, i, l⟩ ⟨hw1, hi, hb, hl, hwf, hv, rl0⟩
  refine cw_re [(0, .slice A k4 cap), (3, .slice (some ⟨g5, 0, none⟩) (2 * k4) (2 * k4)), (4, .int .i64 ((i : Nat) : Int))] wr rfl ⟨rfl, rfl, rfl, trivial⟩ ?_
  refine cw_seq ?_
  refine cw_seq ?_
  by_cases him : i < k4
  ·
    refine cw_region ?_
    refine wl_move rfl rfl (by decide) ?_
    refine wl_move rfl rfl (by decide) ?_
    refine wl_pure rfl rfl (v := .int .i64 ((k4 : Nat) : Int)) (by decide) (by kernel_rfl) ?_
    refine wl_cmp rfl rfl rfl true (cb_lt_t (a := i) (b := k4) rfl rfl (by omega)) (by decide) ?_
    refine wl_nil ?_
    refine eo_then ?_
    refine cw_true rfl ?_
    refine cw_skip ?_
    refine eo_then ?_
    refine cw_seq ?_
    refine cw_block ?_
    refine cw_seq ?_
    have hxb : ys.getD i 0 ≤ 18446744073709551615 := by have := Wf_getD rd4.wf i; rw [WB_def] at this; omega
    refine cw_region ?_
    refine wl_move rfl rfl (by decide) ?_
    refine wl_move rfl rfl (by decide) ?_
    refine wl_ar rfl rfl rfl ((2 * i : Nat) : Int) (ai_mul (a := 2) (b := i) rfl rfl (by omega)) (by decide) ?_
    refine wl_move rfl rfl (by decide) ?_
    refine wl_move rfl rfl (by decide) ?_
    obtain ⟨p13, hp13, hc13, hv13⟩ := (rl0).at (i := i) (by omega)
    refine wl_idx rfl rfl rfl un_u64 sz_u64 i rfl (by omega) p13 hp13 (by decide) ?_
    refine wl_load rfl rfl (load_cell1 ag_u64 hc13) (by decide) ?_
    refine wl_ar rfl rfl rfl (((ys.getD i 0) % 4294967296 : Nat) : Int) (au_rem (a := ys.getD i 0) (b := 4294967296) rfl rfl (by omega)) (by decide) ?_
    refine wl_idx rfl rfl rfl un_u64 sz_u64 (2 * i) rfl (by omega) ⟨g5, 2 * i, none⟩ (arr_at _ _) (by decide) ?_
    have hb15 := hb
    refine wl_stored1 rfl rfl rfl sz_u64 rfl hb15 (len_map (by rw [hl]; omega)) rfl ((l.set (2 * i) ((ys.getD i 0) % 4294967296)).map W64) (map_W64_set _ _ _) fun v14 hb16 u17 hs18 => ?_
    have hw2 : Ext w v14 := u17.ext hw1 ge10
    refine wl_nil ?_
    refine eo_then ?_
    refine cw_region ?_
    refine wl_move rfl rfl (by decide) ?_
    refine wl_move rfl rfl (by decide) ?_
    refine wl_ar rfl rfl rfl ((2 * i : Nat) : Int) (ai_mul (a := 2) (b := i) rfl rfl (by omega)) (by decide) ?_
    refine wl_ar rfl rfl rfl (((2 * i) + 1 : Nat) : Int) (ai_add (a := 2 * i) (b := 1) rfl rfl (by omega)) (by decide) ?_
    refine wl_move rfl rfl (by decide) ?_
    refine wl_move rfl rfl (by decide) ?_
    obtain ⟨p19, hp19, hc19, hv19⟩ := ((Rd.updL rl0 u17 ne12)).at (i := i) (by omega)
    refine wl_idx rfl rfl rfl un_u64 sz_u64 i rfl (by omega) p19 hp19 (by decide) ?_
    refine wl_load rfl rfl (load_cell1 ag_u64 hc19) (by decide) ?_
    refine wl_ar rfl rfl rfl (((ys.getD i 0) / 4294967296 : Nat) : Int) (au_quo (a := ys.getD i 0) (b := 4294967296) rfl rfl (by omega) (by omega)) (by decide) ?_
    refine wl_idx rfl rfl rfl un_u64 sz_u64 ((2 * i) + 1) rfl (by omega) ⟨g5, (2 * i) + 1, none⟩ (arr_at _ _) (by decide) ?_
    have hb21 := hb16
    refine wl_stored1 rfl rfl rfl sz_u64 rfl hb21 (len_map (by rw [(len_set (l := l) (hl))]; omega)) rfl (((l.set (2 * i) ((ys.getD i 0) % 4294967296)).set ((2 * i) + 1) ((ys.getD i 0) / 4294967296)).map W64) (map_W64_set _ _ _) fun v20 hb22 u23 hs24 => ?_
    have hw3 : Ext w v20 := u23.ext hw2 ge10
    refine wl_nil ?_
    refine eo_block_normal ?_
    refine eo_then ?_
    refine cw_region ?_
    refine wl_move rfl rfl (by decide) ?_
    refine wl_ar rfl rfl rfl ((i + 1 : Nat) : Int) (ai_add (a := i) (b := 1) rfl rfl (by omega)) (by decide) ?_
    refine wl_assign rfl rfl (by decide) ?_
    refine wl_nil ?_
    refine eo_round (⟨v20, i + 1, _⟩ : World × Nat × List Nat) ⟨hw3, (by omega), hb22, (len_set (l := l.set (2 * i) ((ys.getD i 0) % 4294967296)) ((len_set (l := l) (hl)))), Wfb_set (Wfb_set hwf _ (Nat.mod_lt _ (by decide))) _ (by omega), halves_step3 (by omega) (by omega) rfl hv, (Rd.updL (Rd.updL rl0 u17 ne12) u23 ne12)⟩ (show k4 - (i + 1) < k4 - i by omega) rfl ⟨rfl, rfl, rfl, trivial⟩
  ·
    refine cw_region ?_
    refine wl_move rfl rfl (by decide) ?_
    refine wl_move rfl rfl (by decide) ?_
    refine wl_pure rfl rfl (v := .int .i64 ((k4 : Nat) : Int)) (by decide) (by kernel_rfl) ?_
    refine wl_cmp rfl rfl rfl false (cb_lt_f (a := i) (b := k4) rfl rfl (by omega)) (by decide) ?_
    refine wl_nil ?_
    refine eo_then ?_
    refine cw_false rfl ?_
    refine cw_exit ?_
    refine eo_thenX ?_
    refine eo_loopX ?_
    refine eo_block_here ?_
    refine eo_then ?_
    refine cw_seq ?_
    obtain rfl : k4 = i := by omega
    have hval : nb 4294967296 l = nv xs := by rw [← hvy]; rwa [List.take_of_length_le (by omega), List.take_of_length_le (by omega)] at hv
    refine cw_region ?_
    refine wl_move rfl rfl (by decide) ?_
    refine wl_call rfl rfl (vs := [.slice (some ⟨g5, 0, none⟩) (2 * k4) (2 * k4)]) (by kernel_rfl) (by decide) (ref3_Trim (hb.rd0 hwf.wf hl (by omega)) (by omega)) ?_
    rintro _ v25 ⟨xr27, rfl, r27, e26⟩
    refine ret_intro ?_
    have hw2 : Ext w v25 := hw1.trans e26
    obtain ⟨k28, rfl, hk28, ht28, hv28⟩ := r27
    refine wl_assign rfl rfl (by decide) ?_
    refine wl_nil ?_
    refine eo_then ?_
    refine cw_ret ?_
    refine eo_ret [.slice (some ⟨g5, 0, none⟩) k28 (2 * k4)] rfl ⟨rfl, trivial⟩ ?_
    have hr := ((hb.ext e26).rd0 hwf.wf hl (by omega)).trim hwf hk28 ht28 hv28
    rw [hval] at hr
    exact ⟨_, rfl, ⟨_, _, _, rfl, hr⟩, hw2⟩
set_option maxHeartbeats 4000000 in
theorem ref3_words {w : World} {A : Option Addr} {n cap : Nat} {xs : List Nat} (hx : Rd w A n cap xs) (hln : n ≤ 1099511627776) (hwx : Wfb 4294967296 xs) :
    Calls Try.prog 84 #[.slice A n cap] w (Gv w (WR w.heap.size (nb 4294967296 xs))) := by
  have hlen := hx.len
  have hle := hx.rv.le
  refine sx_enter Try.func84 rfl (n := 45) rfl (Nat.le_of_ble_eq_true rfl) (args := [.slice A n cap]) ?_
  refine cw_keep [(0, .slice A n cap)] ⟨rfl, trivial⟩ ?_
  refine cw_seq ?_
  refine cw_region ?_
  refine wl_assign rfl rfl (by decide) ?_
  refine wl_nil ?_
  refine eo_then ?_
  refine cw_seq ?_
  refine cw_region ?_
  refine wl_move rfl rfl (by decide) ?_
  refine wl_call rfl rfl (vs := [.slice A n cap]) (by kernel_rfl) (by decide) (ref3_Trim hx (by omega)) ?_
  rintro _ v1 ⟨xr3, rfl, r3, e2⟩
  refine ret_intro ?_
  have hw1 : Ext w v1 := (Ext.refl w).trans e2
  obtain ⟨k4, rfl, hk4, ht4, hv4⟩ := r3
  have rd4 := ((hx.ext e2)).take hk4 (by omega) (Nat.le_refl _)
  refine wl_assign rfl rfl (by decide) ?_
  refine wl_nil ?_
  refine eo_then ?_
  refine cw_seq ?_
  have hwy : Wfb 4294967296 (xs.take k4) := Wfb_take hwx _
  have hty := top_take ht4
  have hvy := hv4 4294967296
  obtain ⟨ys, hys⟩ : ∃ ys, xs.take k4 = ys := ⟨_, rfl⟩
  rw [hys] at rd4 hwy hty hvy
  have hly := rd4.len
  refine cw_region ?_
  refine wl_move rfl rfl (by decide) ?_
  refine wl_pure rfl rfl (v := .int .i64 ((k4 : Nat) : Int)) (by decide) (by kernel_rfl) ?_
  refine wl_ar rfl rfl rfl ((k4 + 1 : Nat) : Int) (ai_add (a := k4) (b := 1) rfl rfl (by omega)) (by decide) ?_
  refine wl_ar rfl rfl rfl (((k4 + 1) / 2 : Nat) : Int) (ai_quo (a := k4 + 1) (b := 2) rfl rfl (by omega) (by omega)) (by decide) ?_
  refine wl_make rfl (k := (k4 + 1) / 2) rfl rfl rfl un_u64 info64 rfl (by decide) (by omega) (by decide) fun g5 v6 hg7 hb8 e9 => ?_
  rw [replicate_W64] at hb8
  have ge10 : w.heap.size ≤ g5 := by rw [← hg7]; exact hw1.size
  have ne12 : 0 < cap → ∀ a, A = some a → a.block ≠ g5 := fun hc a ha => by have := (rd4).rv.blk a ha hc; omega
  clear hg7
  have hw2 : Ext w v6 := hw1.trans e9
  refine wl_assign rfl rfl (by decide) ?_
  refine wl_nil ?_
  refine eo_then ?_
  refine cw_seq ?_
  refine cw_seq ?_
  refine cw_region ?_
  refine wl_assign rfl rfl (by decide) ?_
  refine wl_nil ?_
  refine eo_then ?_
  refine cw_block ?_
  refine cw_loop (T := World × Nat × List Nat)
    (fun ⟨wr, i, l⟩ => [(0, .slice A k4 cap), (3, .slice (some ⟨g5, 0, none⟩) ((k4 + 1) / 2) ((k4 + 1) / 2)), (4, .int .i64 ((i : Nat) : Int))])
    (fun ⟨wr, i, l⟩ => wr)
    (fun ⟨wr, i, l⟩ => (Ext w wr) ∧ (i ≤ k4) ∧ (Bk wr g5 23 (l.map W64)) ∧ (l.length = (k4 + 1) / 2) ∧ (WI ys l i) ∧ (Rd wr A k4 cap ys))
    (fun ⟨wr, i, l⟩ => k4 - i)
    (⟨v6, 0, _⟩ : World × Nat × List Nat) ⟨hw2, Nat.zero_le _, hb8, (List.length_replicate (n := (k4 + 1) / 2) (a := 0)), WI.start _ _, (rd4.ext e9)⟩ rfl ⟨rfl, rfl, rfl, trivial⟩ ?_
  rintro ⟨wr, i, l⟩ ⟨hw1, hi, hb, hl, hI, rl0⟩
  refine cw_re [(0, .slice A k4 cap), (3, .slice (some ⟨g5, 0, none⟩) ((k4 + 1) / 2) ((k4 + 1) / 2)), (4, .int .i64 ((i : Nat) : Int))] wr rfl ⟨rfl, rfl, rfl, trivial⟩ ?_
  refine cw_seq ?_
  refine cw_seq ?_
  by_cases him : i < k4
  ·
    refine cw_region ?_
    refine wl_move rfl rfl (by decide) ?_
    refine wl_move rfl rfl (by decide) ?_
    refine wl_pure rfl rfl (v := .int .i64 ((k4 : Nat) : Int)) (by decide) (by kernel_rfl) ?_
    refine wl_cmp rfl rfl rfl true (cb_lt_t (a := i) (b := k4) rfl rfl (by omega)) (by decide) ?_
    refine wl_nil ?_
    refine eo_then ?_
    refine cw_true rfl ?_
    refine cw_skip ?_
    refine eo_then ?_
    refine cw_seq ?_
    refine cw_block ?_
    refine cw_seq ?_
    have hxb := Wfb_getD (b := 4294967296) (by decide) hwy i
    by_cases hp : i % 2 = 0
    ·
      refine cw_region ?_
      refine wl_move rfl rfl (by decide) ?_
      refine wl_ar rfl rfl rfl ((i % 2 : Nat) : Int) (au_rem (a := i) (b := 2) rfl rfl (by omega)) (by decide) ?_
      refine wl_cmp rfl rfl rfl true (cb_eq_t (a := i % 2) (b := 0) rfl rfl (by omega)) (by decide) ?_
      refine wl_nil ?_
      refine eo_then ?_
      refine cw_true rfl ?_
      refine cw_region ?_
      refine wl_move rfl rfl (by decide) ?_
      refine wl_move rfl rfl (by decide) ?_
      refine wl_ar rfl rfl rfl ((i / 2 : Nat) : Int) (ai_quo (a := i) (b := 2) rfl rfl (by omega) (by omega)) (by decide) ?_
      refine wl_move rfl rfl (by decide) ?_
      refine wl_move rfl rfl (by decide) ?_
      obtain ⟨p13, hp13, hc13, hv13⟩ := (rl0).at (i := i) (by omega)
      refine wl_idx rfl rfl rfl un_u64 sz_u64 i rfl (by omega) p13 hp13 (by decide) ?_
      refine wl_load rfl rfl (load_cell1 ag_u64 hc13) (by decide) ?_
      refine wl_idx rfl rfl rfl un_u64 sz_u64 (i / 2) rfl (by omega) ⟨g5, i / 2, none⟩ (arr_at _ _) (by decide) ?_
      have hb15 := hb
      refine wl_stored1 rfl rfl rfl sz_u64 rfl hb15 (len_map (by rw [hl]; omega)) rfl ((l.set (i / 2) (ys.getD i 0)).map W64) (map_W64_set _ _ _) fun v14 hb16 u17 hs18 => ?_
      have hw2 : Ext w v14 := u17.ext hw1 ge10
      refine wl_nil ?_
      refine eo_block_normal ?_
      refine eo_then ?_
      refine cw_region ?_
      refine wl_move rfl rfl (by decide) ?_
      refine wl_ar rfl rfl rfl ((i + 1 : Nat) : Int) (ai_add (a := i) (b := 1) rfl rfl (by omega)) (by decide) ?_
      refine wl_assign rfl rfl (by decide) ?_
      refine wl_nil ?_
      refine eo_round (⟨v14, i + 1, _⟩ : World × Nat × List Nat) ⟨hw2, (by omega), hb16, (len_set (l := l) (hl)), hI.even hp (by omega) (by omega) hxb, (Rd.updL rl0 u17 ne12)⟩ (show k4 - (i + 1) < k4 - i by omega) rfl ⟨rfl, rfl, rfl, trivial⟩
    ·
      have hob := hI.o (by omega)
      refine cw_region ?_
      refine wl_move rfl rfl (by decide) ?_
      refine wl_ar rfl rfl rfl ((i % 2 : Nat) : Int) (au_rem (a := i) (b := 2) rfl rfl (by omega)) (by decide) ?_
      refine wl_cmp rfl rfl rfl false (cb_eq_f (a := i % 2) (b := 0) rfl rfl (by omega)) (by decide) ?_
      refine wl_nil ?_
      refine eo_then ?_
      refine cw_false rfl ?_
      refine cw_keep [(0, .slice A k4 cap), (3, .slice (some ⟨g5, 0, none⟩) ((k4 + 1) / 2) ((k4 + 1) / 2)), (4, .int .i64 ((i : Nat) : Int)), (12, .int .i64 ((i : Nat) : Int)), (13, .slice A k4 cap), (14, .int .i64 ((k4 : Nat) : Int)), (15, .bool true), (18, .int .i64 ((i : Nat) : Int)), (19, .int .i64 ((i % 2 : Nat) : Int)), (20, .bool false)] ⟨rfl, rfl, rfl, rfl, rfl, rfl, rfl, rfl, rfl, rfl, trivial⟩ ?_
      obtain ⟨v19, hv, e20⟩ : ∃ v, v = wr.drew ∧ Ext wr v := ⟨_, rfl, (Ext.refl _).drew⟩
      have hw2 : Ext w v19 := hw1.trans e20
      obtain ⟨p21, hp21, hc21, hv21⟩ := ((rl0.ext e20)).at (i := i) (by omega)
      have hb23 := (hb.ext e20)
      obtain ⟨v22, hr27, hb24, u25, hs26⟩ := run_store1v (P := Try.prog) (v := .int .u64 (((l.getD (i / 2) 0) + ((ys.getD i 0) * 4294967296) : Nat) : Int)) (off := i / 2) sz_u64 rfl hb23 (len_map (by rw [hl]; omega)) rfl ((l.set (i / 2) ((l.getD (i / 2) 0) + ((ys.getD i 0) * 4294967296))).map W64) (map_W64_set _ _ _)
      have hw3 : Ext w v22 := u25.ext hw2 ge10
      refine cw_det mix (w := v19) [.slice (some ⟨g5, 0, none⟩) ((k4 + 1) / 2) ((k4 + 1) / 2), .int .i64 ((i : Nat) : Int), .int .i64 ((i / 2 : Nat) : Int), .slice (some ⟨g5, 0, none⟩) ((k4 + 1) / 2) ((k4 + 1) / 2), .int .i64 ((i : Nat) : Int), .int .i64 ((i / 2 : Nat) : Int), .pointer (some (⟨g5, i / 2, none⟩)), .int .u64 ((l.getD (i / 2) 0 : Nat) : Int), .slice A k4 cap, .int .i64 ((i : Nat) : Int), .pointer (some p21), .int .u64 ((ys.getD i 0 : Nat) : Int), .int .u64 (((ys.getD i 0) * 4294967296 : Nat) : Int), .int .u64 (((l.getD (i / 2) 0) + ((ys.getD i 0) * 4294967296) : Nat) : Int), .pointer (some (⟨g5, i / 2, none⟩)), undef] [v19, v22] [15] [[], [], [1], [], [], [4], [3, 5], [6], [], [], [8, 9], [10], [11], [7, 12], [0, 2], [13, 14]] [[], [], [1], [], [], [4], [3, 4, 5], [3, 4, 5, 6], [], [], [8, 9], [8, 9, 10], [8, 9, 10, 11], [3, 4, 5, 6, 7, 8, 9, 10, 11, 12], [0, 1, 2, 3, 4, 5, 6, 7, 8, 9, 10, 11, 12, 13], [0, 1, 2, 3, 4, 5, 6, 7, 8, 9, 10, 11, 12, 13, 14]] [(0, 0), (1, 0), (2, 0), (3, 0), (4, 0), (5, 0), (6, 0), (7, 0), (8, 0), (9, 0), (10, 0), (11, 0), (12, 0), (13, 0), (14, 0), (15, 0)] rfl hv ?_ ?_
      ·
        refine dobs_val ([(0, .slice A k4 cap), (3, .slice (some ⟨g5, 0, none⟩) ((k4 + 1) / 2) ((k4 + 1) / 2)), (4, .int .i64 ((i : Nat) : Int)), (12, .int .i64 ((i : Nat) : Int)), (13, .slice A k4 cap), (14, .int .i64 ((k4 : Nat) : Int)), (15, .bool true), (18, .int .i64 ((i : Nat) : Int)), (19, .int .i64 ((i % 2 : Nat) : Int)), (20, .bool false)]) rfl rfl rfl rfl rfl (rd_move rfl) ?_
        refine dobs_val ([(0, .slice A k4 cap), (3, .slice (some ⟨g5, 0, none⟩) ((k4 + 1) / 2) ((k4 + 1) / 2)), (4, .int .i64 ((i : Nat) : Int)), (12, .int .i64 ((i : Nat) : Int)), (13, .slice A k4 cap), (14, .int .i64 ((k4 : Nat) : Int)), (15, .bool true), (18, .int .i64 ((i : Nat) : Int)), (19, .int .i64 ((i % 2 : Nat) : Int)), (20, .bool false)]) rfl rfl rfl rfl rfl (rd_move rfl) ?_
        refine dobs_val ((30, .int .i64 ((i : Nat) : Int)) :: [(0, .slice A k4 cap), (3, .slice (some ⟨g5, 0, none⟩) ((k4 + 1) / 2) ((k4 + 1) / 2)), (4, .int .i64 ((i : Nat) : Int)), (12, .int .i64 ((i : Nat) : Int)), (13, .slice A k4 cap), (14, .int .i64 ((k4 : Nat) : Int)), (15, .bool true), (18, .int .i64 ((i : Nat) : Int)), (19, .int .i64 ((i % 2 : Nat) : Int)), (20, .bool false)]) rfl rfl rfl rfl rfl (rd_ar rfl rfl ((i / 2 : Nat) : Int) (ai_quo (a := i) (b := 2) rfl rfl (by omega) (by omega))) ?_
        refine dobs_val ([(0, .slice A k4 cap), (3, .slice (some ⟨g5, 0, none⟩) ((k4 + 1) / 2) ((k4 + 1) / 2)), (4, .int .i64 ((i : Nat) : Int)), (12, .int .i64 ((i : Nat) : Int)), (13, .slice A k4 cap), (14, .int .i64 ((k4 : Nat) : Int)), (15, .bool true), (18, .int .i64 ((i : Nat) : Int)), (19, .int .i64 ((i % 2 : Nat) : Int)), (20, .bool false)]) rfl rfl rfl rfl rfl (rd_move rfl) ?_
        refine dobs_val ([(0, .slice A k4 cap), (3, .slice (some ⟨g5, 0, none⟩) ((k4 + 1) / 2) ((k4 + 1) / 2)), (4, .int .i64 ((i : Nat) : Int)), (12, .int .i64 ((i : Nat) : Int)), (13, .slice A k4 cap), (14, .int .i64 ((k4 : Nat) : Int)), (15, .bool true), (18, .int .i64 ((i : Nat) : Int)), (19, .int .i64 ((i % 2 : Nat) : Int)), (20, .bool false)]) rfl rfl rfl rfl rfl (rd_move rfl) ?_
        refine dobs_val ((33, .int .i64 ((i : Nat) : Int)) :: [(0, .slice A k4 cap), (3, .slice (some ⟨g5, 0, none⟩) ((k4 + 1) / 2) ((k4 + 1) / 2)), (4, .int .i64 ((i : Nat) : Int)), (12, .int .i64 ((i : Nat) : Int)), (13, .slice A k4 cap), (14, .int .i64 ((k4 : Nat) : Int)), (15, .bool true), (18, .int .i64 ((i : Nat) : Int)), (19, .int .i64 ((i % 2 : Nat) : Int)), (20, .bool false)]) rfl rfl rfl rfl rfl (rd_ar rfl rfl ((i / 2 : Nat) : Int) (ai_quo (a := i) (b := 2) rfl rfl (by omega) (by omega))) ?_
        refine dobs_val ((32, .slice (some ⟨g5, 0, none⟩) ((k4 + 1) / 2) ((k4 + 1) / 2)) :: (34, .int .i64 ((i / 2 : Nat) : Int)) :: [(0, .slice A k4 cap), (3, .slice (some ⟨g5, 0, none⟩) ((k4 + 1) / 2) ((k4 + 1) / 2)), (4, .int .i64 ((i : Nat) : Int)), (12, .int .i64 ((i : Nat) : Int)), (13, .slice A k4 cap), (14, .int .i64 ((k4 : Nat) : Int)), (15, .bool true), (18, .int .i64 ((i : Nat) : Int)), (19, .int .i64 ((i % 2 : Nat) : Int)), (20, .bool false)]) rfl rfl rfl rfl rfl (rd_idx rfl rfl un_u64 sz_u64 (i / 2) rfl (by omega) ⟨g5, i / 2, none⟩ (arr_at _ _)) ?_
        refine dobs_val ((35, .pointer (some (⟨g5, i / 2, none⟩))) :: [(0, .slice A k4 cap), (3, .slice (some ⟨g5, 0, none⟩) ((k4 + 1) / 2) ((k4 + 1) / 2)), (4, .int .i64 ((i : Nat) : Int)), (12, .int .i64 ((i : Nat) : Int)), (13, .slice A k4 cap), (14, .int .i64 ((k4 : Nat) : Int)), (15, .bool true), (18, .int .i64 ((i : Nat) : Int)), (19, .int .i64 ((i % 2 : Nat) : Int)), (20, .bool false)]) rfl rfl rfl rfl rfl (rd_load rfl (load_word ag_u64 (hb.ext e20) (by rw [hl]; omega))) ?_
        refine dobs_val ([(0, .slice A k4 cap), (3, .slice (some ⟨g5, 0, none⟩) ((k4 + 1) / 2) ((k4 + 1) / 2)), (4, .int .i64 ((i : Nat) : Int)), (12, .int .i64 ((i : Nat) : Int)), (13, .slice A k4 cap), (14, .int .i64 ((k4 : Nat) : Int)), (15, .bool true), (18, .int .i64 ((i : Nat) : Int)), (19, .int .i64 ((i % 2 : Nat) : Int)), (20, .bool false)]) rfl rfl rfl rfl rfl (rd_move rfl) ?_
        refine dobs_val ([(0, .slice A k4 cap), (3, .slice (some ⟨g5, 0, none⟩) ((k4 + 1) / 2) ((k4 + 1) / 2)), (4, .int .i64 ((i : Nat) : Int)), (12, .int .i64 ((i : Nat) : Int)), (13, .slice A k4 cap), (14, .int .i64 ((k4 : Nat) : Int)), (15, .bool true), (18, .int .i64 ((i : Nat) : Int)), (19, .int .i64 ((i % 2 : Nat) : Int)), (20, .bool false)]) rfl rfl rfl rfl rfl (rd_move rfl) ?_
        refine dobs_val ((37, .slice A k4 cap) :: (38, .int .i64 ((i : Nat) : Int)) :: [(0, .slice A k4 cap), (3, .slice (some ⟨g5, 0, none⟩) ((k4 + 1) / 2) ((k4 + 1) / 2)), (4, .int .i64 ((i : Nat) : Int)), (12, .int .i64 ((i : Nat) : Int)), (13, .slice A k4 cap), (14, .int .i64 ((k4 : Nat) : Int)), (15, .bool true), (18, .int .i64 ((i : Nat) : Int)), (19, .int .i64 ((i % 2 : Nat) : Int)), (20, .bool false)]) rfl rfl rfl rfl rfl (rd_idx rfl rfl un_u64 sz_u64 i rfl (by omega) p21 hp21) ?_
        refine dobs_val ((39, .pointer (some p21)) :: [(0, .slice A k4 cap), (3, .slice (some ⟨g5, 0, none⟩) ((k4 + 1) / 2) ((k4 + 1) / 2)), (4, .int .i64 ((i : Nat) : Int)), (12, .int .i64 ((i : Nat) : Int)), (13, .slice A k4 cap), (14, .int .i64 ((k4 : Nat) : Int)), (15, .bool true), (18, .int .i64 ((i : Nat) : Int)), (19, .int .i64 ((i % 2 : Nat) : Int)), (20, .bool false)]) rfl rfl rfl rfl rfl (rd_load rfl (load_cell1 ag_u64 hc21)) ?_
        refine dobs_val ((40, .int .u64 ((ys.getD i 0 : Nat) : Int)) :: [(0, .slice A k4 cap), (3, .slice (some ⟨g5, 0, none⟩) ((k4 + 1) / 2) ((k4 + 1) / 2)), (4, .int .i64 ((i : Nat) : Int)), (12, .int .i64 ((i : Nat) : Int)), (13, .slice A k4 cap), (14, .int .i64 ((k4 : Nat) : Int)), (15, .bool true), (18, .int .i64 ((i : Nat) : Int)), (19, .int .i64 ((i % 2 : Nat) : Int)), (20, .bool false)]) rfl rfl rfl rfl rfl (rd_ar rfl rfl (((ys.getD i 0) * 4294967296 : Nat) : Int) (au_mul (a := ys.getD i 0) (b := 4294967296) rfl rfl (by omega))) ?_
        refine dobs_val ((36, .int .u64 ((l.getD (i / 2) 0 : Nat) : Int)) :: (41, .int .u64 (((ys.getD i 0) * 4294967296 : Nat) : Int)) :: [(0, .slice A k4 cap), (3, .slice (some ⟨g5, 0, none⟩) ((k4 + 1) / 2) ((k4 + 1) / 2)), (4, .int .i64 ((i : Nat) : Int)), (12, .int .i64 ((i : Nat) : Int)), (13, .slice A k4 cap), (14, .int .i64 ((k4 : Nat) : Int)), (15, .bool true), (18, .int .i64 ((i : Nat) : Int)), (19, .int .i64 ((i % 2 : Nat) : Int)), (20, .bool false)]) rfl rfl rfl rfl rfl (rd_ar rfl rfl (((l.getD (i / 2) 0) + ((ys.getD i 0) * 4294967296) : Nat) : Int) (au_add (a := l.getD (i / 2) 0) (b := (ys.getD i 0) * 4294967296) rfl rfl (by omega))) ?_
        refine dobs_val ((29, .slice (some ⟨g5, 0, none⟩) ((k4 + 1) / 2) ((k4 + 1) / 2)) :: (31, .int .i64 ((i / 2 : Nat) : Int)) :: [(0, .slice A k4 cap), (3, .slice (some ⟨g5, 0, none⟩) ((k4 + 1) / 2) ((k4 + 1) / 2)), (4, .int .i64 ((i : Nat) : Int)), (12, .int .i64 ((i : Nat) : Int)), (13, .slice A k4 cap), (14, .int .i64 ((k4 : Nat) : Int)), (15, .bool true), (18, .int .i64 ((i : Nat) : Int)), (19, .int .i64 ((i % 2 : Nat) : Int)), (20, .bool false)]) rfl rfl rfl rfl rfl (rd_idx rfl rfl un_u64 sz_u64 (i / 2) rfl (by omega) ⟨g5, i / 2, none⟩ (arr_at _ _)) ?_
        refine dobs_sto ((42, .int .u64 (((l.getD (i / 2) 0) + ((ys.getD i 0) * 4294967296) : Nat) : Int)) :: (43, .pointer (some (⟨g5, i / 2, none⟩))) :: [(0, .slice A k4 cap), (3, .slice (some ⟨g5, 0, none⟩) ((k4 + 1) / 2) ((k4 + 1) / 2)), (4, .int .i64 ((i : Nat) : Int)), (12, .int .i64 ((i : Nat) : Int)), (13, .slice A k4 cap), (14, .int .i64 ((k4 : Nat) : Int)), (15, .bool true), (18, .int .i64 ((i : Nat) : Int)), (19, .int .i64 ((i % 2 : Nat) : Int)), (20, .bool false)]) rfl rfl rfl rfl rfl (rd_store rfl rfl hr27) ?_
        exact dobs_nil
      clear hv
      refine eo_keep [(0, .slice A k4 cap), (3, .slice (some ⟨g5, 0, none⟩) ((k4 + 1) / 2) ((k4 + 1) / 2)), (4, .int .i64 ((i : Nat) : Int)), (12, .int .i64 ((i : Nat) : Int)), (13, .slice A k4 cap), (14, .int .i64 ((k4 : Nat) : Int)), (15, .bool true), (18, .int .i64 ((i : Nat) : Int)), (19, .int .i64 ((i % 2 : Nat) : Int)), (20, .bool false), (29, .slice (some ⟨g5, 0, none⟩) ((k4 + 1) / 2) ((k4 + 1) / 2)), (30, .int .i64 ((i : Nat) : Int)), (31, .int .i64 ((i / 2 : Nat) : Int)), (32, .slice (some ⟨g5, 0, none⟩) ((k4 + 1) / 2) ((k4 + 1) / 2)), (33, .int .i64 ((i : Nat) : Int)), (34, .int .i64 ((i / 2 : Nat) : Int)), (35, .pointer (some (⟨g5, i / 2, none⟩))), (36, .int .u64 ((l.getD (i / 2) 0 : Nat) : Int)), (37, .slice A k4 cap), (38, .int .i64 ((i : Nat) : Int)), (39, .pointer (some p21)), (40, .int .u64 ((ys.getD i 0 : Nat) : Int)), (41, .int .u64 (((ys.getD i 0) * 4294967296 : Nat) : Int)), (42, .int .u64 (((l.getD (i / 2) 0) + ((ys.getD i 0) * 4294967296) : Nat) : Int)), (43, .pointer (some (⟨g5, i / 2, none⟩)))] ⟨rfl, rfl, rfl, rfl, rfl, rfl, rfl, rfl, rfl, rfl, rfl, rfl, rfl, rfl, rfl, rfl, rfl, rfl, rfl, rfl, rfl, rfl, rfl, rfl, rfl, trivial⟩ ?_
      refine eo_block_normal ?_
      refine eo_then ?_
      refine cw_region ?_
      refine wl_move rfl rfl (by decide) ?_
      refine wl_ar rfl rfl rfl ((i + 1 : Nat) : Int) (ai_add (a := i) (b := 1) rfl rfl (by omega)) (by decide) ?_
      refine wl_assign rfl rfl (by decide) ?_
      refine wl_nil ?_
      refine eo_round (⟨v22, i + 1, _⟩ : World × Nat × List Nat) ⟨hw3, (by omega), hb24, (len_set (l := l) (hl)), hI.odd (by omega) (by omega) (by omega) hxb, (Rd.updL (rl0.ext e20) u25 ne12)⟩ (show k4 - (i + 1) < k4 - i by omega) rfl ⟨rfl, rfl, rfl, trivial⟩
  ·
    refine cw_region ?_
    refine wl_move rfl rfl (by decide) ?_
    refine wl_move rfl rfl (by decide) ?_
    refine wl_pure rfl rfl (v := .int .i64 ((k4 : Nat) : Int)) (by decide) (by kernel_rfl) ?_
    refine wl_cmp rfl rfl rfl false (cb_lt_f (a := i) (b := k4) rfl rfl (by omega)) (by decide) ?_
    refine wl_nil ?_
    refine eo_then ?_
    refine cw_false rfl ?_
    refine cw_exit ?_
    refine eo_thenX ?_
    refine eo_loopX ?_
    refine eo_block_here ?_
    refine eo_then ?_
    refine cw_seq ?_
    refine cw_region ?_
    refine wl_move rfl rfl (by decide) ?_
    refine wl_assign rfl rfl (by decide) ?_
    refine wl_nil ?_
    refine eo_then ?_
    refine cw_ret ?_
    refine eo_ret [.slice (some ⟨g5, 0, none⟩) ((k4 + 1) / 2) ((k4 + 1) / 2)] rfl ⟨rfl, trivial⟩ ?_
    obtain rfl : k4 = i := by omega
    exact gw (Nat.le_refl _) _ _ (RetW_mk (ys := l) ge10 hb hl (Nat.le_refl _) (by rw [len_maxLen]; omega) (hI.done hly hl hvy hty) hw1)
/-- an array of its own: digits of m -/
def AR (b N m : Nat) (v : Value) (w : World) : Prop := ∃ g l, v = .slice (some ⟨g, 0, none⟩) N N ∧ b ≤ g ∧ Bk w g 23 (l.map W64) ∧ l.length = N ∧ Wfb 4294967296 l ∧ nb 4294967296 l = m
theorem scaled_step {l xs : List Nat} {i c f : Nat} (hl : i < l.length) (hi : i < xs.length) (h : nb 4294967296 (l.take i) + 4294967296 ^ i * c = nb 4294967296 (xs.take i) * f) :
    nb 4294967296 ((l.set i ((xs.getD i 0 * f + c) % 4294967296)).take (i + 1)) + 4294967296 ^ (i + 1) * ((xs.getD i 0 * f + c) / 4294967296) = nb 4294967296 (xs.take (i + 1)) * f := by
  rw [nb_set_snoc 4294967296 hl, Nat.pow_succ, Nat.mul_assoc, Nat.add_assoc, ← Nat.mul_add, Nat.mod_add_div, nb_take_snoc 4294967296 xs i hi, Nat.add_mul, ← h, Nat.mul_add, Nat.mul_assoc]
  omega
set_option maxHeartbeats 4000000 in
theorem ref3_scaled {w : World} {A : Option Addr} {n cap : Nat} {xs : List Nat} (hx : Rd w A n cap xs) (hln : n ≤ 274877906944) (hwx : Wfb 4294967296 xs) {f : Nat} (hf : f ≤ 4294967295) :
    Calls Try.prog 100 #[.slice A n cap, .int .u64 ((f : Nat) : Int)] w (Gv w (AR w.heap.size (n + 1) (nb 4294967296 xs * f))) := by
  have hlen := hx.len
  have hle := hx.rv.le
  refine sx_enter Try.func100 rfl (n := 40) rfl (Nat.le_of_ble_eq_true rfl) (args := [.slice A n cap, .int .u64 ((f : Nat) : Int)]) ?_
  refine cw_keep [(0, .slice A n cap), (1, .int .u64 ((f : Nat) : Int))] ⟨rfl, rfl, trivial⟩ ?_
  refine cw_seq ?_
  refine cw_region ?_
  refine wl_assign rfl rfl (by decide) ?_
  refine wl_nil ?_
  refine eo_then ?_
  refine cw_seq ?_
  refine cw_region ?_
  refine wl_move rfl rfl (by decide) ?_
  refine wl_pure rfl rfl (v := .int .i64 ((n : Nat) : Int)) (by decide) (by kernel_rfl) ?_
  refine wl_ar rfl rfl rfl ((n + 1 : Nat) : Int) (ai_add (a := n) (b := 1) rfl rfl (by omega)) (by decide) ?_
  refine wl_make rfl (k := n + 1) rfl rfl rfl un_u64 info64 rfl (by decide) (by omega) (by decide) fun g1 v2 hg3 hb4 e5 => ?_
  rw [replicate_W64] at hb4
  have ge6 : w.heap.size ≤ g1 := by rw [← hg3]; exact (Ext.refl w).size
  have ne8 : 0 < cap → ∀ a, A = some a → a.block ≠ g1 := fun hc a ha => by have := (hx).rv.blk a ha hc; omega
  clear hg3
  have hw1 : Ext w v2 := (Ext.refl w).trans e5
  refine wl_assign rfl rfl (by decide) ?_
  refine wl_nil ?_
  refine eo_then ?_
  refine cw_seq ?_
  refine cw_region ?_
  refine wl_assign rfl rfl (by decide) ?_
  refine wl_nil ?_
  refine eo_then ?_
  refine cw_seq ?_
  refine cw_seq ?_
  refine cw_region ?_
  refine wl_assign rfl rfl (by decide) ?_
  refine wl_nil ?_
  refine eo_then ?_
  refine cw_block ?_
  refine cw_loop (T := World × Nat × Nat × List Nat)
    (fun ⟨wr, i, c, l⟩ => [(0, .slice A n cap), (1, .int .u64 ((f : Nat) : Int)), (5, .slice (some ⟨g1, 0, none⟩) (n + 1) (n + 1)), (6, .int .u64 ((c : Nat) : Int)), (7, .int .i64 ((i : Nat) : Int))])
    (fun ⟨wr, i, c, l⟩ => wr)
    (fun ⟨wr, i, c, l⟩ => (Ext w wr) ∧ (i ≤ n) ∧ (c ≤ 4294967295) ∧ (Bk wr g1 23 (l.map W64)) ∧ (l.length = n + 1) ∧ (Wfb 4294967296 l) ∧ (nb 4294967296 (l.take i) + 4294967296 ^ i * c = nb 4294967296 (xs.take i) * f) ∧ (Rd wr A n cap xs))
    (fun ⟨wr, i, c, l⟩ => n - i)
    (⟨v2, 0, 0, _⟩ : World × Nat × Nat × List Nat) ⟨hw1, Nat.zero_le _, Nat.zero_le _, hb4, (List.length_replicate (n := n + 1) (a := 0)), Wfb_zeros (by decide) _, by simp [nb], (hx.ext e5)⟩ rfl ⟨rfl, rfl, rfl, rfl, rfl, trivial⟩ ?_
  rintro ⟨wr, i, c, l⟩ ⟨hw1, hi, hc, hb, hl, hwf, hv, rl0⟩
  refine cw_re [(0, .slice A n cap), (1, .int .u64 ((f : Nat) : Int)), (5, .slice (some ⟨g1, 0, none⟩) (n + 1) (n + 1)), (6, .int .u64 ((c : Nat) : Int)), (7, .int .i64 ((i : Nat) : Int))] wr rfl ⟨rfl, rfl, rfl, rfl, rfl, trivial⟩ ?_
  refine cw_seq ?_
  refine cw_seq ?_
  by_cases him : i < n
  ·
    refine cw_region ?_
    refine wl_move rfl rfl (by decide) ?_
    refine wl_move rfl rfl (by decide) ?_
    refine wl_pure rfl rfl (v := .int .i64 ((n : Nat) : Int)) (by decide) (by kernel_rfl) ?_
    refine wl_cmp rfl rfl rfl true (cb_lt_t (a := i) (b := n) rfl rfl (by omega)) (by decide) ?_
    refine wl_nil ?_
    refine eo_then ?_
    refine cw_true rfl ?_
    refine cw_skip ?_
    refine eo_then ?_
    refine cw_seq ?_
    refine cw_block ?_
    refine cw_seq ?_
    have hxb := Wfb_getD (b := 4294967296) (by decide) hwx i
    have hm : (xs.getD i 0) * f ≤ 4294967295 * 4294967295 := Nat.mul_le_mul (by omega) hf
    refine cw_region ?_
    refine wl_move rfl rfl (by decide) ?_
    refine wl_move rfl rfl (by decide) ?_
    obtain ⟨p9, hp9, hc9, hv9⟩ := (rl0).at (i := i) (by omega)
    refine wl_idx rfl rfl rfl un_u64 sz_u64 i rfl (by omega) p9 hp9 (by decide) ?_
    refine wl_load rfl rfl (load_cell1 ag_u64 hc9) (by decide) ?_
    refine wl_move rfl rfl (by decide) ?_
    refine wl_ar rfl rfl rfl (((xs.getD i 0) * f : Nat) : Int) (au_mul (a := xs.getD i 0) (b := f) rfl rfl (by omega)) (by decide) ?_
    refine wl_move rfl rfl (by decide) ?_
    refine wl_ar rfl rfl rfl ((((xs.getD i 0) * f) + c : Nat) : Int) (au_add (a := (xs.getD i 0) * f) (b := c) rfl rfl (by omega)) (by decide) ?_
    refine wl_assign rfl rfl (by decide) ?_
    refine wl_nil ?_
    refine eo_then ?_
    refine cw_seq ?_
    refine cw_region ?_
    refine wl_move rfl rfl (by decide) ?_
    refine wl_move rfl rfl (by decide) ?_
    refine wl_move rfl rfl (by decide) ?_
    refine wl_ar rfl rfl rfl (((((xs.getD i 0) * f) + c) % 4294967296 : Nat) : Int) (au_rem (a := ((xs.getD i 0) * f) + c) (b := 4294967296) rfl rfl (by omega)) (by decide) ?_
    refine wl_idx rfl rfl rfl un_u64 sz_u64 i rfl (by omega) ⟨g1, i, none⟩ (arr_at _ _) (by decide) ?_
    have hb11 := hb
    refine wl_stored1 rfl rfl rfl sz_u64 rfl hb11 (len_map (by rw [hl]; omega)) rfl ((l.set i ((((xs.getD i 0) * f) + c) % 4294967296)).map W64) (map_W64_set _ _ _) fun v10 hb12 u13 hs14 => ?_
    have hw2 : Ext w v10 := u13.ext hw1 ge6
    refine wl_nil ?_
    refine eo_then ?_
    refine cw_region ?_
    refine wl_move rfl rfl (by decide) ?_
    refine wl_ar rfl rfl rfl (((((xs.getD i 0) * f) + c) / 4294967296 : Nat) : Int) (au_quo (a := ((xs.getD i 0) * f) + c) (b := 4294967296) rfl rfl (by omega) (by omega)) (by decide) ?_
    refine wl_assign rfl rfl (by decide) ?_
    refine wl_nil ?_
    refine eo_block_normal ?_
    refine eo_then ?_
    refine cw_region ?_
    refine wl_move rfl rfl (by decide) ?_
    refine wl_ar rfl rfl rfl ((i + 1 : Nat) : Int) (ai_add (a := i) (b := 1) rfl rfl (by omega)) (by decide) ?_
    refine wl_assign rfl rfl (by decide) ?_
    refine wl_nil ?_
    refine eo_round (⟨v10, i + 1, _, _⟩ : World × Nat × Nat × List Nat) ⟨hw2, (by omega), (by omega), hb12, (len_set (l := l) (hl)), Wfb_set hwf _ (Nat.mod_lt _ (by decide)), scaled_step (by omega) (by omega) hv, (Rd.updL rl0 u13 ne8)⟩ (show n - (i + 1) < n - i by omega) rfl ⟨rfl, rfl, rfl, rfl, rfl, trivial⟩
  ·
    refine cw_region ?_
    refine wl_move rfl rfl (by decide) ?_
    refine wl_move rfl rfl (by decide) ?_
    refine wl_pure rfl rfl (v := .int .i64 ((n : Nat) : Int)) (by decide) (by kernel_rfl) ?_
    refine wl_cmp rfl rfl rfl false (cb_lt_f (a := i) (b := n) rfl rfl (by omega)) (by decide) ?_
    refine wl_nil ?_
    refine eo_then ?_
    refine cw_false rfl ?_
    refine cw_exit ?_
    refine eo_thenX ?_
    refine eo_loopX ?_
    refine eo_block_here ?_
    refine eo_then ?_
    refine cw_seq ?_
    obtain rfl : n = i := by omega
    refine cw_region ?_
    refine wl_move rfl rfl (by decide) ?_
    refine wl_move rfl rfl (by decide) ?_
    refine wl_pure rfl rfl (v := .int .i64 ((n : Nat) : Int)) (by decide) (by kernel_rfl) ?_
    refine wl_move rfl rfl (by decide) ?_
    refine wl_idx rfl rfl rfl un_u64 sz_u64 n rfl (by omega) ⟨g1, n, none⟩ (arr_at _ _) (by decide) ?_
    have hb16 := hb
    refine wl_stored1 rfl rfl rfl sz_u64 rfl hb16 (len_map (by rw [hl]; omega)) rfl ((l.set n c).map W64) (map_W64_set _ _ _) fun v15 hb17 u18 hs19 => ?_
    have hw2 : Ext w v15 := u18.ext hw1 ge6
    refine wl_nil ?_
    refine eo_then ?_
    refine cw_seq ?_
    refine cw_region ?_
    refine wl_move rfl rfl (by decide) ?_
    refine wl_assign rfl rfl (by decide) ?_
    refine wl_nil ?_
    refine eo_then ?_
    refine cw_ret ?_
    refine eo_ret [.slice (some ⟨g1, 0, none⟩) (n + 1) (n + 1)] rfl ⟨rfl, trivial⟩ ?_
    refine ⟨_, rfl, ⟨_, _, rfl, ge6, hb17, (len_set (l := l) (hl)), Wfb_set hwf _ (by omega), ?_⟩, hw2⟩
    have h2 := nb_set_snoc 4294967296 (l := l) (i := n) (by omega) c
    rw [List.take_of_length_le (by rw [List.length_set]; omega)] at h2
    rw [h2, hv, List.take_of_length_le (by omega)]
end Go.Proofs.Ythggegdkpalgbaa

namespace Go.Proofs.Ythggegdkpalgbaa
open Go.RowKit
/-- r less q times b, from place s on -/
def TK (g N q s : Nat) (l es : List Nat) (w : World) (e : Ending) (w' : World) : Prop :=
  e = .returned (.tuple #[]) ∧ Upd g w w' ∧ ∃ l', Bk w' g 23 (l'.map W64) ∧ l'.length = N ∧ Wfb 4294967296 l' ∧ nb 4294967296 l' + q * nb 4294967296 es * 4294967296 ^ s = nb 4294967296 l
theorem takeOff_step {b : Nat} {l es : List Nat} {s i c q e T d d' c' Y : Nat} (h : nb b l + q * nb b (es.take i) * b ^ s = Y + b ^ (s + i) * c) (hk : s + i < l.length) (hd0 : l.getD (s + i) 0 = d) (hT : T = c + q * e) (he : nb b (es.take (i + 1)) = nb b (es.take i) + b ^ i * e)
    (hd : d' + T = d + b * c') : nb b (l.set (s + i) d') + q * nb b (es.take (i + 1)) * b ^ s = Y + b ^ (s + (i + 1)) * c' := by
  have h1 := nb_set b hk d'
  rw [hd0] at h1
  have e1 : q * nb b (es.take (i + 1)) * b ^ s = q * nb b (es.take i) * b ^ s + b ^ (s + i) * (q * e) := by
    rw [he, Nat.mul_add, Nat.add_mul, Nat.pow_add]
    congr 1
    grind
  have e2 : b ^ (s + i) * (d' + T) = b ^ (s + i) * (d + b * c') := by rw [hd]
  have e3 : b ^ (s + (i + 1)) * c' = b ^ (s + i) * (b * c') := by rw [← Nat.add_assoc, Nat.pow_succ, Nat.mul_assoc]
  rw [hT] at e2
  simp only [Nat.mul_add] at e2
  rw [e1, e3]
  omega
theorem takeOff_more {b : Nat} {es : List Nat} {i : Nat} (h : es.length ≤ i) : nb b (es.take (i + 1)) = nb b (es.take i) + b ^ i * 0 := by
  rw [List.take_of_length_le (by omega), List.take_of_length_le h]; rfl
theorem takeOff_done {l l' es : List Nat} {N s i m c q : Nat} (hw : Wfb 4294967296 l') (hl : l'.length = N) (he : es.length = m) (hs : s + m ≤ N) (hi : s + i ≤ N) (hq : q * nb 4294967296 es * 4294967296 ^ s ≤ nb 4294967296 l)
    (h : nb 4294967296 l' + q * nb 4294967296 (es.take i) * 4294967296 ^ s = nb 4294967296 l + 4294967296 ^ (s + i) * c) (hend : s + i = N ∨ m ≤ i ∧ c = 0) : nb 4294967296 l' + q * nb 4294967296 es * 4294967296 ^ s = nb 4294967296 l := by
  have hmi : m ≤ i := by omega
  rw [List.take_of_length_le (by omega)] at h
  have hc : c = 0 := by
    rcases hend with h1 | h1
    · have h2 := nb_lt hw
      rw [hl] at h2
      rw [h1] at h
      refine Nat.eq_zero_of_not_pos fun hp => ?_
      have h3 : 4294967296 ^ N * 1 ≤ 4294967296 ^ N * c := Nat.mul_le_mul_left _ hp
      omega
    · exact h1.2
  rw [hc, Nat.mul_zero, Nat.add_zero] at h
  exact h
set_option maxHeartbeats 4000000 in
theorem ref3_takeOff {w : World} {g N m cd q s : Nat} {D : Option Addr} {l es : List Nat} (hb0 : Bk w g 23 (l.map W64)) (hl0 : l.length = N) (hN : N ≤ 1099511627776) (hwl : Wfb 4294967296 l) (hy : Rd w D m cd es) (hwe : Wfb 4294967296 es) (hne : 0 < cd → ∀ a, D = some a → a.block ≠ g) (hqb : q < 4294967296) (hs : s + m ≤ N) (hq : q * nb 4294967296 es * 4294967296 ^ s ≤ nb 4294967296 l) :
    Calls Try.prog 88 #[.slice (some ⟨g, 0, none⟩) N N, .slice D m cd, .int .u64 ((q : Nat) : Int), .int .i64 ((s : Nat) : Int)] w (TK g N q s l es w) := by
  have hle := hy.len
  refine sx_enter Try.func88 rfl (n := 84) rfl (Nat.le_of_ble_eq_true rfl) (args := [.slice (some ⟨g, 0, none⟩) N N, .slice D m cd, .int .u64 ((q : Nat) : Int), .int .i64 ((s : Nat) : Int)]) ?_
  refine cw_keep [(0, .slice (some ⟨g, 0, none⟩) N N), (1, .slice D m cd), (2, .int .u64 ((q : Nat) : Int)), (3, .int .i64 ((s : Nat) : Int))] ⟨rfl, rfl, rfl, rfl, trivial⟩ ?_
  refine cw_seq ?_
  refine cw_region ?_
  refine wl_assign rfl rfl (by decide) ?_
  refine wl_nil ?_
  refine eo_then ?_
  refine cw_seq ?_
  refine cw_region ?_
  refine wl_assign rfl rfl (by decide) ?_
  refine wl_nil ?_
  refine eo_then ?_
  refine cw_block ?_
  refine cw_loop (T := World × Nat × Nat × List Nat)
    (fun ⟨wr, i, c, l'⟩ => [(0, .slice (some ⟨g, 0, none⟩) N N), (1, .slice D m cd), (2, .int .u64 ((q : Nat) : Int)), (3, .int .i64 ((s : Nat) : Int)), (8, .int .u64 ((c : Nat) : Int)), (9, .int .i64 ((i : Nat) : Int))])
    (fun ⟨wr, i, c, l'⟩ => wr)
    (fun ⟨wr, i, c, l'⟩ => (Upd g w wr) ∧ (s + i ≤ N) ∧ (c ≤ 4294967296) ∧ (Bk wr g 23 (l'.map W64)) ∧ (l'.length = N) ∧ (Wfb 4294967296 l') ∧ (nb 4294967296 l' + q * nb 4294967296 (es.take i) * 4294967296 ^ s = nb 4294967296 l + 4294967296 ^ (s + i) * c) ∧ (Rd wr D m cd es))
    (fun ⟨wr, i, c, l'⟩ => N - (s + i))
    (⟨w, 0, 0, l⟩ : World × Nat × Nat × List Nat) ⟨Upd.refl g w, (by omega), (by decide), hb0, hl0, hwl, by simp [nb], hy⟩ rfl ⟨rfl, rfl, rfl, rfl, rfl, rfl, trivial⟩ ?_
  rintro ⟨wr, i, c, l'⟩ ⟨hu, hi, hc, hb, hl, hwf, hv, rl1⟩
  refine cw_re [(0, .slice (some ⟨g, 0, none⟩) N N), (1, .slice D m cd), (2, .int .u64 ((q : Nat) : Int)), (3, .int .i64 ((s : Nat) : Int)), (8, .int .u64 ((c : Nat) : Int)), (9, .int .i64 ((i : Nat) : Int))] wr rfl ⟨rfl, rfl, rfl, rfl, rfl, rfl, trivial⟩ ?_
  refine cw_seq ?_
  refine cw_seq ?_
  by_cases hsi : s + i < N
  ·
    by_cases him : i < m
    ·
      refine cw_region ?_
      refine wl_move rfl rfl (by decide) ?_
      refine wl_move rfl rfl (by decide) ?_
      refine wl_ar rfl rfl rfl ((s + i : Nat) : Int) (ai_add (a := s) (b := i) rfl rfl (by omega)) (by decide) ?_
      refine wl_move rfl rfl (by decide) ?_
      refine wl_pure rfl rfl (v := .int .i64 ((N : Nat) : Int)) (by decide) (by kernel_rfl) ?_
      refine wl_cmp rfl rfl rfl true (cb_lt_t (a := s + i) (b := N) rfl rfl (by omega)) (by decide) ?_
      refine wl_move rfl rfl (by decide) ?_
      refine wl_move rfl rfl (by decide) ?_
      refine wl_move rfl rfl (by decide) ?_
      refine wl_pure rfl rfl (v := .int .i64 ((m : Nat) : Int)) (by decide) (by kernel_rfl) ?_
      refine wl_cmp rfl rfl rfl true (cb_lt_t (a := i) (b := m) rfl rfl (by omega)) (by decide) ?_
      refine wl_move rfl rfl (by decide) ?_
      refine wl_off rfl (by decide) ?_
      refine wl_off rfl (by decide) ?_
      refine wl_pure rfl rfl (v := .bool true) (by decide) (by kernel_rfl) ?_
      refine wl_pure rfl rfl (v := .bool true) (by decide) (by kernel_rfl) ?_
      refine wl_nil ?_
      refine eo_then ?_
      refine cw_true rfl ?_
      refine cw_skip ?_
      refine eo_then ?_
      refine cw_seq ?_
      refine cw_block ?_
      refine cw_seq ?_
      refine cw_region ?_
      refine wl_move rfl rfl (by decide) ?_
      refine wl_assign rfl rfl (by decide) ?_
      refine wl_nil ?_
      refine eo_then ?_
      refine cw_seq ?_
      refine cw_seq ?_
      refine cw_region ?_
      refine wl_move rfl rfl (by decide) ?_
      refine wl_move rfl rfl (by decide) ?_
      refine wl_pure rfl rfl (v := .int .i64 ((m : Nat) : Int)) (by decide) (by kernel_rfl) ?_
      refine wl_cmp rfl rfl rfl true (cb_lt_t (a := i) (b := m) rfl rfl (by omega)) (by decide) ?_
      refine wl_nil ?_
      refine eo_then ?_
      refine cw_true rfl ?_
      have hey := Wfb_getD (b := 4294967296) (by decide) hwe i
      have hm : q * (es.getD i 0) ≤ 4294967295 * 4294967295 := Nat.mul_le_mul (by omega) (by omega)
      refine cw_region ?_
      refine wl_move rfl rfl (by decide) ?_
      refine wl_move rfl rfl (by decide) ?_
      refine wl_move rfl rfl (by decide) ?_
      refine wl_move rfl rfl (by decide) ?_
      obtain ⟨p1, hp1, hc1, hv1⟩ := (rl1).at (i := i) (by omega)
      refine wl_idx rfl rfl rfl un_u64 sz_u64 i rfl (by omega) p1 hp1 (by decide) ?_
      refine wl_load rfl rfl (load_cell1 ag_u64 hc1) (by decide) ?_
      refine wl_ar rfl rfl rfl ((q * (es.getD i 0) : Nat) : Int) (au_mul (a := q) (b := es.getD i 0) rfl rfl (by omega)) (by decide) ?_
      refine wl_ar rfl rfl rfl ((c + (q * (es.getD i 0)) : Nat) : Int) (au_add (a := c) (b := q * (es.getD i 0)) rfl rfl (by omega)) (by decide) ?_
      refine wl_assign rfl rfl (by decide) ?_
      refine wl_nil ?_
      refine eo_then ?_
      refine cw_seq ?_
      refine cw_region ?_
      refine wl_move rfl rfl (by decide) ?_
      refine wl_ar rfl rfl rfl (((c + (q * (es.getD i 0))) % 4294967296 : Nat) : Int) (au_rem (a := c + (q * (es.getD i 0))) (b := 4294967296) rfl rfl (by omega)) (by decide) ?_
      refine wl_assign rfl rfl (by decide) ?_
      refine wl_nil ?_
      refine eo_then ?_
      refine cw_seq ?_
      refine cw_region ?_
      refine wl_move rfl rfl (by decide) ?_
      refine wl_ar rfl rfl rfl (((c + (q * (es.getD i 0))) / 4294967296 : Nat) : Int) (au_quo (a := c + (q * (es.getD i 0))) (b := 4294967296) rfl rfl (by omega) (by omega)) (by decide) ?_
      refine wl_assign rfl rfl (by decide) ?_
      refine wl_nil ?_
      refine eo_then ?_
      refine cw_seq ?_
      have hd := Wfb_getD (b := 4294967296) (by decide) hwf (s + i)
      by_cases hlow : l'.getD (s + i) 0 < (c + (q * (es.getD i 0))) % 4294967296
      ·
        refine cw_region ?_
        refine wl_move rfl rfl (by decide) ?_
        refine wl_move rfl rfl (by decide) ?_
        refine wl_move rfl rfl (by decide) ?_
        refine wl_ar rfl rfl rfl ((s + i : Nat) : Int) (ai_add (a := s) (b := i) rfl rfl (by omega)) (by decide) ?_
        refine wl_idx rfl rfl rfl un_u64 sz_u64 (s + i) rfl (by omega) ⟨g, s + i, none⟩ (arr_at _ _) (by decide) ?_
        refine wl_load rfl rfl (load_word ag_u64 hb (by rw [hl]; omega)) (by decide) ?_
        refine wl_move rfl rfl (by decide) ?_
        refine wl_cmp rfl rfl rfl true (cb_lt_t (a := l'.getD (s + i) 0) (b := (c + (q * (es.getD i 0))) % 4294967296) rfl rfl (by omega)) (by decide) ?_
        refine wl_nil ?_
        refine eo_then ?_
        refine cw_true rfl ?_
        refine cw_seq ?_
        refine cw_region ?_
        refine wl_move rfl rfl (by decide) ?_
        refine wl_move rfl rfl (by decide) ?_
        refine wl_move rfl rfl (by decide) ?_
        refine wl_ar rfl rfl rfl ((s + i : Nat) : Int) (ai_add (a := s) (b := i) rfl rfl (by omega)) (by decide) ?_
        refine wl_move rfl rfl (by decide) ?_
        refine wl_move rfl rfl (by decide) ?_
        refine wl_move rfl rfl (by decide) ?_
        refine wl_ar rfl rfl rfl ((s + i : Nat) : Int) (ai_add (a := s) (b := i) rfl rfl (by omega)) (by decide) ?_
        refine wl_idx rfl rfl rfl un_u64 sz_u64 (s + i) rfl (by omega) ⟨g, s + i, none⟩ (arr_at _ _) (by decide) ?_
        refine wl_load rfl rfl (load_word ag_u64 hb (by rw [hl]; omega)) (by decide) ?_
        refine wl_ar rfl rfl rfl (((l'.getD (s + i) 0) + 4294967296 : Nat) : Int) (au_add (a := l'.getD (s + i) 0) (b := 4294967296) rfl rfl (by omega)) (by decide) ?_
        refine wl_move rfl rfl (by decide) ?_
        refine wl_ar rfl rfl rfl ((((l'.getD (s + i) 0) + 4294967296) - ((c + (q * (es.getD i 0))) % 4294967296) : Nat) : Int) (au_sub (a := (l'.getD (s + i) 0) + 4294967296) (b := (c + (q * (es.getD i 0))) % 4294967296) rfl rfl (by omega) (by omega)) (by decide) ?_
        refine wl_idx rfl rfl rfl un_u64 sz_u64 (s + i) rfl (by omega) ⟨g, s + i, none⟩ (arr_at _ _) (by decide) ?_
        have hb3 := hb
        refine wl_stored1 rfl rfl rfl sz_u64 rfl hb3 (len_map (by rw [hl]; omega)) rfl ((l'.set (s + i) (((l'.getD (s + i) 0) + 4294967296) - ((c + (q * (es.getD i 0))) % 4294967296))).map W64) (map_W64_set _ _ _) fun v2 hb4 u5 hs6 => ?_
        refine wl_nil ?_
        refine eo_then ?_
        refine cw_region ?_
        refine wl_move rfl rfl (by decide) ?_
        refine wl_ar rfl rfl rfl ((((c + (q * (es.getD i 0))) / 4294967296) + 1 : Nat) : Int) (au_add (a := (c + (q * (es.getD i 0))) / 4294967296) (b := 1) rfl rfl (by omega)) (by decide) ?_
        refine wl_assign rfl rfl (by decide) ?_
        refine wl_nil ?_
        refine eo_block_normal ?_
        refine eo_then ?_
        refine cw_region ?_
        refine wl_move rfl rfl (by decide) ?_
        refine wl_ar rfl rfl rfl ((i + 1 : Nat) : Int) (ai_add (a := i) (b := 1) rfl rfl (by omega)) (by decide) ?_
        refine wl_assign rfl rfl (by decide) ?_
        refine wl_nil ?_
        refine eo_round (⟨v2, i + 1, _, _⟩ : World × Nat × Nat × List Nat) ⟨hu.trans u5, (by omega), (by omega), hb4, (len_set (l := l') (hl)), Wfb_set hwf _ (by omega), takeOff_step hv (by omega) rfl rfl (nb_take_snoc _ _ _ (by omega)) (by omega), (Rd.updL rl1 u5 hne)⟩ (show N - (s + (i + 1)) < N - (s + i) by omega) rfl ⟨rfl, rfl, rfl, rfl, rfl, rfl, trivial⟩
      ·
        refine cw_region ?_
        refine wl_move rfl rfl (by decide) ?_
        refine wl_move rfl rfl (by decide) ?_
        refine wl_move rfl rfl (by decide) ?_
        refine wl_ar rfl rfl rfl ((s + i : Nat) : Int) (ai_add (a := s) (b := i) rfl rfl (by omega)) (by decide) ?_
        refine wl_idx rfl rfl rfl un_u64 sz_u64 (s + i) rfl (by omega) ⟨g, s + i, none⟩ (arr_at _ _) (by decide) ?_
        refine wl_load rfl rfl (load_word ag_u64 hb (by rw [hl]; omega)) (by decide) ?_
        refine wl_move rfl rfl (by decide) ?_
        refine wl_cmp rfl rfl rfl false (cb_lt_f (a := l'.getD (s + i) 0) (b := (c + (q * (es.getD i 0))) % 4294967296) rfl rfl (by omega)) (by decide) ?_
        refine wl_nil ?_
        refine eo_then ?_
        refine cw_false rfl ?_
        refine cw_region ?_
        refine wl_move rfl rfl (by decide) ?_
        refine wl_move rfl rfl (by decide) ?_
        refine wl_move rfl rfl (by decide) ?_
        refine wl_ar rfl rfl rfl ((s + i : Nat) : Int) (ai_add (a := s) (b := i) rfl rfl (by omega)) (by decide) ?_
        refine wl_move rfl rfl (by decide) ?_
        refine wl_move rfl rfl (by decide) ?_
        refine wl_move rfl rfl (by decide) ?_
        refine wl_ar rfl rfl rfl ((s + i : Nat) : Int) (ai_add (a := s) (b := i) rfl rfl (by omega)) (by decide) ?_
        refine wl_idx rfl rfl rfl un_u64 sz_u64 (s + i) rfl (by omega) ⟨g, s + i, none⟩ (arr_at _ _) (by decide) ?_
        refine wl_load rfl rfl (load_word ag_u64 hb (by rw [hl]; omega)) (by decide) ?_
        refine wl_move rfl rfl (by decide) ?_
        refine wl_ar rfl rfl rfl (((l'.getD (s + i) 0) - ((c + (q * (es.getD i 0))) % 4294967296) : Nat) : Int) (au_sub (a := l'.getD (s + i) 0) (b := (c + (q * (es.getD i 0))) % 4294967296) rfl rfl (by omega) (by omega)) (by decide) ?_
        refine wl_idx rfl rfl rfl un_u64 sz_u64 (s + i) rfl (by omega) ⟨g, s + i, none⟩ (arr_at _ _) (by decide) ?_
        have hb8 := hb
        refine wl_stored1 rfl rfl rfl sz_u64 rfl hb8 (len_map (by rw [hl]; omega)) rfl ((l'.set (s + i) ((l'.getD (s + i) 0) - ((c + (q * (es.getD i 0))) % 4294967296))).map W64) (map_W64_set _ _ _) fun v7 hb9 u10 hs11 => ?_
        refine wl_nil ?_
        refine eo_block_normal ?_
        refine eo_then ?_
        refine cw_region ?_
        refine wl_move rfl rfl (by decide) ?_
        refine wl_ar rfl rfl rfl ((i + 1 : Nat) : Int) (ai_add (a := i) (b := 1) rfl rfl (by omega)) (by decide) ?_
        refine wl_assign rfl rfl (by decide) ?_
        refine wl_nil ?_
        refine eo_round (⟨v7, i + 1, _, _⟩ : World × Nat × Nat × List Nat) ⟨hu.trans u10, (by omega), (by omega), hb9, (len_set (l := l') (hl)), Wfb_set hwf _ (by omega), takeOff_step hv (by omega) rfl rfl (nb_take_snoc _ _ _ (by omega)) (by omega), (Rd.updL rl1 u10 hne)⟩ (show N - (s + (i + 1)) < N - (s + i) by omega) rfl ⟨rfl, rfl, rfl, rfl, rfl, rfl, trivial⟩
    ·
      by_cases hcp : c > 0
      ·
        refine cw_region ?_
        refine wl_move rfl rfl (by decide) ?_
        refine wl_move rfl rfl (by decide) ?_
        refine wl_ar rfl rfl rfl ((s + i : Nat) : Int) (ai_add (a := s) (b := i) rfl rfl (by omega)) (by decide) ?_
        refine wl_move rfl rfl (by decide) ?_
        refine wl_pure rfl rfl (v := .int .i64 ((N : Nat) : Int)) (by decide) (by kernel_rfl) ?_
        refine wl_cmp rfl rfl rfl true (cb_lt_t (a := s + i) (b := N) rfl rfl (by omega)) (by decide) ?_
        refine wl_move rfl rfl (by decide) ?_
        refine wl_move rfl rfl (by decide) ?_
        refine wl_move rfl rfl (by decide) ?_
        refine wl_pure rfl rfl (v := .int .i64 ((m : Nat) : Int)) (by decide) (by kernel_rfl) ?_
        refine wl_cmp rfl rfl rfl false (cb_lt_f (a := i) (b := m) rfl rfl (by omega)) (by decide) ?_
        refine wl_move rfl rfl (by decide) ?_
        refine wl_move rfl rfl (by decide) ?_
        refine wl_cmp rfl rfl rfl true (cb_gt_t (a := c) (b := 0) rfl rfl (by omega)) (by decide) ?_
        refine wl_pure rfl rfl (v := .bool true) (by decide) (by kernel_rfl) ?_
        refine wl_pure rfl rfl (v := .bool true) (by decide) (by kernel_rfl) ?_
        refine wl_nil ?_
        refine eo_then ?_
        refine cw_true rfl ?_
        refine cw_skip ?_
        refine eo_then ?_
        refine cw_seq ?_
        refine cw_block ?_
        refine cw_seq ?_
        refine cw_region ?_
        refine wl_move rfl rfl (by decide) ?_
        refine wl_assign rfl rfl (by decide) ?_
        refine wl_nil ?_
        refine eo_then ?_
        refine cw_seq ?_
        refine cw_seq ?_
        refine cw_region ?_
        refine wl_move rfl rfl (by decide) ?_
        refine wl_move rfl rfl (by decide) ?_
        refine wl_pure rfl rfl (v := .int .i64 ((m : Nat) : Int)) (by decide) (by kernel_rfl) ?_
        refine wl_cmp rfl rfl rfl false (cb_lt_f (a := i) (b := m) rfl rfl (by omega)) (by decide) ?_
        refine wl_nil ?_
        refine eo_then ?_
        refine cw_false rfl ?_
        refine cw_skip ?_
        refine eo_then ?_
        refine cw_seq ?_
        refine cw_region ?_
        refine wl_move rfl rfl (by decide) ?_
        refine wl_ar rfl rfl rfl ((c % 4294967296 : Nat) : Int) (au_rem (a := c) (b := 4294967296) rfl rfl (by omega)) (by decide) ?_
        refine wl_assign rfl rfl (by decide) ?_
        refine wl_nil ?_
        refine eo_then ?_
        refine cw_seq ?_
        refine cw_region ?_
        refine wl_move rfl rfl (by decide) ?_
        refine wl_ar rfl rfl rfl ((c / 4294967296 : Nat) : Int) (au_quo (a := c) (b := 4294967296) rfl rfl (by omega) (by omega)) (by decide) ?_
        refine wl_assign rfl rfl (by decide) ?_
        refine wl_nil ?_
        refine eo_then ?_
        refine cw_seq ?_
        have hd := Wfb_getD (b := 4294967296) (by decide) hwf (s + i)
        by_cases hlow : l'.getD (s + i) 0 < c % 4294967296
        ·
          refine cw_region ?_
          refine wl_move rfl rfl (by decide) ?_
          refine wl_move rfl rfl (by decide) ?_
          refine wl_move rfl rfl (by decide) ?_
          refine wl_ar rfl rfl rfl ((s + i : Nat) : Int) (ai_add (a := s) (b := i) rfl rfl (by omega)) (by decide) ?_
          refine wl_idx rfl rfl rfl un_u64 sz_u64 (s + i) rfl (by omega) ⟨g, s + i, none⟩ (arr_at _ _) (by decide) ?_
          refine wl_load rfl rfl (load_word ag_u64 hb (by rw [hl]; omega)) (by decide) ?_
          refine wl_move rfl rfl (by decide) ?_
          refine wl_cmp rfl rfl rfl true (cb_lt_t (a := l'.getD (s + i) 0) (b := c % 4294967296) rfl rfl (by omega)) (by decide) ?_
          refine wl_nil ?_
          refine eo_then ?_
          refine cw_true rfl ?_
          refine cw_seq ?_
          refine cw_region ?_
          refine wl_move rfl rfl (by decide) ?_
          refine wl_move rfl rfl (by decide) ?_
          refine wl_move rfl rfl (by decide) ?_
          refine wl_ar rfl rfl rfl ((s + i : Nat) : Int) (ai_add (a := s) (b := i) rfl rfl (by omega)) (by decide) ?_
          refine wl_move rfl rfl (by decide) ?_
          refine wl_move rfl rfl (by decide) ?_
          refine wl_move rfl rfl (by decide) ?_
          refine wl_ar rfl rfl rfl ((s + i : Nat) : Int) (ai_add (a := s) (b := i) rfl rfl (by omega)) (by decide) ?_
          refine wl_idx rfl rfl rfl un_u64 sz_u64 (s + i) rfl (by omega) ⟨g, s + i, none⟩ (arr_at _ _) (by decide) ?_
          refine wl_load rfl rfl (load_word ag_u64 hb (by rw [hl]; omega)) (by decide) ?_
          refine wl_ar rfl rfl rfl (((l'.getD (s + i) 0) + 4294967296 : Nat) : Int) (au_add (a := l'.getD (s + i) 0) (b := 4294967296) rfl rfl (by omega)) (by decide) ?_
          refine wl_move rfl rfl (by decide) ?_
          refine wl_ar rfl rfl rfl ((((l'.getD (s + i) 0) + 4294967296) - (c % 4294967296) : Nat) : Int) (au_sub (a := (l'.getD (s + i) 0) + 4294967296) (b := c % 4294967296) rfl rfl (by omega) (by omega)) (by decide) ?_
          refine wl_idx rfl rfl rfl un_u64 sz_u64 (s + i) rfl (by omega) ⟨g, s + i, none⟩ (arr_at _ _) (by decide) ?_
          have hb13 := hb
          refine wl_stored1 rfl rfl rfl sz_u64 rfl hb13 (len_map (by rw [hl]; omega)) rfl ((l'.set (s + i) (((l'.getD (s + i) 0) + 4294967296) - (c % 4294967296))).map W64) (map_W64_set _ _ _) fun v12 hb14 u15 hs16 => ?_
          refine wl_nil ?_
          refine eo_then ?_
          refine cw_region ?_
          refine wl_move rfl rfl (by decide) ?_
          refine wl_ar rfl rfl rfl (((c / 4294967296) + 1 : Nat) : Int) (au_add (a := c / 4294967296) (b := 1) rfl rfl (by omega)) (by decide) ?_
          refine wl_assign rfl rfl (by decide) ?_
          refine wl_nil ?_
          refine eo_block_normal ?_
          refine eo_then ?_
          refine cw_region ?_
          refine wl_move rfl rfl (by decide) ?_
          refine wl_ar rfl rfl rfl ((i + 1 : Nat) : Int) (ai_add (a := i) (b := 1) rfl rfl (by omega)) (by decide) ?_
          refine wl_assign rfl rfl (by decide) ?_
          refine wl_nil ?_
          refine eo_round (⟨v12, i + 1, _, _⟩ : World × Nat × Nat × List Nat) ⟨hu.trans u15, (by omega), (by omega), hb14, (len_set (l := l') (hl)), Wfb_set hwf _ (by omega), takeOff_step hv (by omega) rfl (T := c) (e := 0) (by simp) (takeOff_more (by omega)) (by omega), (Rd.updL rl1 u15 hne)⟩ (show N - (s + (i + 1)) < N - (s + i) by omega) rfl ⟨rfl, rfl, rfl, rfl, rfl, rfl, trivial⟩
        ·
          refine cw_region ?_
          refine wl_move rfl rfl (by decide) ?_
          refine wl_move rfl rfl (by decide) ?_
          refine wl_move rfl rfl (by decide) ?_
          refine wl_ar rfl rfl rfl ((s + i : Nat) : Int) (ai_add (a := s) (b := i) rfl rfl (by omega)) (by decide) ?_
          refine wl_idx rfl rfl rfl un_u64 sz_u64 (s + i) rfl (by omega) ⟨g, s + i, none⟩ (arr_at _ _) (by decide) ?_
          refine wl_load rfl rfl (load_word ag_u64 hb (by rw [hl]; omega)) (by decide) ?_
          refine wl_move rfl rfl (by decide) ?_
          refine wl_cmp rfl rfl rfl false (cb_lt_f (a := l'.getD (s + i) 0) (b := c % 4294967296) rfl rfl (by omega)) (by decide) ?_
          refine wl_nil ?_
          refine eo_then ?_
          refine cw_false rfl ?_
          refine cw_region ?_
          refine wl_move rfl rfl (by decide) ?_
          refine wl_move rfl rfl (by decide) ?_
          refine wl_move rfl rfl (by decide) ?_
          refine wl_ar rfl rfl rfl ((s + i : Nat) : Int) (ai_add (a := s) (b := i) rfl rfl (by omega)) (by decide) ?_
          refine wl_move rfl rfl (by decide) ?_
          refine wl_move rfl rfl (by decide) ?_
          refine wl_move rfl rfl (by decide) ?_
          refine wl_ar rfl rfl rfl ((s + i : Nat) : Int) (ai_add (a := s) (b := i) rfl rfl (by omega)) (by decide) ?_
          refine wl_idx rfl rfl rfl un_u64 sz_u64 (s + i) rfl (by omega) ⟨g, s + i, none⟩ (arr_at _ _) (by decide) ?_
          refine wl_load rfl rfl (load_word ag_u64 hb (by rw [hl]; omega)) (by decide) ?_
          refine wl_move rfl rfl (by decide) ?_
          refine wl_ar rfl rfl rfl (((l'.getD (s + i) 0) - (c % 4294967296) : Nat) : Int) (au_sub (a := l'.getD (s + i) 0) (b := c % 4294967296) rfl rfl (by omega) (by omega)) (by decide) ?_
          refine wl_idx rfl rfl rfl un_u64 sz_u64 (s + i) rfl (by omega) ⟨g, s + i, none⟩ (arr_at _ _) (by decide) ?_
          have hb18 := hb
          refine wl_stored1 rfl rfl rfl sz_u64 rfl hb18 (len_map (by rw [hl]; omega)) rfl ((l'.set (s + i) ((l'.getD (s + i) 0) - (c % 4294967296))).map W64) (map_W64_set _ _ _) fun v17 hb19 u20 hs21 => ?_
          refine wl_nil ?_
          refine eo_block_normal ?_
          refine eo_then ?_
          refine cw_region ?_
          refine wl_move rfl rfl (by decide) ?_
          refine wl_ar rfl rfl rfl ((i + 1 : Nat) : Int) (ai_add (a := i) (b := 1) rfl rfl (by omega)) (by decide) ?_
          refine wl_assign rfl rfl (by decide) ?_
          refine wl_nil ?_
          refine eo_round (⟨v17, i + 1, _, _⟩ : World × Nat × Nat × List Nat) ⟨hu.trans u20, (by omega), (by omega), hb19, (len_set (l := l') (hl)), Wfb_set hwf _ (by omega), takeOff_step hv (by omega) rfl (T := c) (e := 0) (by simp) (takeOff_more (by omega)) (by omega), (Rd.updL rl1 u20 hne)⟩ (show N - (s + (i + 1)) < N - (s + i) by omega) rfl ⟨rfl, rfl, rfl, rfl, rfl, rfl, trivial⟩
      ·
        refine cw_region ?_
        refine wl_move rfl rfl (by decide) ?_
        refine wl_move rfl rfl (by decide) ?_
        refine wl_ar rfl rfl rfl ((s + i : Nat) : Int) (ai_add (a := s) (b := i) rfl rfl (by omega)) (by decide) ?_
        refine wl_move rfl rfl (by decide) ?_
        refine wl_pure rfl rfl (v := .int .i64 ((N : Nat) : Int)) (by decide) (by kernel_rfl) ?_
        refine wl_cmp rfl rfl rfl true (cb_lt_t (a := s + i) (b := N) rfl rfl (by omega)) (by decide) ?_
        refine wl_move rfl rfl (by decide) ?_
        refine wl_move rfl rfl (by decide) ?_
        refine wl_move rfl rfl (by decide) ?_
        refine wl_pure rfl rfl (v := .int .i64 ((m : Nat) : Int)) (by decide) (by kernel_rfl) ?_
        refine wl_cmp rfl rfl rfl false (cb_lt_f (a := i) (b := m) rfl rfl (by omega)) (by decide) ?_
        refine wl_move rfl rfl (by decide) ?_
        refine wl_move rfl rfl (by decide) ?_
        refine wl_cmp rfl rfl rfl false (cb_gt_f (a := c) (b := 0) rfl rfl (by omega)) (by decide) ?_
        refine wl_pure rfl rfl (v := .bool false) (by decide) (by kernel_rfl) ?_
        refine wl_pure rfl rfl (v := .bool false) (by decide) (by kernel_rfl) ?_
        refine wl_nil ?_
        refine eo_then ?_
        refine cw_false rfl ?_
        refine cw_exit ?_
        refine eo_thenX ?_
        refine eo_loopX ?_
        refine eo_block_here ?_
        refine eo_end [] rfl trivial ?_
        exact ⟨rfl, hu, l', hb, hl, hwf, takeOff_done hwf hl hle hs hi hq hv (Or.inr ⟨by omega, by omega⟩)⟩
  ·
    refine cw_region ?_
    refine wl_move rfl rfl (by decide) ?_
    refine wl_move rfl rfl (by decide) ?_
    refine wl_ar rfl rfl rfl ((s + i : Nat) : Int) (ai_add (a := s) (b := i) rfl rfl (by omega)) (by decide) ?_
    refine wl_move rfl rfl (by decide) ?_
    refine wl_pure rfl rfl (v := .int .i64 ((N : Nat) : Int)) (by decide) (by kernel_rfl) ?_
    refine wl_cmp rfl rfl rfl false (cb_lt_f (a := s + i) (b := N) rfl rfl (by omega)) (by decide) ?_
    refine wl_move rfl rfl (by decide) ?_
    refine wl_off rfl (by decide) ?_
    refine wl_off rfl (by decide) ?_
    refine wl_off rfl (by decide) ?_
    refine wl_off rfl (by decide) ?_
    refine wl_off rfl (by decide) ?_
    refine wl_off rfl (by decide) ?_
    refine wl_off rfl (by decide) ?_
    refine wl_off rfl (by decide) ?_
    refine wl_pure rfl rfl (v := .bool false) (by decide) (by kernel_rfl) ?_
    refine wl_nil ?_
    refine eo_then ?_
    refine cw_false rfl ?_
    refine cw_exit ?_
    refine eo_thenX ?_
    refine eo_loopX ?_
    refine eo_block_here ?_
    refine eo_end [] rfl trivial ?_
    exact ⟨rfl, hu, l', hb, hl, hwf, takeOff_done hwf hl hle hs hi hq hv (Or.inl (by omega))⟩
theorem drop_getD3 {xs : List Nat} {k : Nat} (h : k < xs.length) (b : Nat) : nb b (xs.drop k) = xs.getD k 0 + b * nb b (xs.drop (k + 1)) := by
  rw [List.drop_eq_getElem_cons h, nb_cons, List.getD_eq_getElem?_getD, List.getElem?_eq_getElem h]; rfl
section
set_option linter.unusedSectionVars false
variable {xs es : List Nat} {n m s : Nat} (hx : xs.length = n) (he : es.length = m) (hs : s + m ≤ n) (hwx : Wfb 4294967296 xs) (hwe : Wfb 4294967296 es)
include hx he hs hwx hwe
theorem goes_start (hbig : nb 4294967296 xs < 4294967296 ^ (s + m + 1)) (h0 : s + m < n → xs.getD (s + m) 0 = 0) : nb 4294967296 (xs.drop (s + m)) = nb 4294967296 (es.drop m) := by
  rw [List.drop_of_length_le (l := es) (by omega), nb_nil]
  by_cases hlt : s + m < n
  · have h1 := nb_split 4294967296 xs (s + m) (by omega)
    have h2 := drop_getD3 (xs := xs) (k := s + m) (by omega) 4294967296
    rw [h0 hlt, Nat.zero_add] at h2
    rw [h2] at h1 ⊢
    refine Nat.mul_eq_zero.2 (Or.inr (Nat.eq_zero_of_not_pos fun hp => ?_))
    rw [Nat.pow_succ, ← Nat.mul_assoc] at *
    have h3 : 4294967296 ^ (s + m) * 4294967296 * 1 ≤ 4294967296 ^ (s + m) * 4294967296 * nb 4294967296 (xs.drop (s + m + 1)) := Nat.mul_le_mul_left _ hp
    omega
  · rw [List.drop_of_length_le (by omega), nb_nil]
theorem goes_top (h0 : s + m < n) (hp : 0 < xs.getD (s + m) 0) : nb 4294967296 es * 4294967296 ^ s ≤ nb 4294967296 xs := by
  have h1 := nb_split 4294967296 xs (s + m) (by omega)
  have h2 := drop_getD3 (xs := xs) (k := s + m) (by omega) 4294967296
  have h3 := nb_lt hwe
  rw [he] at h3
  have h4 : nb 4294967296 es * 4294967296 ^ s ≤ 4294967296 ^ m * 4294967296 ^ s := Nat.mul_le_mul_right _ (Nat.le_of_lt h3)
  rw [← Nat.pow_add, Nat.add_comm m s] at h4
  have h5 : 4294967296 ^ (s + m) * 1 ≤ 4294967296 ^ (s + m) * nb 4294967296 (xs.drop (s + m)) := Nat.mul_le_mul_left _ (by omega)
  omega
theorem goes_lt {j : Nat} (hj : j < m) (h : nb 4294967296 (xs.drop (s + (j + 1))) = nb 4294967296 (es.drop (j + 1))) (hd : xs.getD (s + j) 0 < es.getD j 0) : ¬ nb 4294967296 es * 4294967296 ^ s ≤ nb 4294967296 xs := by
  have h2 := drop_getD3 (xs := xs) (k := s + j) (by omega) 4294967296
  have h3 := drop_getD3 (xs := es) (k := j) (by omega) 4294967296
  rw [Nat.add_assoc, h] at h2
  have h4 := nb_split 4294967296 xs (s + j) (by omega)
  have h5 := nb_split 4294967296 es j (by omega)
  have h6 := nb_take_lt (by decide) hwx (s + j)
  have h7 : 4294967296 ^ (s + j) * (nb 4294967296 (xs.drop (s + j)) + 1) ≤ 4294967296 ^ (s + j) * nb 4294967296 (es.drop j) := Nat.mul_le_mul_left _ (by omega)
  have h8 : 4294967296 ^ (s + j) * nb 4294967296 (es.drop j) ≤ nb 4294967296 es * 4294967296 ^ s := by
    rw [h5, Nat.add_mul, Nat.pow_add, Nat.mul_assoc, Nat.mul_comm (4294967296 ^ s)]
    exact Nat.le_add_left _ _
  rw [Nat.mul_add] at h7
  omega
theorem goes_gt {j : Nat} (hj : j < m) (h : nb 4294967296 (xs.drop (s + (j + 1))) = nb 4294967296 (es.drop (j + 1))) (hd : xs.getD (s + j) 0 > es.getD j 0) : nb 4294967296 es * 4294967296 ^ s ≤ nb 4294967296 xs := by
  have h2 := drop_getD3 (xs := xs) (k := s + j) (by omega) 4294967296
  have h3 := drop_getD3 (xs := es) (k := j) (by omega) 4294967296
  rw [Nat.add_assoc, h] at h2
  have h4 := nb_split 4294967296 xs (s + j) (by omega)
  have h5 := nb_split 4294967296 es j (by omega)
  have h6 := nb_take_lt (by decide) hwe j
  have h7 : 4294967296 ^ j * (nb 4294967296 (es.drop j) + 1) ≤ 4294967296 ^ j * nb 4294967296 (xs.drop (s + j)) := Nat.mul_le_mul_left _ (by omega)
  rw [Nat.mul_add] at h7
  have h8 : nb 4294967296 es ≤ 4294967296 ^ j * nb 4294967296 (xs.drop (s + j)) := by omega
  have h9 : nb 4294967296 es * 4294967296 ^ s ≤ 4294967296 ^ j * nb 4294967296 (xs.drop (s + j)) * 4294967296 ^ s := Nat.mul_le_mul_right _ h8
  have e : 4294967296 ^ j * nb 4294967296 (xs.drop (s + j)) * 4294967296 ^ s = 4294967296 ^ (s + j) * nb 4294967296 (xs.drop (s + j)) := by
    rw [Nat.pow_add, Nat.mul_right_comm, Nat.mul_comm (4294967296 ^ j)]
  omega
theorem goes_eq (h : nb 4294967296 (xs.drop (s + 0)) = nb 4294967296 (es.drop 0)) : nb 4294967296 es * 4294967296 ^ s ≤ nb 4294967296 xs := by
  have h4 := nb_split 4294967296 xs s (by omega)
  rw [Nat.add_zero, List.drop_zero] at h
  rw [h4, h, Nat.mul_comm]
  exact Nat.le_add_left _ _
theorem goes_step {j : Nat} (hj : j < m) (h : nb 4294967296 (xs.drop (s + (j + 1))) = nb 4294967296 (es.drop (j + 1))) (hd : xs.getD (s + j) 0 = es.getD j 0) : nb 4294967296 (xs.drop (s + j)) = nb 4294967296 (es.drop j) := by
  rw [drop_getD3 (xs := xs) (k := s + j) (by omega), drop_getD3 (xs := es) (k := j) (by omega), Nat.add_assoc, h, hd]
end
set_option maxHeartbeats 4000000 in
theorem ref3_goes {w : World} {A D : Option Addr} {n cap m cd s : Nat} {xs es : List Nat} (hx : Rd w A n cap xs) (hln : n ≤ 1099511627776) (hy : Rd w D m cd es) (hwx : Wfb 4294967296 xs) (hwe : Wfb 4294967296 es) (hs : s + m ≤ n) (hbig : nb 4294967296 xs < 4294967296 ^ (s + m + 1)) :
    Calls Try.prog 101 #[.slice A n cap, .slice D m cd, .int .i64 ((s : Nat) : Int)] w (Gv w (Is (.bool (decide (nb 4294967296 es * 4294967296 ^ s ≤ nb 4294967296 xs))))) := by
  have hlen := hx.len
  have hle := hx.rv.le
  have hle2 := hy.len
  refine sx_enter Try.func101 rfl (n := 53) rfl (Nat.le_of_ble_eq_true rfl) (args := [.slice A n cap, .slice D m cd, .int .i64 ((s : Nat) : Int)]) ?_
  refine cw_keep [(0, .slice A n cap), (1, .slice D m cd), (2, .int .i64 ((s : Nat) : Int))] ⟨rfl, rfl, rfl, trivial⟩ ?_
  refine cw_seq ?_
  refine cw_region ?_
  refine wl_assign rfl rfl (by decide) ?_
  refine wl_nil ?_
  refine eo_then ?_
  refine cw_seq ?_
  refine cw_region ?_
  refine wl_move rfl rfl (by decide) ?_
  refine wl_move rfl rfl (by decide) ?_
  refine wl_pure rfl rfl (v := .int .i64 ((m : Nat) : Int)) (by decide) (by kernel_rfl) ?_
  refine wl_ar rfl rfl rfl ((s + m : Nat) : Int) (ai_add (a := s) (b := m) rfl rfl (by omega)) (by decide) ?_
  refine wl_assign rfl rfl (by decide) ?_
  refine wl_nil ?_
  refine eo_then ?_
  refine cw_seq ?_
  refine cw_seq ?_
  by_cases htop : s + m < n
  ·
    by_cases hpos : xs.getD (s + m) 0 > 0
    ·
      refine cw_region ?_
      refine wl_move rfl rfl (by decide) ?_
      refine wl_move rfl rfl (by decide) ?_
      refine wl_pure rfl rfl (v := .int .i64 ((n : Nat) : Int)) (by decide) (by kernel_rfl) ?_
      refine wl_cmp rfl rfl rfl true (cb_lt_t (a := s + m) (b := n) rfl rfl (by omega)) (by decide) ?_
      refine wl_move rfl rfl (by decide) ?_
      refine wl_move rfl rfl (by decide) ?_
      refine wl_move rfl rfl (by decide) ?_
      obtain ⟨p1, hp1, hc1, hv1⟩ := (hx).at (i := s + m) (by omega)
      refine wl_idx rfl rfl rfl un_u64 sz_u64 (s + m) rfl (by omega) p1 hp1 (by decide) ?_
      refine wl_load rfl rfl (load_cell1 ag_u64 hc1) (by decide) ?_
      refine wl_cmp rfl rfl rfl true (cb_gt_t (a := xs.getD (s + m) 0) (b := 0) rfl rfl (by omega)) (by decide) ?_
      refine wl_pure rfl rfl (v := .bool true) (by decide) (by kernel_rfl) ?_
      refine wl_nil ?_
      refine eo_then ?_
      refine cw_true rfl ?_
      refine cw_seq ?_
      refine cw_region ?_
      refine wl_assign rfl rfl (by decide) ?_
      refine wl_nil ?_
      refine eo_then ?_
      refine cw_ret ?_
      refine eo_thenR ?_
      refine eo_ret [.bool true] rfl ⟨rfl, trivial⟩ ?_
      exact ⟨_, rfl, (show Value.bool true = _ by rw [decide_eq_true (goes_top hlen hle2 hs hwx hwe htop hpos)]), (Ext.refl w)⟩
    ·
      have hst := goes_start hlen hle2 hs hwx hwe hbig (fun _ => by omega)
      refine cw_region ?_
      refine wl_move rfl rfl (by decide) ?_
      refine wl_move rfl rfl (by decide) ?_
      refine wl_pure rfl rfl (v := .int .i64 ((n : Nat) : Int)) (by decide) (by kernel_rfl) ?_
      refine wl_cmp rfl rfl rfl true (cb_lt_t (a := s + m) (b := n) rfl rfl (by omega)) (by decide) ?_
      refine wl_move rfl rfl (by decide) ?_
      refine wl_move rfl rfl (by decide) ?_
      refine wl_move rfl rfl (by decide) ?_
      obtain ⟨p2, hp2, hc2, hv2⟩ := (hx).at (i := s + m) (by omega)
      refine wl_idx rfl rfl rfl un_u64 sz_u64 (s + m) rfl (by omega) p2 hp2 (by decide) ?_
      refine wl_load rfl rfl (load_cell1 ag_u64 hc2) (by decide) ?_
      refine wl_cmp rfl rfl rfl false (cb_gt_f (a := xs.getD (s + m) 0) (b := 0) rfl rfl (by omega)) (by decide) ?_
      refine wl_pure rfl rfl (v := .bool false) (by decide) (by kernel_rfl) ?_
      refine wl_nil ?_
      refine eo_then ?_
      refine cw_false rfl ?_
      refine cw_skip ?_
      refine eo_then ?_
      refine cw_seq ?_
      refine cw_seq ?_
      refine cw_region ?_
      refine wl_move rfl rfl (by decide) ?_
      refine wl_pure rfl rfl (v := .int .i64 ((m : Nat) : Int)) (by decide) (by kernel_rfl) ?_
      refine wl_ar rfl rfl rfl (((m : Nat) : Int) - 1) (ar_i64s rfl (by omega) (by omega)) (by decide) ?_
      refine wl_assign rfl rfl (by decide) ?_
      refine wl_nil ?_
      refine eo_then ?_
      refine cw_block ?_
      refine cw_loop (T := World × Nat × Int)
        (fun ⟨wr, k, ii⟩ => [(0, .slice A n cap), (1, .slice D m cd), (2, .int .i64 ((s : Nat) : Int)), (8, .int .i64 ii)])
        (fun ⟨wr, k, ii⟩ => wr)
        (fun ⟨wr, k, ii⟩ => (Ext w wr) ∧ (k ≤ m) ∧ (ii = (k : Int) - 1) ∧ (nb 4294967296 (xs.drop (s + k)) = nb 4294967296 (es.drop k)) ∧ (Rd wr A n cap xs) ∧ (Rd wr D m cd es))
        (fun ⟨wr, k, ii⟩ => k)
        (⟨w, m, _⟩ : World × Nat × Int) ⟨(Ext.refl w), Nat.le_refl _, rfl, hst, hx, hy⟩ rfl ⟨rfl, rfl, rfl, rfl, trivial⟩ ?_
      rintro ⟨wr, k, ii⟩ ⟨hw1, hk, hii, hv, rl0, rl1⟩
      refine cw_re [(0, .slice A n cap), (1, .slice D m cd), (2, .int .i64 ((s : Nat) : Int)), (8, .int .i64 ii)] wr rfl ⟨rfl, rfl, rfl, rfl, trivial⟩ ?_
      refine cw_seq ?_
      refine cw_seq ?_
      by_cases hkp : 0 < k
      ·
        obtain ⟨j, rfl⟩ : ∃ j, k = j + 1 := ⟨k - 1, by omega⟩
        obtain rfl : ii = (j : Int) := by omega
        refine cw_region ?_
        refine wl_move rfl rfl (by decide) ?_
        refine wl_cmp rfl rfl rfl true (cb_ge_t (a := j) (b := 0) rfl rfl (by omega)) (by decide) ?_
        refine wl_nil ?_
        refine eo_then ?_
        refine cw_true rfl ?_
        refine cw_skip ?_
        refine eo_then ?_
        refine cw_seq ?_
        refine cw_block ?_
        refine cw_seq ?_
        by_cases hne : xs.getD (s + j) 0 ≠ es.getD j 0
        ·
          refine cw_keep [(0, .slice A n cap), (1, .slice D m cd), (2, .int .i64 ((s : Nat) : Int)), (8, .int .i64 ((j : Nat) : Int)), (27, .int .i64 ((j : Nat) : Int)), (28, .bool true)] ⟨rfl, rfl, rfl, rfl, rfl, rfl, trivial⟩ ?_
          obtain ⟨v3, hv, e4⟩ : ∃ v, v = wr.drew ∧ Ext wr v := ⟨_, rfl, (Ext.refl _).drew⟩
          have hw2 : Ext w v3 := hw1.trans e4
          obtain ⟨p5, hp5, hc5, hv5⟩ := ((rl0.ext e4)).at (i := s + j) (by omega)
          obtain ⟨p6, hp6, hc6, hv6⟩ := ((rl1.ext e4)).at (i := j) (by omega)
          refine cw_det mix (w := v3) [.slice A n cap, .int .i64 ((s : Nat) : Int), .int .i64 ((j : Nat) : Int), .int .i64 ((s + j : Nat) : Int), .pointer (some p5), .int .u64 ((xs.getD (s + j) 0 : Nat) : Int), .slice D m cd, .int .i64 ((j : Nat) : Int), .pointer (some p6), .int .u64 ((es.getD j 0 : Nat) : Int), .bool true] [v3] [] [[], [], [], [1, 2], [0, 3], [4], [], [], [6, 7], [8], [5, 9]] [[], [], [], [1, 2], [0, 1, 2, 3], [0, 1, 2, 3, 4], [], [], [6, 7], [6, 7, 8], [0, 1, 2, 3, 4, 5, 6, 7, 8, 9]] [(0, 0), (1, 0), (2, 0), (3, 0), (4, 0), (5, 0), (6, 0), (7, 0), (8, 0), (9, 0), (10, 0)] rfl hv ?_ ?_
          ·
            refine dobs_val ([(0, .slice A n cap), (1, .slice D m cd), (2, .int .i64 ((s : Nat) : Int)), (8, .int .i64 ((j : Nat) : Int)), (27, .int .i64 ((j : Nat) : Int)), (28, .bool true)]) rfl rfl rfl rfl rfl (rd_move rfl) ?_
            refine dobs_val ([(0, .slice A n cap), (1, .slice D m cd), (2, .int .i64 ((s : Nat) : Int)), (8, .int .i64 ((j : Nat) : Int)), (27, .int .i64 ((j : Nat) : Int)), (28, .bool true)]) rfl rfl rfl rfl rfl (rd_move rfl) ?_
            refine dobs_val ([(0, .slice A n cap), (1, .slice D m cd), (2, .int .i64 ((s : Nat) : Int)), (8, .int .i64 ((j : Nat) : Int)), (27, .int .i64 ((j : Nat) : Int)), (28, .bool true)]) rfl rfl rfl rfl rfl (rd_move rfl) ?_
            refine dobs_val ((32, .int .i64 ((s : Nat) : Int)) :: (33, .int .i64 ((j : Nat) : Int)) :: [(0, .slice A n cap), (1, .slice D m cd), (2, .int .i64 ((s : Nat) : Int)), (8, .int .i64 ((j : Nat) : Int)), (27, .int .i64 ((j : Nat) : Int)), (28, .bool true)]) rfl rfl rfl rfl rfl (rd_ar rfl rfl ((s + j : Nat) : Int) (ai_add (a := s) (b := j) rfl rfl (by omega))) ?_
            refine dobs_val ((31, .slice A n cap) :: (34, .int .i64 ((s + j : Nat) : Int)) :: [(0, .slice A n cap), (1, .slice D m cd), (2, .int .i64 ((s : Nat) : Int)), (8, .int .i64 ((j : Nat) : Int)), (27, .int .i64 ((j : Nat) : Int)), (28, .bool true)]) rfl rfl rfl rfl rfl (rd_idx rfl rfl un_u64 sz_u64 (s + j) rfl (by omega) p5 hp5) ?_
            refine dobs_val ((35, .pointer (some p5)) :: [(0, .slice A n cap), (1, .slice D m cd), (2, .int .i64 ((s : Nat) : Int)), (8, .int .i64 ((j : Nat) : Int)), (27, .int .i64 ((j : Nat) : Int)), (28, .bool true)]) rfl rfl rfl rfl rfl (rd_load rfl (load_cell1 ag_u64 hc5)) ?_
            refine dobs_val ([(0, .slice A n cap), (1, .slice D m cd), (2, .int .i64 ((s : Nat) : Int)), (8, .int .i64 ((j : Nat) : Int)), (27, .int .i64 ((j : Nat) : Int)), (28, .bool true)]) rfl rfl rfl rfl rfl (rd_move rfl) ?_
            refine dobs_val ([(0, .slice A n cap), (1, .slice D m cd), (2, .int .i64 ((s : Nat) : Int)), (8, .int .i64 ((j : Nat) : Int)), (27, .int .i64 ((j : Nat) : Int)), (28, .bool true)]) rfl rfl rfl rfl rfl (rd_move rfl) ?_
            refine dobs_val ((37, .slice D m cd) :: (38, .int .i64 ((j : Nat) : Int)) :: [(0, .slice A n cap), (1, .slice D m cd), (2, .int .i64 ((s : Nat) : Int)), (8, .int .i64 ((j : Nat) : Int)), (27, .int .i64 ((j : Nat) : Int)), (28, .bool true)]) rfl rfl rfl rfl rfl (rd_idx rfl rfl un_u64 sz_u64 j rfl (by omega) p6 hp6) ?_
            refine dobs_val ((39, .pointer (some p6)) :: [(0, .slice A n cap), (1, .slice D m cd), (2, .int .i64 ((s : Nat) : Int)), (8, .int .i64 ((j : Nat) : Int)), (27, .int .i64 ((j : Nat) : Int)), (28, .bool true)]) rfl rfl rfl rfl rfl (rd_load rfl (load_cell1 ag_u64 hc6)) ?_
            refine dobs_val ((36, .int .u64 ((xs.getD (s + j) 0 : Nat) : Int)) :: (40, .int .u64 ((es.getD j 0 : Nat) : Int)) :: [(0, .slice A n cap), (1, .slice D m cd), (2, .int .i64 ((s : Nat) : Int)), (8, .int .i64 ((j : Nat) : Int)), (27, .int .i64 ((j : Nat) : Int)), (28, .bool true)]) rfl rfl rfl rfl rfl (rd_cmp rfl rfl true (cb_ne_t (a := xs.getD (s + j) 0) (b := es.getD j 0) rfl rfl (by omega))) ?_
            exact dobs_nil
          clear hv
          refine eo_keep [(0, .slice A n cap), (1, .slice D m cd), (2, .int .i64 ((s : Nat) : Int)), (8, .int .i64 ((j : Nat) : Int)), (27, .int .i64 ((j : Nat) : Int)), (28, .bool true), (31, .slice A n cap), (32, .int .i64 ((s : Nat) : Int)), (33, .int .i64 ((j : Nat) : Int)), (34, .int .i64 ((s + j : Nat) : Int)), (35, .pointer (some p5)), (36, .int .u64 ((xs.getD (s + j) 0 : Nat) : Int)), (37, .slice D m cd), (38, .int .i64 ((j : Nat) : Int)), (39, .pointer (some p6)), (40, .int .u64 ((es.getD j 0 : Nat) : Int)), (41, .bool true)] ⟨rfl, rfl, rfl, rfl, rfl, rfl, rfl, rfl, rfl, rfl, rfl, rfl, rfl, rfl, rfl, rfl, rfl, trivial⟩ ?_
          refine eo_then ?_
          refine cw_true rfl ?_
          refine cw_seq ?_
          by_cases hgt : xs.getD (s + j) 0 > es.getD j 0
          ·
            refine cw_keep [(0, .slice A n cap), (1, .slice D m cd), (2, .int .i64 ((s : Nat) : Int)), (8, .int .i64 ((j : Nat) : Int)), (27, .int .i64 ((j : Nat) : Int)), (28, .bool true), (31, .slice A n cap), (32, .int .i64 ((s : Nat) : Int)), (33, .int .i64 ((j : Nat) : Int)), (34, .int .i64 ((s + j : Nat) : Int)), (35, .pointer (some p5)), (36, .int .u64 ((xs.getD (s + j) 0 : Nat) : Int)), (37, .slice D m cd), (38, .int .i64 ((j : Nat) : Int)), (39, .pointer (some p6)), (40, .int .u64 ((es.getD j 0 : Nat) : Int)), (41, .bool true)] ⟨rfl, rfl, rfl, rfl, rfl, rfl, rfl, rfl, rfl, rfl, rfl, rfl, rfl, rfl, rfl, rfl, rfl, trivial⟩ ?_
            obtain ⟨v7, hv, e8⟩ : ∃ v, v = v3.drew ∧ Ext v3 v := ⟨_, rfl, (Ext.refl _).drew⟩
            have hw3 : Ext w v7 := hw2.trans e8
            refine cw_det mix (w := v7) [.slice A n cap, .int .i64 ((s : Nat) : Int), .int .i64 ((j : Nat) : Int), .int .i64 ((s + j : Nat) : Int), .pointer (some p5), .int .u64 ((xs.getD (s + j) 0 : Nat) : Int), .slice D m cd, .int .i64 ((j : Nat) : Int), .pointer (some p6), .int .u64 ((es.getD j 0 : Nat) : Int), .bool true, .bool true] [v7] [] [[], [], [], [1, 2], [0, 3], [4], [], [], [6, 7], [8], [5, 9], [10]] [[], [], [], [1, 2], [0, 1, 2, 3], [0, 1, 2, 3, 4], [], [], [6, 7], [6, 7, 8], [0, 1, 2, 3, 4, 5, 6, 7, 8, 9], [0, 1, 2, 3, 4, 5, 6, 7, 8, 9, 10]] [(0, 0), (1, 0), (2, 0), (3, 0), (4, 0), (5, 0), (6, 0), (7, 0), (8, 0), (9, 0), (10, 0), (11, 0)] rfl hv ?_ ?_
            ·
              refine dobs_val ([(0, .slice A n cap), (1, .slice D m cd), (2, .int .i64 ((s : Nat) : Int)), (8, .int .i64 ((j : Nat) : Int)), (27, .int .i64 ((j : Nat) : Int)), (28, .bool true), (31, .slice A n cap), (32, .int .i64 ((s : Nat) : Int)), (33, .int .i64 ((j : Nat) : Int)), (34, .int .i64 ((s + j : Nat) : Int)), (35, .pointer (some p5)), (36, .int .u64 ((xs.getD (s + j) 0 : Nat) : Int)), (37, .slice D m cd), (38, .int .i64 ((j : Nat) : Int)), (39, .pointer (some p6)), (40, .int .u64 ((es.getD j 0 : Nat) : Int)), (41, .bool true)]) rfl rfl rfl rfl rfl (rd_move rfl) ?_
              refine dobs_val ([(0, .slice A n cap), (1, .slice D m cd), (2, .int .i64 ((s : Nat) : Int)), (8, .int .i64 ((j : Nat) : Int)), (27, .int .i64 ((j : Nat) : Int)), (28, .bool true), (31, .slice A n cap), (32, .int .i64 ((s : Nat) : Int)), (33, .int .i64 ((j : Nat) : Int)), (34, .int .i64 ((s + j : Nat) : Int)), (35, .pointer (some p5)), (36, .int .u64 ((xs.getD (s + j) 0 : Nat) : Int)), (37, .slice D m cd), (38, .int .i64 ((j : Nat) : Int)), (39, .pointer (some p6)), (40, .int .u64 ((es.getD j 0 : Nat) : Int)), (41, .bool true)]) rfl rfl rfl rfl rfl (rd_move rfl) ?_
              refine dobs_val ([(0, .slice A n cap), (1, .slice D m cd), (2, .int .i64 ((s : Nat) : Int)), (8, .int .i64 ((j : Nat) : Int)), (27, .int .i64 ((j : Nat) : Int)), (28, .bool true), (31, .slice A n cap), (32, .int .i64 ((s : Nat) : Int)), (33, .int .i64 ((j : Nat) : Int)), (34, .int .i64 ((s + j : Nat) : Int)), (35, .pointer (some p5)), (36, .int .u64 ((xs.getD (s + j) 0 : Nat) : Int)), (37, .slice D m cd), (38, .int .i64 ((j : Nat) : Int)), (39, .pointer (some p6)), (40, .int .u64 ((es.getD j 0 : Nat) : Int)), (41, .bool true)]) rfl rfl rfl rfl rfl (rd_move rfl) ?_
              refine dobs_val ((43, .int .i64 ((s : Nat) : Int)) :: (44, .int .i64 ((j : Nat) : Int)) :: [(0, .slice A n cap), (1, .slice D m cd), (2, .int .i64 ((s : Nat) : Int)), (8, .int .i64 ((j : Nat) : Int)), (27, .int .i64 ((j : Nat) : Int)), (28, .bool true), (31, .slice A n cap), (32, .int .i64 ((s : Nat) : Int)), (33, .int .i64 ((j : Nat) : Int)), (34, .int .i64 ((s + j : Nat) : Int)), (35, .pointer (some p5)), (36, .int .u64 ((xs.getD (s + j) 0 : Nat) : Int)), (37, .slice D m cd), (38, .int .i64 ((j : Nat) : Int)), (39, .pointer (some p6)), (40, .int .u64 ((es.getD j 0 : Nat) : Int)), (41, .bool true)]) rfl rfl rfl rfl rfl (rd_ar rfl rfl ((s + j : Nat) : Int) (ai_add (a := s) (b := j) rfl rfl (by omega))) ?_
              refine dobs_val ((42, .slice A n cap) :: (45, .int .i64 ((s + j : Nat) : Int)) :: [(0, .slice A n cap), (1, .slice D m cd), (2, .int .i64 ((s : Nat) : Int)), (8, .int .i64 ((j : Nat) : Int)), (27, .int .i64 ((j : Nat) : Int)), (28, .bool true), (31, .slice A n cap), (32, .int .i64 ((s : Nat) : Int)), (33, .int .i64 ((j : Nat) : Int)), (34, .int .i64 ((s + j : Nat) : Int)), (35, .pointer (some p5)), (36, .int .u64 ((xs.getD (s + j) 0 : Nat) : Int)), (37, .slice D m cd), (38, .int .i64 ((j : Nat) : Int)), (39, .pointer (some p6)), (40, .int .u64 ((es.getD j 0 : Nat) : Int)), (41, .bool true)]) rfl rfl rfl rfl rfl (rd_idx rfl rfl un_u64 sz_u64 (s + j) rfl (by omega) p5 hp5) ?_
              refine dobs_val ((46, .pointer (some p5)) :: [(0, .slice A n cap), (1, .slice D m cd), (2, .int .i64 ((s : Nat) : Int)), (8, .int .i64 ((j : Nat) : Int)), (27, .int .i64 ((j : Nat) : Int)), (28, .bool true), (31, .slice A n cap), (32, .int .i64 ((s : Nat) : Int)), (33, .int .i64 ((j : Nat) : Int)), (34, .int .i64 ((s + j : Nat) : Int)), (35, .pointer (some p5)), (36, .int .u64 ((xs.getD (s + j) 0 : Nat) : Int)), (37, .slice D m cd), (38, .int .i64 ((j : Nat) : Int)), (39, .pointer (some p6)), (40, .int .u64 ((es.getD j 0 : Nat) : Int)), (41, .bool true)]) rfl rfl rfl rfl rfl (rd_load rfl (load_cell1 ag_u64 (e8.cell hc5))) ?_
              refine dobs_val ([(0, .slice A n cap), (1, .slice D m cd), (2, .int .i64 ((s : Nat) : Int)), (8, .int .i64 ((j : Nat) : Int)), (27, .int .i64 ((j : Nat) : Int)), (28, .bool true), (31, .slice A n cap), (32, .int .i64 ((s : Nat) : Int)), (33, .int .i64 ((j : Nat) : Int)), (34, .int .i64 ((s + j : Nat) : Int)), (35, .pointer (some p5)), (36, .int .u64 ((xs.getD (s + j) 0 : Nat) : Int)), (37, .slice D m cd), (38, .int .i64 ((j : Nat) : Int)), (39, .pointer (some p6)), (40, .int .u64 ((es.getD j 0 : Nat) : Int)), (41, .bool true)]) rfl rfl rfl rfl rfl (rd_move rfl) ?_
              refine dobs_val ([(0, .slice A n cap), (1, .slice D m cd), (2, .int .i64 ((s : Nat) : Int)), (8, .int .i64 ((j : Nat) : Int)), (27, .int .i64 ((j : Nat) : Int)), (28, .bool true), (31, .slice A n cap), (32, .int .i64 ((s : Nat) : Int)), (33, .int .i64 ((j : Nat) : Int)), (34, .int .i64 ((s + j : Nat) : Int)), (35, .pointer (some p5)), (36, .int .u64 ((xs.getD (s + j) 0 : Nat) : Int)), (37, .slice D m cd), (38, .int .i64 ((j : Nat) : Int)), (39, .pointer (some p6)), (40, .int .u64 ((es.getD j 0 : Nat) : Int)), (41, .bool true)]) rfl rfl rfl rfl rfl (rd_move rfl) ?_
              refine dobs_val ((48, .slice D m cd) :: (49, .int .i64 ((j : Nat) : Int)) :: [(0, .slice A n cap), (1, .slice D m cd), (2, .int .i64 ((s : Nat) : Int)), (8, .int .i64 ((j : Nat) : Int)), (27, .int .i64 ((j : Nat) : Int)), (28, .bool true), (31, .slice A n cap), (32, .int .i64 ((s : Nat) : Int)), (33, .int .i64 ((j : Nat) : Int)), (34, .int .i64 ((s + j : Nat) : Int)), (35, .pointer (some p5)), (36, .int .u64 ((xs.getD (s + j) 0 : Nat) : Int)), (37, .slice D m cd), (38, .int .i64 ((j : Nat) : Int)), (39, .pointer (some p6)), (40, .int .u64 ((es.getD j 0 : Nat) : Int)), (41, .bool true)]) rfl rfl rfl rfl rfl (rd_idx rfl rfl un_u64 sz_u64 j rfl (by omega) p6 hp6) ?_
              refine dobs_val ((50, .pointer (some p6)) :: [(0, .slice A n cap), (1, .slice D m cd), (2, .int .i64 ((s : Nat) : Int)), (8, .int .i64 ((j : Nat) : Int)), (27, .int .i64 ((j : Nat) : Int)), (28, .bool true), (31, .slice A n cap), (32, .int .i64 ((s : Nat) : Int)), (33, .int .i64 ((j : Nat) : Int)), (34, .int .i64 ((s + j : Nat) : Int)), (35, .pointer (some p5)), (36, .int .u64 ((xs.getD (s + j) 0 : Nat) : Int)), (37, .slice D m cd), (38, .int .i64 ((j : Nat) : Int)), (39, .pointer (some p6)), (40, .int .u64 ((es.getD j 0 : Nat) : Int)), (41, .bool true)]) rfl rfl rfl rfl rfl (rd_load rfl (load_cell1 ag_u64 (e8.cell hc6))) ?_
              refine dobs_val ((47, .int .u64 ((xs.getD (s + j) 0 : Nat) : Int)) :: (51, .int .u64 ((es.getD j 0 : Nat) : Int)) :: [(0, .slice A n cap), (1, .slice D m cd), (2, .int .i64 ((s : Nat) : Int)), (8, .int .i64 ((j : Nat) : Int)), (27, .int .i64 ((j : Nat) : Int)), (28, .bool true), (31, .slice A n cap), (32, .int .i64 ((s : Nat) : Int)), (33, .int .i64 ((j : Nat) : Int)), (34, .int .i64 ((s + j : Nat) : Int)), (35, .pointer (some p5)), (36, .int .u64 ((xs.getD (s + j) 0 : Nat) : Int)), (37, .slice D m cd), (38, .int .i64 ((j : Nat) : Int)), (39, .pointer (some p6)), (40, .int .u64 ((es.getD j 0 : Nat) : Int)), (41, .bool true)]) rfl rfl rfl rfl rfl (rd_cmp rfl rfl true (cb_gt_t (a := xs.getD (s + j) 0) (b := es.getD j 0) rfl rfl (by omega))) ?_
              refine dobs_val ((52, .bool true) :: [(0, .slice A n cap), (1, .slice D m cd), (2, .int .i64 ((s : Nat) : Int)), (8, .int .i64 ((j : Nat) : Int)), (27, .int .i64 ((j : Nat) : Int)), (28, .bool true), (31, .slice A n cap), (32, .int .i64 ((s : Nat) : Int)), (33, .int .i64 ((j : Nat) : Int)), (34, .int .i64 ((s + j : Nat) : Int)), (35, .pointer (some p5)), (36, .int .u64 ((xs.getD (s + j) 0 : Nat) : Int)), (37, .slice D m cd), (38, .int .i64 ((j : Nat) : Int)), (39, .pointer (some p6)), (40, .int .u64 ((es.getD j 0 : Nat) : Int)), (41, .bool true)]) rfl rfl rfl rfl rfl (rd_assign rfl) ?_
              exact dobs_nil
            clear hv
            refine eo_keep [(0, .slice A n cap), (1, .slice D m cd), (2, .int .i64 ((s : Nat) : Int)), (8, .int .i64 ((j : Nat) : Int)), (27, .int .i64 ((j : Nat) : Int)), (28, .bool true), (31, .slice A n cap), (32, .int .i64 ((s : Nat) : Int)), (33, .int .i64 ((j : Nat) : Int)), (34, .int .i64 ((s + j : Nat) : Int)), (35, .pointer (some p5)), (36, .int .u64 ((xs.getD (s + j) 0 : Nat) : Int)), (37, .slice D m cd), (38, .int .i64 ((j : Nat) : Int)), (39, .pointer (some p6)), (40, .int .u64 ((es.getD j 0 : Nat) : Int)), (41, .bool true), (42, .slice A n cap), (43, .int .i64 ((s : Nat) : Int)), (44, .int .i64 ((j : Nat) : Int)), (45, .int .i64 ((s + j : Nat) : Int)), (46, .pointer (some p5)), (47, .int .u64 ((xs.getD (s + j) 0 : Nat) : Int)), (48, .slice D m cd), (49, .int .i64 ((j : Nat) : Int)), (50, .pointer (some p6)), (51, .int .u64 ((es.getD j 0 : Nat) : Int)), (52, .bool true), (6, .bool true)] ⟨rfl, rfl, rfl, rfl, rfl, rfl, rfl, rfl, rfl, rfl, rfl, rfl, rfl, rfl, rfl, rfl, rfl, rfl, rfl, rfl, rfl, rfl, rfl, rfl, rfl, rfl, rfl, rfl, rfl, trivial⟩ ?_
            refine eo_then ?_
            refine cw_ret ?_
            refine eo_block_ret ?_
            refine eo_thenR ?_
            refine eo_loopR ?_
            refine eo_block_ret ?_
            refine eo_thenR ?_
            refine eo_ret [.bool true] rfl ⟨rfl, trivial⟩ ?_
            exact ⟨_, rfl, (show Value.bool true = _ by rw [decide_eq_true (goes_gt hlen hle2 hs hwx hwe (by omega) hv hgt)]), hw3⟩
          ·
            refine cw_keep [(0, .slice A n cap), (1, .slice D m cd), (2, .int .i64 ((s : Nat) : Int)), (8, .int .i64 ((j : Nat) : Int)), (27, .int .i64 ((j : Nat) : Int)), (28, .bool true), (31, .slice A n cap), (32, .int .i64 ((s : Nat) : Int)), (33, .int .i64 ((j : Nat) : Int)), (34, .int .i64 ((s + j : Nat) : Int)), (35, .pointer (some p5)), (36, .int .u64 ((xs.getD (s + j) 0 : Nat) : Int)), (37, .slice D m cd), (38, .int .i64 ((j : Nat) : Int)), (39, .pointer (some p6)), (40, .int .u64 ((es.getD j 0 : Nat) : Int)), (41, .bool true)] ⟨rfl, rfl, rfl, rfl, rfl, rfl, rfl, rfl, rfl, rfl, rfl, rfl, rfl, rfl, rfl, rfl, rfl, trivial⟩ ?_
            obtain ⟨v9, hv, e10⟩ : ∃ v, v = v3.drew ∧ Ext v3 v := ⟨_, rfl, (Ext.refl _).drew⟩
            have hw3 : Ext w v9 := hw2.trans e10
            refine cw_det mix (w := v9) [.slice A n cap, .int .i64 ((s : Nat) : Int), .int .i64 ((j : Nat) : Int), .int .i64 ((s + j : Nat) : Int), .pointer (some p5), .int .u64 ((xs.getD (s + j) 0 : Nat) : Int), .slice D m cd, .int .i64 ((j : Nat) : Int), .pointer (some p6), .int .u64 ((es.getD j 0 : Nat) : Int), .bool false, .bool false] [v9] [] [[], [], [], [1, 2], [0, 3], [4], [], [], [6, 7], [8], [5, 9], [10]] [[], [], [], [1, 2], [0, 1, 2, 3], [0, 1, 2, 3, 4], [], [], [6, 7], [6, 7, 8], [0, 1, 2, 3, 4, 5, 6, 7, 8, 9], [0, 1, 2, 3, 4, 5, 6, 7, 8, 9, 10]] [(0, 0), (1, 0), (2, 0), (3, 0), (4, 0), (5, 0), (6, 0), (7, 0), (8, 0), (9, 0), (10, 0), (11, 0)] rfl hv ?_ ?_
            ·
              refine dobs_val ([(0, .slice A n cap), (1, .slice D m cd), (2, .int .i64 ((s : Nat) : Int)), (8, .int .i64 ((j : Nat) : Int)), (27, .int .i64 ((j : Nat) : Int)), (28, .bool true), (31, .slice A n cap), (32, .int .i64 ((s : Nat) : Int)), (33, .int .i64 ((j : Nat) : Int)), (34, .int .i64 ((s + j : Nat) : Int)), (35, .pointer (some p5)), (36, .int .u64 ((xs.getD (s + j) 0 : Nat) : Int)), (37, .slice D m cd), (38, .int .i64 ((j : Nat) : Int)), (39, .pointer (some p6)), (40, .int .u64 ((es.getD j 0 : Nat) : Int)), (41, .bool true)]) rfl rfl rfl rfl rfl (rd_move rfl) ?_
              refine dobs_val ([(0, .slice A n cap), (1, .slice D m cd), (2, .int .i64 ((s : Nat) : Int)), (8, .int .i64 ((j : Nat) : Int)), (27, .int .i64 ((j : Nat) : Int)), (28, .bool true), (31, .slice A n cap), (32, .int .i64 ((s : Nat) : Int)), (33, .int .i64 ((j : Nat) : Int)), (34, .int .i64 ((s + j : Nat) : Int)), (35, .pointer (some p5)), (36, .int .u64 ((xs.getD (s + j) 0 : Nat) : Int)), (37, .slice D m cd), (38, .int .i64 ((j : Nat) : Int)), (39, .pointer (some p6)), (40, .int .u64 ((es.getD j 0 : Nat) : Int)), (41, .bool true)]) rfl rfl rfl rfl rfl (rd_move rfl) ?_
              refine dobs_val ([(0, .slice A n cap), (1, .slice D m cd), (2, .int .i64 ((s : Nat) : Int)), (8, .int .i64 ((j : Nat) : Int)), (27, .int .i64 ((j : Nat) : Int)), (28, .bool true), (31, .slice A n cap), (32, .int .i64 ((s : Nat) : Int)), (33, .int .i64 ((j : Nat) : Int)), (34, .int .i64 ((s + j : Nat) : Int)), (35, .pointer (some p5)), (36, .int .u64 ((xs.getD (s + j) 0 : Nat) : Int)), (37, .slice D m cd), (38, .int .i64 ((j : Nat) : Int)), (39, .pointer (some p6)), (40, .int .u64 ((es.getD j 0 : Nat) : Int)), (41, .bool true)]) rfl rfl rfl rfl rfl (rd_move rfl) ?_
              refine dobs_val ((43, .int .i64 ((s : Nat) : Int)) :: (44, .int .i64 ((j : Nat) : Int)) :: [(0, .slice A n cap), (1, .slice D m cd), (2, .int .i64 ((s : Nat) : Int)), (8, .int .i64 ((j : Nat) : Int)), (27, .int .i64 ((j : Nat) : Int)), (28, .bool true), (31, .slice A n cap), (32, .int .i64 ((s : Nat) : Int)), (33, .int .i64 ((j : Nat) : Int)), (34, .int .i64 ((s + j : Nat) : Int)), (35, .pointer (some p5)), (36, .int .u64 ((xs.getD (s + j) 0 : Nat) : Int)), (37, .slice D m cd), (38, .int .i64 ((j : Nat) : Int)), (39, .pointer (some p6)), (40, .int .u64 ((es.getD j 0 : Nat) : Int)), (41, .bool true)]) rfl rfl rfl rfl rfl (rd_ar rfl rfl ((s + j : Nat) : Int) (ai_add (a := s) (b := j) rfl rfl (by omega))) ?_
              refine dobs_val ((42, .slice A n cap) :: (45, .int .i64 ((s + j : Nat) : Int)) :: [(0, .slice A n cap), (1, .slice D m cd), (2, .int .i64 ((s : Nat) : Int)), (8, .int .i64 ((j : Nat) : Int)), (27, .int .i64 ((j : Nat) : Int)), (28, .bool true), (31, .slice A n cap), (32, .int .i64 ((s : Nat) : Int)), (33, .int .i64 ((j : Nat) : Int)), (34, .int .i64 ((s + j : Nat) : Int)), (35, .pointer (some p5)), (36, .int .u64 ((xs.getD (s + j) 0 : Nat) : Int)), (37, .slice D m cd), (38, .int .i64 ((j : Nat) : Int)), (39, .pointer (some p6)), (40, .int .u64 ((es.getD j 0 : Nat) : Int)), (41, .bool true)]) rfl rfl rfl rfl rfl (rd_idx rfl rfl un_u64 sz_u64 (s + j) rfl (by omega) p5 hp5) ?_
              refine dobs_val ((46, .pointer (some p5)) :: [(0, .slice A n cap), (1, .slice D m cd), (2, .int .i64 ((s : Nat) : Int)), (8, .int .i64 ((j : Nat) : Int)), (27, .int .i64 ((j : Nat) : Int)), (28, .bool true), (31, .slice A n cap), (32, .int .i64 ((s : Nat) : Int)), (33, .int .i64 ((j : Nat) : Int)), (34, .int .i64 ((s + j : Nat) : Int)), (35, .pointer (some p5)), (36, .int .u64 ((xs.getD (s + j) 0 : Nat) : Int)), (37, .slice D m cd), (38, .int .i64 ((j : Nat) : Int)), (39, .pointer (some p6)), (40, .int .u64 ((es.getD j 0 : Nat) : Int)), (41, .bool true)]) rfl rfl rfl rfl rfl (rd_load rfl (load_cell1 ag_u64 (e10.cell hc5))) ?_
              refine dobs_val ([(0, .slice A n cap), (1, .slice D m cd), (2, .int .i64 ((s : Nat) : Int)), (8, .int .i64 ((j : Nat) : Int)), (27, .int .i64 ((j : Nat) : Int)), (28, .bool true), (31, .slice A n cap), (32, .int .i64 ((s : Nat) : Int)), (33, .int .i64 ((j : Nat) : Int)), (34, .int .i64 ((s + j : Nat) : Int)), (35, .pointer (some p5)), (36, .int .u64 ((xs.getD (s + j) 0 : Nat) : Int)), (37, .slice D m cd), (38, .int .i64 ((j : Nat) : Int)), (39, .pointer (some p6)), (40, .int .u64 ((es.getD j 0 : Nat) : Int)), (41, .bool true)]) rfl rfl rfl rfl rfl (rd_move rfl) ?_
              refine dobs_val ([(0, .slice A n cap), (1, .slice D m cd), (2, .int .i64 ((s : Nat) : Int)), (8, .int .i64 ((j : Nat) : Int)), (27, .int .i64 ((j : Nat) : Int)), (28, .bool true), (31, .slice A n cap), (32, .int .i64 ((s : Nat) : Int)), (33, .int .i64 ((j : Nat) : Int)), (34, .int .i64 ((s + j : Nat) : Int)), (35, .pointer (some p5)), (36, .int .u64 ((xs.getD (s + j) 0 : Nat) : Int)), (37, .slice D m cd), (38, .int .i64 ((j : Nat) : Int)), (39, .pointer (some p6)), (40, .int .u64 ((es.getD j 0 : Nat) : Int)), (41, .bool true)]) rfl rfl rfl rfl rfl (rd_move rfl) ?_
              refine dobs_val ((48, .slice D m cd) :: (49, .int .i64 ((j : Nat) : Int)) :: [(0, .slice A n cap), (1, .slice D m cd), (2, .int .i64 ((s : Nat) : Int)), (8, .int .i64 ((j : Nat) : Int)), (27, .int .i64 ((j : Nat) : Int)), (28, .bool true), (31, .slice A n cap), (32, .int .i64 ((s : Nat) : Int)), (33, .int .i64 ((j : Nat) : Int)), (34, .int .i64 ((s + j : Nat) : Int)), (35, .pointer (some p5)), (36, .int .u64 ((xs.getD (s + j) 0 : Nat) : Int)), (37, .slice D m cd), (38, .int .i64 ((j : Nat) : Int)), (39, .pointer (some p6)), (40, .int .u64 ((es.getD j 0 : Nat) : Int)), (41, .bool true)]) rfl rfl rfl rfl rfl (rd_idx rfl rfl un_u64 sz_u64 j rfl (by omega) p6 hp6) ?_
              refine dobs_val ((50, .pointer (some p6)) :: [(0, .slice A n cap), (1, .slice D m cd), (2, .int .i64 ((s : Nat) : Int)), (8, .int .i64 ((j : Nat) : Int)), (27, .int .i64 ((j : Nat) : Int)), (28, .bool true), (31, .slice A n cap), (32, .int .i64 ((s : Nat) : Int)), (33, .int .i64 ((j : Nat) : Int)), (34, .int .i64 ((s + j : Nat) : Int)), (35, .pointer (some p5)), (36, .int .u64 ((xs.getD (s + j) 0 : Nat) : Int)), (37, .slice D m cd), (38, .int .i64 ((j : Nat) : Int)), (39, .pointer (some p6)), (40, .int .u64 ((es.getD j 0 : Nat) : Int)), (41, .bool true)]) rfl rfl rfl rfl rfl (rd_load rfl (load_cell1 ag_u64 (e10.cell hc6))) ?_
              refine dobs_val ((47, .int .u64 ((xs.getD (s + j) 0 : Nat) : Int)) :: (51, .int .u64 ((es.getD j 0 : Nat) : Int)) :: [(0, .slice A n cap), (1, .slice D m cd), (2, .int .i64 ((s : Nat) : Int)), (8, .int .i64 ((j : Nat) : Int)), (27, .int .i64 ((j : Nat) : Int)), (28, .bool true), (31, .slice A n cap), (32, .int .i64 ((s : Nat) : Int)), (33, .int .i64 ((j : Nat) : Int)), (34, .int .i64 ((s + j : Nat) : Int)), (35, .pointer (some p5)), (36, .int .u64 ((xs.getD (s + j) 0 : Nat) : Int)), (37, .slice D m cd), (38, .int .i64 ((j : Nat) : Int)), (39, .pointer (some p6)), (40, .int .u64 ((es.getD j 0 : Nat) : Int)), (41, .bool true)]) rfl rfl rfl rfl rfl (rd_cmp rfl rfl false (cb_gt_f (a := xs.getD (s + j) 0) (b := es.getD j 0) rfl rfl (by omega))) ?_
              refine dobs_val ((52, .bool false) :: [(0, .slice A n cap), (1, .slice D m cd), (2, .int .i64 ((s : Nat) : Int)), (8, .int .i64 ((j : Nat) : Int)), (27, .int .i64 ((j : Nat) : Int)), (28, .bool true), (31, .slice A n cap), (32, .int .i64 ((s : Nat) : Int)), (33, .int .i64 ((j : Nat) : Int)), (34, .int .i64 ((s + j : Nat) : Int)), (35, .pointer (some p5)), (36, .int .u64 ((xs.getD (s + j) 0 : Nat) : Int)), (37, .slice D m cd), (38, .int .i64 ((j : Nat) : Int)), (39, .pointer (some p6)), (40, .int .u64 ((es.getD j 0 : Nat) : Int)), (41, .bool true)]) rfl rfl rfl rfl rfl (rd_assign rfl) ?_
              exact dobs_nil
            clear hv
            refine eo_keep [(0, .slice A n cap), (1, .slice D m cd), (2, .int .i64 ((s : Nat) : Int)), (8, .int .i64 ((j : Nat) : Int)), (27, .int .i64 ((j : Nat) : Int)), (28, .bool true), (31, .slice A n cap), (32, .int .i64 ((s : Nat) : Int)), (33, .int .i64 ((j : Nat) : Int)), (34, .int .i64 ((s + j : Nat) : Int)), (35, .pointer (some p5)), (36, .int .u64 ((xs.getD (s + j) 0 : Nat) : Int)), (37, .slice D m cd), (38, .int .i64 ((j : Nat) : Int)), (39, .pointer (some p6)), (40, .int .u64 ((es.getD j 0 : Nat) : Int)), (41, .bool true), (42, .slice A n cap), (43, .int .i64 ((s : Nat) : Int)), (44, .int .i64 ((j : Nat) : Int)), (45, .int .i64 ((s + j : Nat) : Int)), (46, .pointer (some p5)), (47, .int .u64 ((xs.getD (s + j) 0 : Nat) : Int)), (48, .slice D m cd), (49, .int .i64 ((j : Nat) : Int)), (50, .pointer (some p6)), (51, .int .u64 ((es.getD j 0 : Nat) : Int)), (52, .bool false), (6, .bool false)] ⟨rfl, rfl, rfl, rfl, rfl, rfl, rfl, rfl, rfl, rfl, rfl, rfl, rfl, rfl, rfl, rfl, rfl, rfl, rfl, rfl, rfl, rfl, rfl, rfl, rfl, rfl, rfl, rfl, rfl, trivial⟩ ?_
            refine eo_then ?_
            refine cw_ret ?_
            refine eo_block_ret ?_
            refine eo_thenR ?_
            refine eo_loopR ?_
            refine eo_block_ret ?_
            refine eo_thenR ?_
            refine eo_ret [.bool false] rfl ⟨rfl, trivial⟩ ?_
            exact ⟨_, rfl, (show Value.bool false = _ by rw [decide_eq_false (goes_lt hlen hle2 hs hwx hwe (by omega) hv (by omega))]), hw3⟩
        ·
          refine cw_keep [(0, .slice A n cap), (1, .slice D m cd), (2, .int .i64 ((s : Nat) : Int)), (8, .int .i64 ((j : Nat) : Int)), (27, .int .i64 ((j : Nat) : Int)), (28, .bool true)] ⟨rfl, rfl, rfl, rfl, rfl, rfl, trivial⟩ ?_
          obtain ⟨v11, hv, e12⟩ : ∃ v, v = wr.drew ∧ Ext wr v := ⟨_, rfl, (Ext.refl _).drew⟩
          have hw2 : Ext w v11 := hw1.trans e12
          obtain ⟨p13, hp13, hc13, hv13⟩ := ((rl0.ext e12)).at (i := s + j) (by omega)
          obtain ⟨p14, hp14, hc14, hv14⟩ := ((rl1.ext e12)).at (i := j) (by omega)
          refine cw_det mix (w := v11) [.slice A n cap, .int .i64 ((s : Nat) : Int), .int .i64 ((j : Nat) : Int), .int .i64 ((s + j : Nat) : Int), .pointer (some p13), .int .u64 ((xs.getD (s + j) 0 : Nat) : Int), .slice D m cd, .int .i64 ((j : Nat) : Int), .pointer (some p14), .int .u64 ((es.getD j 0 : Nat) : Int), .bool false] [v11] [] [[], [], [], [1, 2], [0, 3], [4], [], [], [6, 7], [8], [5, 9]] [[], [], [], [1, 2], [0, 1, 2, 3], [0, 1, 2, 3, 4], [], [], [6, 7], [6, 7, 8], [0, 1, 2, 3, 4, 5, 6, 7, 8, 9]] [(0, 0), (1, 0), (2, 0), (3, 0), (4, 0), (5, 0), (6, 0), (7, 0), (8, 0), (9, 0), (10, 0)] rfl hv ?_ ?_
          ·
            refine dobs_val ([(0, .slice A n cap), (1, .slice D m cd), (2, .int .i64 ((s : Nat) : Int)), (8, .int .i64 ((j : Nat) : Int)), (27, .int .i64 ((j : Nat) : Int)), (28, .bool true)]) rfl rfl rfl rfl rfl (rd_move rfl) ?_
            refine dobs_val ([(0, .slice A n cap), (1, .slice D m cd), (2, .int .i64 ((s : Nat) : Int)), (8, .int .i64 ((j : Nat) : Int)), (27, .int .i64 ((j : Nat) : Int)), (28, .bool true)]) rfl rfl rfl rfl rfl (rd_move rfl) ?_
            refine dobs_val ([(0, .slice A n cap), (1, .slice D m cd), (2, .int .i64 ((s : Nat) : Int)), (8, .int .i64 ((j : Nat) : Int)), (27, .int .i64 ((j : Nat) : Int)), (28, .bool true)]) rfl rfl rfl rfl rfl (rd_move rfl) ?_
            refine dobs_val ((32, .int .i64 ((s : Nat) : Int)) :: (33, .int .i64 ((j : Nat) : Int)) :: [(0, .slice A n cap), (1, .slice D m cd), (2, .int .i64 ((s : Nat) : Int)), (8, .int .i64 ((j : Nat) : Int)), (27, .int .i64 ((j : Nat) : Int)), (28, .bool true)]) rfl rfl rfl rfl rfl (rd_ar rfl rfl ((s + j : Nat) : Int) (ai_add (a := s) (b := j) rfl rfl (by omega))) ?_
            refine dobs_val ((31, .slice A n cap) :: (34, .int .i64 ((s + j : Nat) : Int)) :: [(0, .slice A n cap), (1, .slice D m cd), (2, .int .i64 ((s : Nat) : Int)), (8, .int .i64 ((j : Nat) : Int)), (27, .int .i64 ((j : Nat) : Int)), (28, .bool true)]) rfl rfl rfl rfl rfl (rd_idx rfl rfl un_u64 sz_u64 (s + j) rfl (by omega) p13 hp13) ?_
            refine dobs_val ((35, .pointer (some p13)) :: [(0, .slice A n cap), (1, .slice D m cd), (2, .int .i64 ((s : Nat) : Int)), (8, .int .i64 ((j : Nat) : Int)), (27, .int .i64 ((j : Nat) : Int)), (28, .bool true)]) rfl rfl rfl rfl rfl (rd_load rfl (load_cell1 ag_u64 hc13)) ?_
            refine dobs_val ([(0, .slice A n cap), (1, .slice D m cd), (2, .int .i64 ((s : Nat) : Int)), (8, .int .i64 ((j : Nat) : Int)), (27, .int .i64 ((j : Nat) : Int)), (28, .bool true)]) rfl rfl rfl rfl rfl (rd_move rfl) ?_
            refine dobs_val ([(0, .slice A n cap), (1, .slice D m cd), (2, .int .i64 ((s : Nat) : Int)), (8, .int .i64 ((j : Nat) : Int)), (27, .int .i64 ((j : Nat) : Int)), (28, .bool true)]) rfl rfl rfl rfl rfl (rd_move rfl) ?_
            refine dobs_val ((37, .slice D m cd) :: (38, .int .i64 ((j : Nat) : Int)) :: [(0, .slice A n cap), (1, .slice D m cd), (2, .int .i64 ((s : Nat) : Int)), (8, .int .i64 ((j : Nat) : Int)), (27, .int .i64 ((j : Nat) : Int)), (28, .bool true)]) rfl rfl rfl rfl rfl (rd_idx rfl rfl un_u64 sz_u64 j rfl (by omega) p14 hp14) ?_
            refine dobs_val ((39, .pointer (some p14)) :: [(0, .slice A n cap), (1, .slice D m cd), (2, .int .i64 ((s : Nat) : Int)), (8, .int .i64 ((j : Nat) : Int)), (27, .int .i64 ((j : Nat) : Int)), (28, .bool true)]) rfl rfl rfl rfl rfl (rd_load rfl (load_cell1 ag_u64 hc14)) ?_
            refine dobs_val ((36, .int .u64 ((xs.getD (s + j) 0 : Nat) : Int)) :: (40, .int .u64 ((es.getD j 0 : Nat) : Int)) :: [(0, .slice A n cap), (1, .slice D m cd), (2, .int .i64 ((s : Nat) : Int)), (8, .int .i64 ((j : Nat) : Int)), (27, .int .i64 ((j : Nat) : Int)), (28, .bool true)]) rfl rfl rfl rfl rfl (rd_cmp rfl rfl false (cb_ne_f (a := xs.getD (s + j) 0) (b := es.getD j 0) rfl rfl (by omega))) ?_
            exact dobs_nil
          clear hv
          refine eo_keep [(0, .slice A n cap), (1, .slice D m cd), (2, .int .i64 ((s : Nat) : Int)), (8, .int .i64 ((j : Nat) : Int)), (27, .int .i64 ((j : Nat) : Int)), (28, .bool true), (31, .slice A n cap), (32, .int .i64 ((s : Nat) : Int)), (33, .int .i64 ((j : Nat) : Int)), (34, .int .i64 ((s + j : Nat) : Int)), (35, .pointer (some p13)), (36, .int .u64 ((xs.getD (s + j) 0 : Nat) : Int)), (37, .slice D m cd), (38, .int .i64 ((j : Nat) : Int)), (39, .pointer (some p14)), (40, .int .u64 ((es.getD j 0 : Nat) : Int)), (41, .bool false)] ⟨rfl, rfl, rfl, rfl, rfl, rfl, rfl, rfl, rfl, rfl, rfl, rfl, rfl, rfl, rfl, rfl, rfl, trivial⟩ ?_
          refine eo_then ?_
          refine cw_false rfl ?_
          refine cw_skip ?_
          refine eo_block_normal ?_
          refine eo_then ?_
          refine cw_region ?_
          refine wl_move rfl rfl (by decide) ?_
          refine wl_ar rfl rfl rfl (((j : Nat) : Int) - 1) (ar_i64s rfl (by omega) (by omega)) (by decide) ?_
          refine wl_assign rfl rfl (by decide) ?_
          refine wl_nil ?_
          refine eo_round (⟨v11, j, _⟩ : World × Nat × Int) ⟨hw2, (by omega), rfl, goes_step hlen hle2 hs hwx hwe (by omega) hv (by omega), (rl0.ext e12), (rl1.ext e12)⟩ (show j < j + 1 by omega) rfl ⟨rfl, rfl, rfl, rfl, trivial⟩
      ·
        obtain rfl : k = 0 := by omega
        refine cw_region ?_
        refine wl_move rfl rfl (by decide) ?_
        refine wl_cmp rfl rfl rfl false (ge_f (by omega)) (by decide) ?_
        refine wl_nil ?_
        refine eo_then ?_
        refine cw_false rfl ?_
        refine cw_exit ?_
        refine eo_thenX ?_
        refine eo_loopX ?_
        refine eo_block_here ?_
        refine eo_then ?_
        refine cw_seq ?_
        refine cw_region ?_
        refine wl_assign rfl rfl (by decide) ?_
        refine wl_nil ?_
        refine eo_then ?_
        refine cw_ret ?_
        refine eo_ret [.bool true] rfl ⟨rfl, trivial⟩ ?_
        exact ⟨_, rfl, (show Value.bool true = _ by rw [decide_eq_true (goes_eq hlen hle2 hs hwx hwe hv)]), hw1⟩
  ·
    have hst := goes_start hlen hle2 hs hwx hwe hbig (fun h => absurd h htop)
    refine cw_region ?_
    refine wl_move rfl rfl (by decide) ?_
    refine wl_move rfl rfl (by decide) ?_
    refine wl_pure rfl rfl (v := .int .i64 ((n : Nat) : Int)) (by decide) (by kernel_rfl) ?_
    refine wl_cmp rfl rfl rfl false (cb_lt_f (a := s + m) (b := n) rfl rfl (by omega)) (by decide) ?_
    refine wl_move rfl rfl (by decide) ?_
    refine wl_off rfl (by decide) ?_
    refine wl_off rfl (by decide) ?_
    refine wl_off rfl (by decide) ?_
    refine wl_off rfl (by decide) ?_
    refine wl_off rfl (by decide) ?_
    refine wl_pure rfl rfl (v := .bool false) (by decide) (by kernel_rfl) ?_
    refine wl_nil ?_
    refine eo_then ?_
    refine cw_false rfl ?_
    refine cw_skip ?_
    refine eo_then ?_
    refine cw_seq ?_
    refine cw_seq ?_
    refine cw_region ?_
    refine wl_move rfl rfl (by decide) ?_
    refine wl_pure rfl rfl (v := .int .i64 ((m : Nat) : Int)) (by decide) (by kernel_rfl) ?_
    refine wl_ar rfl rfl rfl (((m : Nat) : Int) - 1) (ar_i64s rfl (by omega) (by omega)) (by decide) ?_
    refine wl_assign rfl rfl (by decide) ?_
    refine wl_nil ?_
    refine eo_then ?_
    refine cw_block ?_
    refine cw_loop (T := World × Nat × Int)
      (fun ⟨wr, k, ii⟩ => [(0, .slice A n cap), (1, .slice D m cd), (2, .int .i64 ((s : Nat) : Int)), (8, .int .i64 ii)])
      (fun ⟨wr, k, ii⟩ => wr)
      (fun ⟨wr, k, ii⟩ => (Ext w wr) ∧ (k ≤ m) ∧ (ii = (k : Int) - 1) ∧ (nb 4294967296 (xs.drop (s + k)) = nb 4294967296 (es.drop k)) ∧ (Rd wr A n cap xs) ∧ (Rd wr D m cd es))
      (fun ⟨wr, k, ii⟩ => k)
      (⟨w, m, _⟩ : World × Nat × Int) ⟨(Ext.refl w), Nat.le_refl _, rfl, hst, hx, hy⟩ rfl ⟨rfl, rfl, rfl, rfl, trivial⟩ ?_
    rintro ⟨wr, k, ii⟩ ⟨hw1, hk, hii, hv, rl0, rl1⟩
    refine cw_re [(0, .slice A n cap), (1, .slice D m cd), (2, .int .i64 ((s : Nat) : Int)), (8, .int .i64 ii)] wr rfl ⟨rfl, rfl, rfl, rfl, trivial⟩ ?_
    refine cw_seq ?_
    refine cw_seq ?_
    by_cases hkp : 0 < k
    ·
      obtain ⟨j, rfl⟩ : ∃ j, k = j + 1 := ⟨k - 1, by omega⟩
      obtain rfl : ii = (j : Int) := by omega
      refine cw_region ?_
      refine wl_move rfl rfl (by decide) ?_
      refine wl_cmp rfl rfl rfl true (cb_ge_t (a := j) (b := 0) rfl rfl (by omega)) (by decide) ?_
      refine wl_nil ?_
      refine eo_then ?_
      refine cw_true rfl ?_
      refine cw_skip ?_
      refine eo_then ?_
      refine cw_seq ?_
      refine cw_block ?_
      refine cw_seq ?_
      by_cases hne : xs.getD (s + j) 0 ≠ es.getD j 0
      ·
        refine cw_keep [(0, .slice A n cap), (1, .slice D m cd), (2, .int .i64 ((s : Nat) : Int)), (8, .int .i64 ((j : Nat) : Int)), (27, .int .i64 ((j : Nat) : Int)), (28, .bool true)] ⟨rfl, rfl, rfl, rfl, rfl, rfl, trivial⟩ ?_
        obtain ⟨v15, hv, e16⟩ : ∃ v, v = wr.drew ∧ Ext wr v := ⟨_, rfl, (Ext.refl _).drew⟩
        have hw2 : Ext w v15 := hw1.trans e16
        obtain ⟨p17, hp17, hc17, hv17⟩ := ((rl0.ext e16)).at (i := s + j) (by omega)
        obtain ⟨p18, hp18, hc18, hv18⟩ := ((rl1.ext e16)).at (i := j) (by omega)
        refine cw_det mix (w := v15) [.slice A n cap, .int .i64 ((s : Nat) : Int), .int .i64 ((j : Nat) : Int), .int .i64 ((s + j : Nat) : Int), .pointer (some p17), .int .u64 ((xs.getD (s + j) 0 : Nat) : Int), .slice D m cd, .int .i64 ((j : Nat) : Int), .pointer (some p18), .int .u64 ((es.getD j 0 : Nat) : Int), .bool true] [v15] [] [[], [], [], [1, 2], [0, 3], [4], [], [], [6, 7], [8], [5, 9]] [[], [], [], [1, 2], [0, 1, 2, 3], [0, 1, 2, 3, 4], [], [], [6, 7], [6, 7, 8], [0, 1, 2, 3, 4, 5, 6, 7, 8, 9]] [(0, 0), (1, 0), (2, 0), (3, 0), (4, 0), (5, 0), (6, 0), (7, 0), (8, 0), (9, 0), (10, 0)] rfl hv ?_ ?_
        ·
          refine dobs_val ([(0, .slice A n cap), (1, .slice D m cd), (2, .int .i64 ((s : Nat) : Int)), (8, .int .i64 ((j : Nat) : Int)), (27, .int .i64 ((j : Nat) : Int)), (28, .bool true)]) rfl rfl rfl rfl rfl (rd_move rfl) ?_
          refine dobs_val ([(0, .slice A n cap), (1, .slice D m cd), (2, .int .i64 ((s : Nat) : Int)), (8, .int .i64 ((j : Nat) : Int)), (27, .int .i64 ((j : Nat) : Int)), (28, .bool true)]) rfl rfl rfl rfl rfl (rd_move rfl) ?_
          refine dobs_val ([(0, .slice A n cap), (1, .slice D m cd), (2, .int .i64 ((s : Nat) : Int)), (8, .int .i64 ((j : Nat) : Int)), (27, .int .i64 ((j : Nat) : Int)), (28, .bool true)]) rfl rfl rfl rfl rfl (rd_move rfl) ?_
          refine dobs_val ((32, .int .i64 ((s : Nat) : Int)) :: (33, .int .i64 ((j : Nat) : Int)) :: [(0, .slice A n cap), (1, .slice D m cd), (2, .int .i64 ((s : Nat) : Int)), (8, .int .i64 ((j : Nat) : Int)), (27, .int .i64 ((j : Nat) : Int)), (28, .bool true)]) rfl rfl rfl rfl rfl (rd_ar rfl rfl ((s + j : Nat) : Int) (ai_add (a := s) (b := j) rfl rfl (by omega))) ?_
          refine dobs_val ((31, .slice A n cap) :: (34, .int .i64 ((s + j : Nat) : Int)) :: [(0, .slice A n cap), (1, .slice D m cd), (2, .int .i64 ((s : Nat) : Int)), (8, .int .i64 ((j : Nat) : Int)), (27, .int .i64 ((j : Nat) : Int)), (28, .bool true)]) rfl rfl rfl rfl rfl (rd_idx rfl rfl un_u64 sz_u64 (s + j) rfl (by omega) p17 hp17) ?_
          refine dobs_val ((35, .pointer (some p17)) :: [(0, .slice A n cap), (1, .slice D m cd), (2, .int .i64 ((s : Nat) : Int)), (8, .int .i64 ((j : Nat) : Int)), (27, .int .i64 ((j : Nat) : Int)), (28, .bool true)]) rfl rfl rfl rfl rfl (rd_load rfl (load_cell1 ag_u64 hc17)) ?_
          refine dobs_val ([(0, .slice A n cap), (1, .slice D m cd), (2, .int .i64 ((s : Nat) : Int)), (8, .int .i64 ((j : Nat) : Int)), (27, .int .i64 ((j : Nat) : Int)), (28, .bool true)]) rfl rfl rfl rfl rfl (rd_move rfl) ?_
          refine dobs_val ([(0, .slice A n cap), (1, .slice D m cd), (2, .int .i64 ((s : Nat) : Int)), (8, .int .i64 ((j : Nat) : Int)), (27, .int .i64 ((j : Nat) : Int)), (28, .bool true)]) rfl rfl rfl rfl rfl (rd_move rfl) ?_
          refine dobs_val ((37, .slice D m cd) :: (38, .int .i64 ((j : Nat) : Int)) :: [(0, .slice A n cap), (1, .slice D m cd), (2, .int .i64 ((s : Nat) : Int)), (8, .int .i64 ((j : Nat) : Int)), (27, .int .i64 ((j : Nat) : Int)), (28, .bool true)]) rfl rfl rfl rfl rfl (rd_idx rfl rfl un_u64 sz_u64 j rfl (by omega) p18 hp18) ?_
          refine dobs_val ((39, .pointer (some p18)) :: [(0, .slice A n cap), (1, .slice D m cd), (2, .int .i64 ((s : Nat) : Int)), (8, .int .i64 ((j : Nat) : Int)), (27, .int .i64 ((j : Nat) : Int)), (28, .bool true)]) rfl rfl rfl rfl rfl (rd_load rfl (load_cell1 ag_u64 hc18)) ?_
          refine dobs_val ((36, .int .u64 ((xs.getD (s + j) 0 : Nat) : Int)) :: (40, .int .u64 ((es.getD j 0 : Nat) : Int)) :: [(0, .slice A n cap), (1, .slice D m cd), (2, .int .i64 ((s : Nat) : Int)), (8, .int .i64 ((j : Nat) : Int)), (27, .int .i64 ((j : Nat) : Int)), (28, .bool true)]) rfl rfl rfl rfl rfl (rd_cmp rfl rfl true (cb_ne_t (a := xs.getD (s + j) 0) (b := es.getD j 0) rfl rfl (by omega))) ?_
          exact dobs_nil
        clear hv
        refine eo_keep [(0, .slice A n cap), (1, .slice D m cd), (2, .int .i64 ((s : Nat) : Int)), (8, .int .i64 ((j : Nat) : Int)), (27, .int .i64 ((j : Nat) : Int)), (28, .bool true), (31, .slice A n cap), (32, .int .i64 ((s : Nat) : Int)), (33, .int .i64 ((j : Nat) : Int)), (34, .int .i64 ((s + j : Nat) : Int)), (35, .pointer (some p17)), (36, .int .u64 ((xs.getD (s + j) 0 : Nat) : Int)), (37, .slice D m cd), (38, .int .i64 ((j : Nat) : Int)), (39, .pointer (some p18)), (40, .int .u64 ((es.getD j 0 : Nat) : Int)), (41, .bool true)] ⟨rfl, rfl, rfl, rfl, rfl, rfl, rfl, rfl, rfl, rfl, rfl, rfl, rfl, rfl, rfl, rfl, rfl, trivial⟩ ?_
        refine eo_then ?_
        refine cw_true rfl ?_
        refine cw_seq ?_
        by_cases hgt : xs.getD (s + j) 0 > es.getD j 0
        ·
          refine cw_keep [(0, .slice A n cap), (1, .slice D m cd), (2, .int .i64 ((s : Nat) : Int)), (8, .int .i64 ((j : Nat) : Int)), (27, .int .i64 ((j : Nat) : Int)), (28, .bool true), (31, .slice A n cap), (32, .int .i64 ((s : Nat) : Int)), (33, .int .i64 ((j : Nat) : Int)), (34, .int .i64 ((s + j : Nat) : Int)), (35, .pointer (some p17)), (36, .int .u64 ((xs.getD (s + j) 0 : Nat) : Int)), (37, .slice D m cd), (38, .int .i64 ((j : Nat) : Int)), (39, .pointer (some p18)), (40, .int .u64 ((es.getD j 0 : Nat) : Int)), (41, .bool true)] ⟨rfl, rfl, rfl, rfl, rfl, rfl, rfl, rfl, rfl, rfl, rfl, rfl, rfl, rfl, rfl, rfl, rfl, trivial⟩ ?_
          obtain ⟨v19, hv, e20⟩ : ∃ v, v = v15.drew ∧ Ext v15 v := ⟨_, rfl, (Ext.refl _).drew⟩
          have hw3 : Ext w v19 := hw2.trans e20
          refine cw_det mix (w := v19) [.slice A n cap, .int .i64 ((s : Nat) : Int), .int .i64 ((j : Nat) : Int), .int .i64 ((s + j : Nat) : Int), .pointer (some p17), .int .u64 ((xs.getD (s + j) 0 : Nat) : Int), .slice D m cd, .int .i64 ((j : Nat) : Int), .pointer (some p18), .int .u64 ((es.getD j 0 : Nat) : Int), .bool true, .bool true] [v19] [] [[], [], [], [1, 2], [0, 3], [4], [], [], [6, 7], [8], [5, 9], [10]] [[], [], [], [1, 2], [0, 1, 2, 3], [0, 1, 2, 3, 4], [], [], [6, 7], [6, 7, 8], [0, 1, 2, 3, 4, 5, 6, 7, 8, 9], [0, 1, 2, 3, 4, 5, 6, 7, 8, 9, 10]] [(0, 0), (1, 0), (2, 0), (3, 0), (4, 0), (5, 0), (6, 0), (7, 0), (8, 0), (9, 0), (10, 0), (11, 0)] rfl hv ?_ ?_
          ·
            refine dobs_val ([(0, .slice A n cap), (1, .slice D m cd), (2, .int .i64 ((s : Nat) : Int)), (8, .int .i64 ((j : Nat) : Int)), (27, .int .i64 ((j : Nat) : Int)), (28, .bool true), (31, .slice A n cap), (32, .int .i64 ((s : Nat) : Int)), (33, .int .i64 ((j : Nat) : Int)), (34, .int .i64 ((s + j : Nat) : Int)), (35, .pointer (some p17)), (36, .int .u64 ((xs.getD (s + j) 0 : Nat) : Int)), (37, .slice D m cd), (38, .int .i64 ((j : Nat) : Int)), (39, .pointer (some p18)), (40, .int .u64 ((es.getD j 0 : Nat) : Int)), (41, .bool true)]) rfl rfl rfl rfl rfl (rd_move rfl) ?_
            refine dobs_val ([(0, .slice A n cap), (1, .slice D m cd), (2, .int .i64 ((s : Nat) : Int)), (8, .int .i64 ((j : Nat) : Int)), (27, .int .i64 ((j : Nat) : Int)), (28, .bool true), (31, .slice A n cap), (32, .int .i64 ((s : Nat) : Int)), (33, .int .i64 ((j : Nat) : Int)), (34, .int .i64 ((s + j : Nat) : Int)), (35, .pointer (some p17)), (36, .int .u64 ((xs.getD (s + j) 0 : Nat) : Int)), (37, .slice D m cd), (38, .int .i64 ((j : Nat) : Int)), (39, .pointer (some p18)), (40, .int .u64 ((es.getD j 0 : Nat) : Int)), (41, .bool true)]) rfl rfl rfl rfl rfl (rd_move rfl) ?_
            refine dobs_val ([(0, .slice A n cap), (1, .slice D m cd), (2, .int .i64 ((s : Nat) : Int)), (8, .int .i64 ((j : Nat) : Int)), (27, .int .i64 ((j : Nat) : Int)), (28, .bool true), (31, .slice A n cap), (32, .int .i64 ((s : Nat) : Int)), (33, .int .i64 ((j : Nat) : Int)), (34, .int .i64 ((s + j : Nat) : Int)), (35, .pointer (some p17)), (36, .int .u64 ((xs.getD (s + j) 0 : Nat) : Int)), (37, .slice D m cd), (38, .int .i64 ((j : Nat) : Int)), (39, .pointer (some p18)), (40, .int .u64 ((es.getD j 0 : Nat) : Int)), (41, .bool true)]) rfl rfl rfl rfl rfl (rd_move rfl) ?_
            refine dobs_val ((43, .int .i64 ((s : Nat) : Int)) :: (44, .int .i64 ((j : Nat) : Int)) :: [(0, .slice A n cap), (1, .slice D m cd), (2, .int .i64 ((s : Nat) : Int)), (8, .int .i64 ((j : Nat) : Int)), (27, .int .i64 ((j : Nat) : Int)), (28, .bool true), (31, .slice A n cap), (32, .int .i64 ((s : Nat) : Int)), (33, .int .i64 ((j : Nat) : Int)), (34, .int .i64 ((s + j : Nat) : Int)), (35, .pointer (some p17)), (36, .int .u64 ((xs.getD (s + j) 0 : Nat) : Int)), (37, .slice D m cd), (38, .int .i64 ((j : Nat) : Int)), (39, .pointer (some p18)), (40, .int .u64 ((es.getD j 0 : Nat) : Int)), (41, .bool true)]) rfl rfl rfl rfl rfl (rd_ar rfl rfl ((s + j : Nat) : Int) (ai_add (a := s) (b := j) rfl rfl (by omega))) ?_
            refine dobs_val ((42, .slice A n cap) :: (45, .int .i64 ((s + j : Nat) : Int)) :: [(0, .slice A n cap), (1, .slice D m cd), (2, .int .i64 ((s : Nat) : Int)), (8, .int .i64 ((j : Nat) : Int)), (27, .int .i64 ((j : Nat) : Int)), (28, .bool true), (31, .slice A n cap), (32, .int .i64 ((s : Nat) : Int)), (33, .int .i64 ((j : Nat) : Int)), (34, .int .i64 ((s + j : Nat) : Int)), (35, .pointer (some p17)), (36, .int .u64 ((xs.getD (s + j) 0 : Nat) : Int)), (37, .slice D m cd), (38, .int .i64 ((j : Nat) : Int)), (39, .pointer (some p18)), (40, .int .u64 ((es.getD j 0 : Nat) : Int)), (41, .bool true)]) rfl rfl rfl rfl rfl (rd_idx rfl rfl un_u64 sz_u64 (s + j) rfl (by omega) p17 hp17) ?_
            refine dobs_val ((46, .pointer (some p17)) :: [(0, .slice A n cap), (1, .slice D m cd), (2, .int .i64 ((s : Nat) : Int)), (8, .int .i64 ((j : Nat) : Int)), (27, .int .i64 ((j : Nat) : Int)), (28, .bool true), (31, .slice A n cap), (32, .int .i64 ((s : Nat) : Int)), (33, .int .i64 ((j : Nat) : Int)), (34, .int .i64 ((s + j : Nat) : Int)), (35, .pointer (some p17)), (36, .int .u64 ((xs.getD (s + j) 0 : Nat) : Int)), (37, .slice D m cd), (38, .int .i64 ((j : Nat) : Int)), (39, .pointer (some p18)), (40, .int .u64 ((es.getD j 0 : Nat) : Int)), (41, .bool true)]) rfl rfl rfl rfl rfl (rd_load rfl (load_cell1 ag_u64 (e20.cell hc17))) ?_
            refine dobs_val ([(0, .slice A n cap), (1, .slice D m cd), (2, .int .i64 ((s : Nat) : Int)), (8, .int .i64 ((j : Nat) : Int)), (27, .int .i64 ((j : Nat) : Int)), (28, .bool true), (31, .slice A n cap), (32, .int .i64 ((s : Nat) : Int)), (33, .int .i64 ((j : Nat) : Int)), (34, .int .i64 ((s + j : Nat) : Int)), (35, .pointer (some p17)), (36, .int .u64 ((xs.getD (s + j) 0 : Nat) : Int)), (37, .slice D m cd), (38, .int .i64 ((j : Nat) : Int)), (39, .pointer (some p18)), (40, .int .u64 ((es.getD j 0 : Nat) : Int)), (41, .bool true)]) rfl rfl rfl rfl rfl (rd_move rfl) ?_
            refine dobs_val ([(0, .slice A n cap), (1, .slice D m cd), (2, .int .i64 ((s : Nat) : Int)), (8, .int .i64 ((j : Nat) : Int)), (27, .int .i64 ((j : Nat) : Int)), (28, .bool true), (31, .slice A n cap), (32, .int .i64 ((s : Nat) : Int)), (33, .int .i64 ((j : Nat) : Int)), (34, .int .i64 ((s + j : Nat) : Int)), (35, .pointer (some p17)), (36, .int .u64 ((xs.getD (s + j) 0 : Nat) : Int)), (37, .slice D m cd), (38, .int .i64 ((j : Nat) : Int)), (39, .pointer (some p18)), (40, .int .u64 ((es.getD j 0 : Nat) : Int)), (41, .bool true)]) rfl rfl rfl rfl rfl (rd_move rfl) ?_
            refine dobs_val ((48, .slice D m cd) :: (49, .int .i64 ((j : Nat) : Int)) :: [(0, .slice A n cap), (1, .slice D m cd), (2, .int .i64 ((s : Nat) : Int)), (8, .int .i64 ((j : Nat) : Int)), (27, .int .i64 ((j : Nat) : Int)), (28, .bool true), (31, .slice A n cap), (32, .int .i64 ((s : Nat) : Int)), (33, .int .i64 ((j : Nat) : Int)), (34, .int .i64 ((s + j : Nat) : Int)), (35, .pointer (some p17)), (36, .int .u64 ((xs.getD (s + j) 0 : Nat) : Int)), (37, .slice D m cd), (38, .int .i64 ((j : Nat) : Int)), (39, .pointer (some p18)), (40, .int .u64 ((es.getD j 0 : Nat) : Int)), (41, .bool true)]) rfl rfl rfl rfl rfl (rd_idx rfl rfl un_u64 sz_u64 j rfl (by omega) p18 hp18) ?_
            refine dobs_val ((50, .pointer (some p18)) :: [(0, .slice A n cap), (1, .slice D m cd), (2, .int .i64 ((s : Nat) : Int)), (8, .int .i64 ((j : Nat) : Int)), (27, .int .i64 ((j : Nat) : Int)), (28, .bool true), (31, .slice A n cap), (32, .int .i64 ((s : Nat) : Int)), (33, .int .i64 ((j : Nat) : Int)), (34, .int .i64 ((s + j : Nat) : Int)), (35, .pointer (some p17)), (36, .int .u64 ((xs.getD (s + j) 0 : Nat) : Int)), (37, .slice D m cd), (38, .int .i64 ((j : Nat) : Int)), (39, .pointer (some p18)), (40, .int .u64 ((es.getD j 0 : Nat) : Int)), (41, .bool true)]) rfl rfl rfl rfl rfl (rd_load rfl (load_cell1 ag_u64 (e20.cell hc18))) ?_
            refine dobs_val ((47, .int .u64 ((xs.getD (s + j) 0 : Nat) : Int)) :: (51, .int .u64 ((es.getD j 0 : Nat) : Int)) :: [(0, .slice A n cap), (1, .slice D m cd), (2, .int .i64 ((s : Nat) : Int)), (8, .int .i64 ((j : Nat) : Int)), (27, .int .i64 ((j : Nat) : Int)), (28, .bool true), (31, .slice A n cap), (32, .int .i64 ((s : Nat) : Int)), (33, .int .i64 ((j : Nat) : Int)), (34, .int .i64 ((s + j : Nat) : Int)), (35, .pointer (some p17)), (36, .int .u64 ((xs.getD (s + j) 0 : Nat) : Int)), (37, .slice D m cd), (38, .int .i64 ((j : Nat) : Int)), (39, .pointer (some p18)), (40, .int .u64 ((es.getD j 0 : Nat) : Int)), (41, .bool true)]) rfl rfl rfl rfl rfl (rd_cmp rfl rfl true (cb_gt_t (a := xs.getD (s + j) 0) (b := es.getD j 0) rfl rfl (by omega))) ?_
            refine dobs_val ((52, .bool true) :: [(0, .slice A n cap), (1, .slice D m cd), (2, .int .i64 ((s : Nat) : Int)), (8, .int .i64 ((j : Nat) : Int)), (27, .int .i64 ((j : Nat) : Int)), (28, .bool true), (31, .slice A n cap), (32, .int .i64 ((s : Nat) : Int)), (33, .int .i64 ((j : Nat) : Int)), (34, .int .i64 ((s + j : Nat) : Int)), (35, .pointer (some p17)), (36, .int .u64 ((xs.getD (s + j) 0 : Nat) : Int)), (37, .slice D m cd), (38, .int .i64 ((j : Nat) : Int)), (39, .pointer (some p18)), (40, .int .u64 ((es.getD j 0 : Nat) : Int)), (41, .bool true)]) rfl rfl rfl rfl rfl (rd_assign rfl) ?_
            exact dobs_nil
          clear hv
          refine eo_keep [(0, .slice A n cap), (1, .slice D m cd), (2, .int .i64 ((s : Nat) : Int)), (8, .int .i64 ((j : Nat) : Int)), (27, .int .i64 ((j : Nat) : Int)), (28, .bool true), (31, .slice A n cap), (32, .int .i64 ((s : Nat) : Int)), (33, .int .i64 ((j : Nat) : Int)), (34, .int .i64 ((s + j : Nat) : Int)), (35, .pointer (some p17)), (36, .int .u64 ((xs.getD (s + j) 0 : Nat) : Int)), (37, .slice D m cd), (38, .int .i64 ((j : Nat) : Int)), (39, .pointer (some p18)), (40, .int .u64 ((es.getD j 0 : Nat) : Int)), (41, .bool true), (42, .slice A n cap), (43, .int .i64 ((s : Nat) : Int)), (44, .int .i64 ((j : Nat) : Int)), (45, .int .i64 ((s + j : Nat) : Int)), (46, .pointer (some p17)), (47, .int .u64 ((xs.getD (s + j) 0 : Nat) : Int)), (48, .slice D m cd), (49, .int .i64 ((j : Nat) : Int)), (50, .pointer (some p18)), (51, .int .u64 ((es.getD j 0 : Nat) : Int)), (52, .bool true), (6, .bool true)] ⟨rfl, rfl, rfl, rfl, rfl, rfl, rfl, rfl, rfl, rfl, rfl, rfl, rfl, rfl, rfl, rfl, rfl, rfl, rfl, rfl, rfl, rfl, rfl, rfl, rfl, rfl, rfl, rfl, rfl, trivial⟩ ?_
          refine eo_then ?_
          refine cw_ret ?_
          refine eo_block_ret ?_
          refine eo_thenR ?_
          refine eo_loopR ?_
          refine eo_block_ret ?_
          refine eo_thenR ?_
          refine eo_ret [.bool true] rfl ⟨rfl, trivial⟩ ?_
          exact ⟨_, rfl, (show Value.bool true = _ by rw [decide_eq_true (goes_gt hlen hle2 hs hwx hwe (by omega) hv hgt)]), hw3⟩
        ·
          refine cw_keep [(0, .slice A n cap), (1, .slice D m cd), (2, .int .i64 ((s : Nat) : Int)), (8, .int .i64 ((j : Nat) : Int)), (27, .int .i64 ((j : Nat) : Int)), (28, .bool true), (31, .slice A n cap), (32, .int .i64 ((s : Nat) : Int)), (33, .int .i64 ((j : Nat) : Int)), (34, .int .i64 ((s + j : Nat) : Int)), (35, .pointer (some p17)), (36, .int .u64 ((xs.getD (s + j) 0 : Nat) : Int)), (37, .slice D m cd), (38, .int .i64 ((j : Nat) : Int)), (39, .pointer (some p18)), (40, .int .u64 ((es.getD j 0 : Nat) : Int)), (41, .bool true)] ⟨rfl, rfl, rfl, rfl, rfl, rfl, rfl, rfl, rfl, rfl, rfl, rfl, rfl, rfl, rfl, rfl, rfl, trivial⟩ ?_
          obtain ⟨v21, hv, e22⟩ : ∃ v, v = v15.drew ∧ Ext v15 v := ⟨_, rfl, (Ext.refl _).drew⟩
          have hw3 : Ext w v21 := hw2.trans e22
          refine cw_det mix (w := v21) [.slice A n cap, .int .i64 ((s : Nat) : Int), .int .i64 ((j : Nat) : Int), .int .i64 ((s + j : Nat) : Int), .pointer (some p17), .int .u64 ((xs.getD (s + j) 0 : Nat) : Int), .slice D m cd, .int .i64 ((j : Nat) : Int), .pointer (some p18), .int .u64 ((es.getD j 0 : Nat) : Int), .bool false, .bool false] [v21] [] [[], [], [], [1, 2], [0, 3], [4], [], [], [6, 7], [8], [5, 9], [10]] [[], [], [], [1, 2], [0, 1, 2, 3], [0, 1, 2, 3, 4], [], [], [6, 7], [6, 7, 8], [0, 1, 2, 3, 4, 5, 6, 7, 8, 9], [0, 1, 2, 3, 4, 5, 6, 7, 8, 9, 10]] [(0, 0), (1, 0), (2, 0), (3, 0), (4, 0), (5, 0), (6, 0), (7, 0), (8, 0), (9, 0), (10, 0), (11, 0)] rfl hv ?_ ?_
          ·
            refine dobs_val ([(0, .slice A n cap), (1, .slice D m cd), (2, .int .i64 ((s : Nat) : Int)), (8, .int .i64 ((j : Nat) : Int)), (27, .int .i64 ((j : Nat) : Int)), (28, .bool true), (31, .slice A n cap), (32, .int .i64 ((s : Nat) : Int)), (33, .int .i64 ((j : Nat) : Int)), (34, .int .i64 ((s + j : Nat) : Int)), (35, .pointer (some p17)), (36, .int .u64 ((xs.getD (s + j) 0 : Nat) : Int)), (37, .slice D m cd), (38, .int .i64 ((j : Nat) : Int)), (39, .pointer (some p18)), (40, .int .u64 ((es.getD j 0 : Nat) : Int)), (41, .bool true)]) rfl rfl rfl rfl rfl (rd_move rfl) ?_
            refine dobs_val ([(0, .slice A n cap), (1, .slice D m cd), (2, .int .i64 ((s : Nat) : Int)), (8, .int .i64 ((j : Nat) : Int)), (27, .int .i64 ((j : Nat) : Int)), (28, .bool true), (31, .slice A n cap), (32, .int .i64 ((s : Nat) : Int)), (33, .int .i64 ((j : Nat) : Int)), (34, .int .i64 ((s + j : Nat) : Int)), (35, .pointer (some p17)), (36, .int .u64 ((xs.getD (s + j) 0 : Nat) : Int)), (37, .slice D m cd), (38, .int .i64 ((j : Nat) : Int)), (39, .pointer (some p18)), (40, .int .u64 ((es.getD j 0 : Nat) : Int)), (41, .bool true)]) rfl rfl rfl rfl rfl (rd_move rfl) ?_
            refine dobs_val ([(0, .slice A n cap), (1, .slice D m cd), (2, .int .i64 ((s : Nat) : Int)), (8, .int .i64 ((j : Nat) : Int)), (27, .int .i64 ((j : Nat) : Int)), (28, .bool true), (31, .slice A n cap), (32, .int .i64 ((s : Nat) : Int)), (33, .int .i64 ((j : Nat) : Int)), (34, .int .i64 ((s + j : Nat) : Int)), (35, .pointer (some p17)), (36, .int .u64 ((xs.getD (s + j) 0 : Nat) : Int)), (37, .slice D m cd), (38, .int .i64 ((j : Nat) : Int)), (39, .pointer (some p18)), (40, .int .u64 ((es.getD j 0 : Nat) : Int)), (41, .bool true)]) rfl rfl rfl rfl rfl (rd_move rfl) ?_
            refine dobs_val ((43, .int .i64 ((s : Nat) : Int)) :: (44, .int .i64 ((j : Nat) : Int)) :: [(0, .slice A n cap), (1, .slice D m cd), (2, .int .i64 ((s : Nat) : Int)), (8, .int .i64 ((j : Nat) : Int)), (27, .int .i64 ((j : Nat) : Int)), (28, .bool true), (31, .slice A n cap), (32, .int .i64 ((s : Nat) : Int)), (33, .int .i64 ((j : Nat) : Int)), (34, .int .i64 ((s + j : Nat) : Int)), (35, .pointer (some p17)), (36, .int .u64 ((xs.getD (s + j) 0 : Nat) : Int)), (37, .slice D m cd), (38, .int .i64 ((j : Nat) : Int)), (39, .pointer (some p18)), (40, .int .u64 ((es.getD j 0 : Nat) : Int)), (41, .bool true)]) rfl rfl rfl rfl rfl (rd_ar rfl rfl ((s + j : Nat) : Int) (ai_add (a := s) (b := j) rfl rfl (by omega))) ?_
            refine dobs_val ((42, .slice A n cap) :: (45, .int .i64 ((s + j : Nat) : Int)) :: [(0, .slice A n cap), (1, .slice D m cd), (2, .int .i64 ((s : Nat) : Int)), (8, .int .i64 ((j : Nat) : Int)), (27, .int .i64 ((j : Nat) : Int)), (28, .bool true), (31, .slice A n cap), (32, .int .i64 ((s : Nat) : Int)), (33, .int .i64 ((j : Nat) : Int)), (34, .int .i64 ((s + j : Nat) : Int)), (35, .pointer (some p17)), (36, .int .u64 ((xs.getD (s + j) 0 : Nat) : Int)), (37, .slice D m cd), (38, .int .i64 ((j : Nat) : Int)), (39, .pointer (some p18)), (40, .int .u64 ((es.getD j 0 : Nat) : Int)), (41, .bool true)]) rfl rfl rfl rfl rfl (rd_idx rfl rfl un_u64 sz_u64 (s + j) rfl (by omega) p17 hp17) ?_
            refine dobs_val ((46, .pointer (some p17)) :: [(0, .slice A n cap), (1, .slice D m cd), (2, .int .i64 ((s : Nat) : Int)), (8, .int .i64 ((j : Nat) : Int)), (27, .int .i64 ((j : Nat) : Int)), (28, .bool true), (31, .slice A n cap), (32, .int .i64 ((s : Nat) : Int)), (33, .int .i64 ((j : Nat) : Int)), (34, .int .i64 ((s + j : Nat) : Int)), (35, .pointer (some p17)), (36, .int .u64 ((xs.getD (s + j) 0 : Nat) : Int)), (37, .slice D m cd), (38, .int .i64 ((j : Nat) : Int)), (39, .pointer (some p18)), (40, .int .u64 ((es.getD j 0 : Nat) : Int)), (41, .bool true)]) rfl rfl rfl rfl rfl (rd_load rfl (load_cell1 ag_u64 (e22.cell hc17))) ?_
            refine dobs_val ([(0, .slice A n cap), (1, .slice D m cd), (2, .int .i64 ((s : Nat) : Int)), (8, .int .i64 ((j : Nat) : Int)), (27, .int .i64 ((j : Nat) : Int)), (28, .bool true), (31, .slice A n cap), (32, .int .i64 ((s : Nat) : Int)), (33, .int .i64 ((j : Nat) : Int)), (34, .int .i64 ((s + j : Nat) : Int)), (35, .pointer (some p17)), (36, .int .u64 ((xs.getD (s + j) 0 : Nat) : Int)), (37, .slice D m cd), (38, .int .i64 ((j : Nat) : Int)), (39, .pointer (some p18)), (40, .int .u64 ((es.getD j 0 : Nat) : Int)), (41, .bool true)]) rfl rfl rfl rfl rfl (rd_move rfl) ?_
            refine dobs_val ([(0, .slice A n cap), (1, .slice D m cd), (2, .int .i64 ((s : Nat) : Int)), (8, .int .i64 ((j : Nat) : Int)), (27, .int .i64 ((j : Nat) : Int)), (28, .bool true), (31, .slice A n cap), (32, .int .i64 ((s : Nat) : Int)), (33, .int .i64 ((j : Nat) : Int)), (34, .int .i64 ((s + j : Nat) : Int)), (35, .pointer (some p17)), (36, .int .u64 ((xs.getD (s + j) 0 : Nat) : Int)), (37, .slice D m cd), (38, .int .i64 ((j : Nat) : Int)), (39, .pointer (some p18)), (40, .int .u64 ((es.getD j 0 : Nat) : Int)), (41, .bool true)]) rfl rfl rfl rfl rfl (rd_move rfl) ?_
            refine dobs_val ((48, .slice D m cd) :: (49, .int .i64 ((j : Nat) : Int)) :: [(0, .slice A n cap), (1, .slice D m cd), (2, .int .i64 ((s : Nat) : Int)), (8, .int .i64 ((j : Nat) : Int)), (27, .int .i64 ((j : Nat) : Int)), (28, .bool true), (31, .slice A n cap), (32, .int .i64 ((s : Nat) : Int)), (33, .int .i64 ((j : Nat) : Int)), (34, .int .i64 ((s + j : Nat) : Int)), (35, .pointer (some p17)), (36, .int .u64 ((xs.getD (s + j) 0 : Nat) : Int)), (37, .slice D m cd), (38, .int .i64 ((j : Nat) : Int)), (39, .pointer (some p18)), (40, .int .u64 ((es.getD j 0 : Nat) : Int)), (41, .bool true)]) rfl rfl rfl rfl rfl (rd_idx rfl rfl un_u64 sz_u64 j rfl (by omega) p18 hp18) ?_
            refine dobs_val ((50, .pointer (some p18)) :: [(0, .slice A n cap), (1, .slice D m cd), (2, .int .i64 ((s : Nat) : Int)), (8, .int .i64 ((j : Nat) : Int)), (27, .int .i64 ((j : Nat) : Int)), (28, .bool true), (31, .slice A n cap), (32, .int .i64 ((s : Nat) : Int)), (33, .int .i64 ((j : Nat) : Int)), (34, .int .i64 ((s + j : Nat) : Int)), (35, .pointer (some p17)), (36, .int .u64 ((xs.getD (s + j) 0 : Nat) : Int)), (37, .slice D m cd), (38, .int .i64 ((j : Nat) : Int)), (39, .pointer (some p18)), (40, .int .u64 ((es.getD j 0 : Nat) : Int)), (41, .bool true)]) rfl rfl rfl rfl rfl (rd_load rfl (load_cell1 ag_u64 (e22.cell hc18))) ?_
            refine dobs_val ((47, .int .u64 ((xs.getD (s + j) 0 : Nat) : Int)) :: (51, .int .u64 ((es.getD j 0 : Nat) : Int)) :: [(0, .slice A n cap), (1, .slice D m cd), (2, .int .i64 ((s : Nat) : Int)), (8, .int .i64 ((j : Nat) : Int)), (27, .int .i64 ((j : Nat) : Int)), (28, .bool true), (31, .slice A n cap), (32, .int .i64 ((s : Nat) : Int)), (33, .int .i64 ((j : Nat) : Int)), (34, .int .i64 ((s + j : Nat) : Int)), (35, .pointer (some p17)), (36, .int .u64 ((xs.getD (s + j) 0 : Nat) : Int)), (37, .slice D m cd), (38, .int .i64 ((j : Nat) : Int)), (39, .pointer (some p18)), (40, .int .u64 ((es.getD j 0 : Nat) : Int)), (41, .bool true)]) rfl rfl rfl rfl rfl (rd_cmp rfl rfl false (cb_gt_f (a := xs.getD (s + j) 0) (b := es.getD j 0) rfl rfl (by omega))) ?_
            refine dobs_val ((52, .bool false) :: [(0, .slice A n cap), (1, .slice D m cd), (2, .int .i64 ((s : Nat) : Int)), (8, .int .i64 ((j : Nat) : Int)), (27, .int .i64 ((j : Nat) : Int)), (28, .bool true), (31, .slice A n cap), (32, .int .i64 ((s : Nat) : Int)), (33, .int .i64 ((j : Nat) : Int)), (34, .int .i64 ((s + j : Nat) : Int)), (35, .pointer (some p17)), (36, .int .u64 ((xs.getD (s + j) 0 : Nat) : Int)), (37, .slice D m cd), (38, .int .i64 ((j : Nat) : Int)), (39, .pointer (some p18)), (40, .int .u64 ((es.getD j 0 : Nat) : Int)), (41, .bool true)]) rfl rfl rfl rfl rfl (rd_assign rfl) ?_
            exact dobs_nil
          clear hv
          refine eo_keep [(0, .slice A n cap), (1, .slice D m cd), (2, .int .i64 ((s : Nat) : Int)), (8, .int .i64 ((j : Nat) : Int)), (27, .int .i64 ((j : Nat) : Int)), (28, .bool true), (31, .slice A n cap), (32, .int .i64 ((s : Nat) : Int)), (33, .int .i64 ((j : Nat) : Int)), (34, .int .i64 ((s + j : Nat) : Int)), (35, .pointer (some p17)), (36, .int .u64 ((xs.getD (s + j) 0 : Nat) : Int)), (37, .slice D m cd), (38, .int .i64 ((j : Nat) : Int)), (39, .pointer (some p18)), (40, .int .u64 ((es.getD j 0 : Nat) : Int)), (41, .bool true), (42, .slice A n cap), (43, .int .i64 ((s : Nat) : Int)), (44, .int .i64 ((j : Nat) : Int)), (45, .int .i64 ((s + j : Nat) : Int)), (46, .pointer (some p17)), (47, .int .u64 ((xs.getD (s + j) 0 : Nat) : Int)), (48, .slice D m cd), (49, .int .i64 ((j : Nat) : Int)), (50, .pointer (some p18)), (51, .int .u64 ((es.getD j 0 : Nat) : Int)), (52, .bool false), (6, .bool false)] ⟨rfl, rfl, rfl, rfl, rfl, rfl, rfl, rfl, rfl, rfl, rfl, rfl, rfl, rfl, rfl, rfl, rfl, rfl, rfl, rfl, rfl, rfl, rfl, rfl, rfl, rfl, rfl, rfl, rfl, trivial⟩ ?_
          refine eo_then ?_
          refine cw_ret ?_
          refine eo_block_ret ?_
          refine eo_thenR ?_
          refine eo_loopR ?_
          refine eo_block_ret ?_
          refine eo_thenR ?_
          refine eo_ret [.bool false] rfl ⟨rfl, trivial⟩ ?_
          exact ⟨_, rfl, (show Value.bool false = _ by rw [decide_eq_false (goes_lt hlen hle2 hs hwx hwe (by omega) hv (by omega))]), hw3⟩
      ·
        refine cw_keep [(0, .slice A n cap), (1, .slice D m cd), (2, .int .i64 ((s : Nat) : Int)), (8, .int .i64 ((j : Nat) : Int)), (27, .int .i64 ((j : Nat) : Int)), (28, .bool true)] ⟨rfl, rfl, rfl, rfl, rfl, rfl, trivial⟩ ?_
        obtain ⟨v23, hv, e24⟩ : ∃ v, v = wr.drew ∧ Ext wr v := ⟨_, rfl, (Ext.refl _).drew⟩
        have hw2 : Ext w v23 := hw1.trans e24
        obtain ⟨p25, hp25, hc25, hv25⟩ := ((rl0.ext e24)).at (i := s + j) (by omega)
        obtain ⟨p26, hp26, hc26, hv26⟩ := ((rl1.ext e24)).at (i := j) (by omega)
        refine cw_det mix (w := v23) [.slice A n cap, .int .i64 ((s : Nat) : Int), .int .i64 ((j : Nat) : Int), .int .i64 ((s + j : Nat) : Int), .pointer (some p25), .int .u64 ((xs.getD (s + j) 0 : Nat) : Int), .slice D m cd, .int .i64 ((j : Nat) : Int), .pointer (some p26), .int .u64 ((es.getD j 0 : Nat) : Int), .bool false] [v23] [] [[], [], [], [1, 2], [0, 3], [4], [], [], [6, 7], [8], [5, 9]] [[], [], [], [1, 2], [0, 1, 2, 3], [0, 1, 2, 3, 4], [], [], [6, 7], [6, 7, 8], [0, 1, 2, 3, 4, 5, 6, 7, 8, 9]] [(0, 0), (1, 0), (2, 0), (3, 0), (4, 0), (5, 0), (6, 0), (7, 0), (8, 0), (9, 0), (10, 0)] rfl hv ?_ ?_
        ·
          refine dobs_val ([(0, .slice A n cap), (1, .slice D m cd), (2, .int .i64 ((s : Nat) : Int)), (8, .int .i64 ((j : Nat) : Int)), (27, .int .i64 ((j : Nat) : Int)), (28, .bool true)]) rfl rfl rfl rfl rfl (rd_move rfl) ?_
          refine dobs_val ([(0, .slice A n cap), (1, .slice D m cd), (2, .int .i64 ((s : Nat) : Int)), (8, .int .i64 ((j : Nat) : Int)), (27, .int .i64 ((j : Nat) : Int)), (28, .bool true)]) rfl rfl rfl rfl rfl (rd_move rfl) ?_
          refine dobs_val ([(0, .slice A n cap), (1, .slice D m cd), (2, .int .i64 ((s : Nat) : Int)), (8, .int .i64 ((j : Nat) : Int)), (27, .int .i64 ((j : Nat) : Int)), (28, .bool true)]) rfl rfl rfl rfl rfl (rd_move rfl) ?_
          refine dobs_val ((32, .int .i64 ((s : Nat) : Int)) :: (33, .int .i64 ((j : Nat) : Int)) :: [(0, .slice A n cap), (1, .slice D m cd), (2, .int .i64 ((s : Nat) : Int)), (8, .int .i64 ((j : Nat) : Int)), (27, .int .i64 ((j : Nat) : Int)), (28, .bool true)]) rfl rfl rfl rfl rfl (rd_ar rfl rfl ((s + j : Nat) : Int) (ai_add (a := s) (b := j) rfl rfl (by omega))) ?_
          refine dobs_val ((31, .slice A n cap) :: (34, .int .i64 ((s + j : Nat) : Int)) :: [(0, .slice A n cap), (1, .slice D m cd), (2, .int .i64 ((s : Nat) : Int)), (8, .int .i64 ((j : Nat) : Int)), (27, .int .i64 ((j : Nat) : Int)), (28, .bool true)]) rfl rfl rfl rfl rfl (rd_idx rfl rfl un_u64 sz_u64 (s + j) rfl (by omega) p25 hp25) ?_
          refine dobs_val ((35, .pointer (some p25)) :: [(0, .slice A n cap), (1, .slice D m cd), (2, .int .i64 ((s : Nat) : Int)), (8, .int .i64 ((j : Nat) : Int)), (27, .int .i64 ((j : Nat) : Int)), (28, .bool true)]) rfl rfl rfl rfl rfl (rd_load rfl (load_cell1 ag_u64 hc25)) ?_
          refine dobs_val ([(0, .slice A n cap), (1, .slice D m cd), (2, .int .i64 ((s : Nat) : Int)), (8, .int .i64 ((j : Nat) : Int)), (27, .int .i64 ((j : Nat) : Int)), (28, .bool true)]) rfl rfl rfl rfl rfl (rd_move rfl) ?_
          refine dobs_val ([(0, .slice A n cap), (1, .slice D m cd), (2, .int .i64 ((s : Nat) : Int)), (8, .int .i64 ((j : Nat) : Int)), (27, .int .i64 ((j : Nat) : Int)), (28, .bool true)]) rfl rfl rfl rfl rfl (rd_move rfl) ?_
          refine dobs_val ((37, .slice D m cd) :: (38, .int .i64 ((j : Nat) : Int)) :: [(0, .slice A n cap), (1, .slice D m cd), (2, .int .i64 ((s : Nat) : Int)), (8, .int .i64 ((j : Nat) : Int)), (27, .int .i64 ((j : Nat) : Int)), (28, .bool true)]) rfl rfl rfl rfl rfl (rd_idx rfl rfl un_u64 sz_u64 j rfl (by omega) p26 hp26) ?_
          refine dobs_val ((39, .pointer (some p26)) :: [(0, .slice A n cap), (1, .slice D m cd), (2, .int .i64 ((s : Nat) : Int)), (8, .int .i64 ((j : Nat) : Int)), (27, .int .i64 ((j : Nat) : Int)), (28, .bool true)]) rfl rfl rfl rfl rfl (rd_load rfl (load_cell1 ag_u64 hc26)) ?_
          refine dobs_val ((36, .int .u64 ((xs.getD (s + j) 0 : Nat) : Int)) :: (40, .int .u64 ((es.getD j 0 : Nat) : Int)) :: [(0, .slice A n cap), (1, .slice D m cd), (2, .int .i64 ((s : Nat) : Int)), (8, .int .i64 ((j : Nat) : Int)), (27, .int .i64 ((j : Nat) : Int)), (28, .bool true)]) rfl rfl rfl rfl rfl (rd_cmp rfl rfl false (cb_ne_f (a := xs.getD (s + j) 0) (b := es.getD j 0) rfl rfl (by omega))) ?_
          exact dobs_nil
        clear hv
        refine eo_keep [(0, .slice A n cap), (1, .slice D m cd), (2, .int .i64 ((s : Nat) : Int)), (8, .int .i64 ((j : Nat) : Int)), (27, .int .i64 ((j : Nat) : Int)), (28, .bool true), (31, .slice A n cap), (32, .int .i64 ((s : Nat) : Int)), (33, .int .i64 ((j : Nat) : Int)), (34, .int .i64 ((s + j : Nat) : Int)), (35, .pointer (some p25)), (36, .int .u64 ((xs.getD (s + j) 0 : Nat) : Int)), (37, .slice D m cd), (38, .int .i64 ((j : Nat) : Int)), (39, .pointer (some p26)), (40, .int .u64 ((es.getD j 0 : Nat) : Int)), (41, .bool false)] ⟨rfl, rfl, rfl, rfl, rfl, rfl, rfl, rfl, rfl, rfl, rfl, rfl, rfl, rfl, rfl, rfl, rfl, trivial⟩ ?_
        refine eo_then ?_
        refine cw_false rfl ?_
        refine cw_skip ?_
        refine eo_block_normal ?_
        refine eo_then ?_
        refine cw_region ?_
        refine wl_move rfl rfl (by decide) ?_
        refine wl_ar rfl rfl rfl (((j : Nat) : Int) - 1) (ar_i64s rfl (by omega) (by omega)) (by decide) ?_
        refine wl_assign rfl rfl (by decide) ?_
        refine wl_nil ?_
        refine eo_round (⟨v23, j, _⟩ : World × Nat × Int) ⟨hw2, (by omega), rfl, goes_step hlen hle2 hs hwx hwe (by omega) hv (by omega), (rl0.ext e24), (rl1.ext e24)⟩ (show j < j + 1 by omega) rfl ⟨rfl, rfl, rfl, rfl, trivial⟩
    ·
      obtain rfl : k = 0 := by omega
      refine cw_region ?_
      refine wl_move rfl rfl (by decide) ?_
      refine wl_cmp rfl rfl rfl false (ge_f (by omega)) (by decide) ?_
      refine wl_nil ?_
      refine eo_then ?_
      refine cw_false rfl ?_
      refine cw_exit ?_
      refine eo_thenX ?_
      refine eo_loopX ?_
      refine eo_block_here ?_
      refine eo_then ?_
      refine cw_seq ?_
      refine cw_region ?_
      refine wl_assign rfl rfl (by decide) ?_
      refine wl_nil ?_
      refine eo_then ?_
      refine cw_ret ?_
      refine eo_ret [.bool true] rfl ⟨rfl, trivial⟩ ?_
      exact ⟨_, rfl, (show Value.bool true = _ by rw [decide_eq_true (goes_eq hlen hle2 hs hwx hwe hv)]), hw1⟩
end Go.Proofs.Ythggegdkpalgbaa

namespace Go.Proofs.Ythggegdkpalgbaa
open Go.RowKit
theorem nb_digit_le {b : Nat} {l : List Nat} {i : Nat} (hi : i < l.length) : l.getD i 0 * b ^ i ≤ nb b l := by
  rw [nb_split b l i (by omega), drop_getD3 hi, Nat.mul_add, Nat.mul_comm (l.getD i 0)]
  omega
theorem divmod_of3 {x y q r : Nat} (h : q * y + r = x) (hr : r < y) : q = x / y ∧ r = x % y := by
  subst h
  rw [Nat.mul_comm]
  constructor
  · rw [Nat.mul_add_div (by omega), Nat.div_eq_of_lt hr]; rfl
  · rw [Nat.mul_add_mod, Nat.mod_eq_of_lt hr]
theorem nb_ge_of_top {b m : Nat} {es : List Nat} (hb : 0 < b) (hm : 0 < m) (hl : es.length = m) (ht : es.getD (m - 1) 0 ≠ 0) : b ^ (m - 1) ≤ nb b es := by
  refine Nat.le_trans ?_ (nb_digit_le (b := b) (l := es) (i := m - 1) (by omega))
  exact Nat.le_mul_of_pos_left _ (by omega)
theorem nb_pos_of_top {b m : Nat} {es : List Nat} (hb : 0 < b) (hm : 0 < m) (hl : es.length = m) (ht : es.getD (m - 1) 0 ≠ 0) : 0 < nb b es := Nat.lt_of_lt_of_le (Nat.pow_pos hb) (nb_ge_of_top hb hm hl ht)
theorem small_of_top {n m : Nat} {xs es : List Nat} (hw : Wfb 4294967296 xs) (hn : xs.length = n) (hl : es.length = m) (h : n < m) (ht : es.getD (m - 1) 0 ≠ 0) : nb 4294967296 xs < nb 4294967296 es := by
  have h1 := nb_lt hw
  rw [hn] at h1
  have h2 := nb_ge_of_top (b := 4294967296) (by decide) (by omega) hl ht
  have h3 : 4294967296 ^ n ≤ 4294967296 ^ (m - 1) := Nat.pow_le_pow_right (by decide) (by omega)
  omega
theorem ref3_goes' {w : World} {A D : Option Addr} {n cap m cd s : Nat} {xs es : List Nat} {b : Bool} (hx : Rd w A n cap xs) (hln : n ≤ 1099511627776) (hy : Rd w D m cd es) (hwx : Wfb 4294967296 xs) (hwe : Wfb 4294967296 es) (hs : s + m ≤ n) (hbig : nb 4294967296 xs < 4294967296 ^ (s + m + 1)) (hb : decide (nb 4294967296 es * 4294967296 ^ s ≤ nb 4294967296 xs) = b) :
    Calls Try.prog 101 #[.slice A n cap, .slice D m cd, .int .i64 (s : Int)] w (Gv w (Is (.bool b))) := hb ▸ ref3_goes hx hln hy hwx hwe hs hbig
theorem nb_digit2_le {b : Nat} {l : List Nat} {i i' : Nat} (h : i + 1 = i') (hi : i' < l.length) : (l.getD i 0 + l.getD i' 0 * b) * b ^ i ≤ nb b l := by
  subst h
  rw [nb_split b l i (by omega), drop_getD3 (k := i) (by omega), drop_getD3 (k := i + 1) hi, Nat.mul_comm, Nat.mul_comm (l.getD (i + 1) 0)]
  refine Nat.le_trans (Nat.mul_le_mul_left _ ?_) (Nat.le_add_left _ _)
  rw [Nat.mul_add]
  omega
theorem dv_head {l : List Nat} {k : Nat} (hw : Wfb 4294967296 l) (hk : k ≤ l.length) (h0 : 0 < k) (hv : nb 4294967296 (l.take k) = nb 4294967296 l) : nb 4294967296 l < (l.getD (k - 1) 0 + 1) * 4294967296 ^ (k - 1) := by
  obtain ⟨j, rfl⟩ : ∃ j, k = j + 1 := ⟨k - 1, by omega⟩
  rw [← hv, nb_take_snoc 4294967296 l j (by omega), Nat.add_sub_cancel, Nat.add_mul, Nat.one_mul, Nat.mul_comm (l.getD j 0)]
  have := nb_take_lt (by decide) hw j
  omega
theorem dv_fit {D hd k t j R : Nat} (hD : D < hd * 4294967296 ^ (k - 1)) (hk : 0 < k) (ht : t * 4294967296 ^ (j + k - 1) ≤ R) : t / hd * D * 4294967296 ^ j ≤ R := by
  have h1 : t / hd * D ≤ t / hd * (hd * 4294967296 ^ (k - 1)) := Nat.mul_le_mul_left _ (Nat.le_of_lt hD)
  have h2 : t / hd * (hd * 4294967296 ^ (k - 1)) ≤ t * 4294967296 ^ (k - 1) := by
    rw [← Nat.mul_assoc]
    exact Nat.mul_le_mul_right _ (Nat.div_mul_le_self t hd)
  have h3 := Nat.mul_le_mul_right (4294967296 ^ j) (Nat.le_trans h1 h2)
  rw [Nat.mul_assoc t, ← Nat.pow_add, show k - 1 + j = j + k - 1 by omega] at h3
  exact Nat.le_trans h3 ht
theorem dv_lt {n D j R : Nat} (h : n * D * 4294967296 ^ j ≤ R) (hR : R < D * 4294967296 ^ (j + 1)) : n < 4294967296 := by
  refine Nat.lt_of_not_le fun hn => ?_
  have h1 : 4294967296 * D * 4294967296 ^ j ≤ n * D * 4294967296 ^ j := Nat.mul_le_mul_right _ (Nat.mul_le_mul_right _ hn)
  have h2 : 4294967296 * D * 4294967296 ^ j = D * 4294967296 ^ (j + 1) := by rw [Nat.pow_succ]; grind
  omega
/-- between the places -/
structure DO (Z D k : Nat) (lq lr : List Nat) : Prop where
  wq : Wfb 4294967296 lq
  wr : Wfb 4294967296 lr
  v : nb 4294967296 lq * D + nb 4294967296 lr = Z
  lt : nb 4294967296 lr < D * 4294967296 ^ k
  z : ∀ i, i < k → lq.getD i 0 = 0
/-- within place j -/
structure DI (Z D j : Nat) (lq lr : List Nat) : Prop where
  wq : Wfb 4294967296 lq
  wr : Wfb 4294967296 lr
  v : nb 4294967296 lq * D + nb 4294967296 lr = Z
  lt : lq.getD j 0 * (D * 4294967296 ^ j) + nb 4294967296 lr < D * 4294967296 ^ (j + 1)
  z : ∀ i, i < j → lq.getD i 0 = 0
theorem getD_zeros (k i : Nat) : (List.replicate k 0).getD i 0 = 0 := by
  rw [List.getD_eq_getElem?_getD]
  by_cases h : i < k
  · rw [List.getElem?_replicate_of_lt h]; rfl
  · rw [List.getElem?_eq_none (by rw [List.length_replicate]; omega)]; rfl
theorem DO.start {X Y f n m : Nat} {lr ld : List Nat} (hw : Wfb 4294967296 lr) (hr : nb 4294967296 lr = X * f) (hd : nb 4294967296 ld = Y * f) (hf : 1 ≤ f) (hX : X < 4294967296 ^ n) (hY : 4294967296 ^ (m - 1) ≤ Y) (hm : 0 < m) (hmn : m ≤ n) :
    DO (X * f) (nb 4294967296 ld) (n - m + 1) (List.replicate (n - m + 1) 0) lr := by
  refine ⟨Wfb_zeros (by decide) _, hw, by rw [nb_zeros, hr]; omega, ?_, fun i _ => getD_zeros _ i⟩
  rw [hr, hd]
  have h1 : 4294967296 ^ n = 4294967296 ^ (m - 1) * 4294967296 ^ (n - m + 1) := by rw [← Nat.pow_add]; congr 1; omega
  have h2 : 4294967296 ^ (m - 1) * 4294967296 ^ (n - m + 1) ≤ Y * 4294967296 ^ (n - m + 1) := Nat.mul_le_mul_right _ hY
  rw [Nat.mul_right_comm]
  exact Nat.mul_lt_mul_of_pos_right (by omega) hf
theorem DO.enter {Z D j : Nat} {lq lr : List Nat} (h : DO Z D (j + 1) lq lr) : DI Z D j lq lr := ⟨h.wq, h.wr, h.v, by rw [h.z j (by omega), Nat.zero_mul, Nat.zero_add]; exact h.lt, fun i hi => h.z i (by omega)⟩
theorem DI.leave {Z D j : Nat} {lq lr : List Nat} (h : DI Z D j lq lr) (hn : ¬ D * 4294967296 ^ j ≤ nb 4294967296 lr) : DO Z D j lq lr := ⟨h.wq, h.wr, h.v, by omega, h.z⟩
theorem DI.sum {Z D j n : Nat} {lq lr l' : List Nat} (h : DI Z D j lq lr) (hv : nb 4294967296 l' + n * D * 4294967296 ^ j = nb 4294967296 lr) : (lq.getD j 0 + n) * (D * 4294967296 ^ j) + nb 4294967296 l' < D * 4294967296 ^ (j + 1) := by
  have h1 := h.lt
  rw [Nat.add_mul, ← Nat.mul_assoc n]
  omega
theorem DI.digit {Z D j n : Nat} {lq lr l' : List Nat} (h : DI Z D j lq lr) (hv : nb 4294967296 l' + n * D * 4294967296 ^ j = nb 4294967296 lr) : lq.getD j 0 + n < 4294967296 := by
  have h1 := h.sum hv
  refine dv_lt (R := (lq.getD j 0 + n) * D * 4294967296 ^ j) (Nat.le_refl _) ?_
  rw [Nat.mul_assoc]; omega
theorem DI.step {Z D j n : Nat} {lq lr l' : List Nat} (h : DI Z D j lq lr) (hj : j < lq.length) (hw : Wfb 4294967296 l') (hv : nb 4294967296 l' + n * D * 4294967296 ^ j = nb 4294967296 lr) : DI Z D j (lq.set j (lq.getD j 0 + n)) l' := by
  refine ⟨Wfb_set h.wq _ (h.digit hv), hw, ?_, ?_, fun i hi => by rw [getD_set_ne (by omega), h.z i hi]⟩
  · have h1 := nb_set 4294967296 hj (lq.getD j 0 + n)
    rw [Nat.mul_add] at h1
    have h2 : nb 4294967296 (lq.set j (lq.getD j 0 + n)) = nb 4294967296 lq + 4294967296 ^ j * n := by omega
    have h3 := h.v
    have h4 : 4294967296 ^ j * n * D = n * D * 4294967296 ^ j := by grind
    rw [h2, Nat.add_mul, h4]
    omega
  · rw [getD_set_eq hj]; exact h.sum hv
theorem dv_less {D j n : Nat} {lr l' : List Nat} (hn : 1 ≤ n) (hD : 0 < D) (hv : nb 4294967296 l' + n * D * 4294967296 ^ j = nb 4294967296 lr) : nb 4294967296 l' < nb 4294967296 lr := by
  have : 0 < n * D * 4294967296 ^ j := Nat.mul_pos (Nat.mul_pos hn hD) (Nat.pow_pos (by decide))
  omega
theorem dv_big {Z D j k : Nat} {lq lr ld : List Nat} (h : DI Z D j lq lr) (hd : nb 4294967296 ld = D) (hw : Wfb 4294967296 ld) (hv : nb 4294967296 (ld.take k) = nb 4294967296 ld) : nb 4294967296 lr < 4294967296 ^ (j + k + 1) := by
  have h1 := nb_take_lt (by decide) hw k
  rw [hv, hd] at h1
  have h2 := h.lt
  have h3 : D * 4294967296 ^ (j + 1) ≤ 4294967296 ^ k * 4294967296 ^ (j + 1) := Nat.mul_le_mul_right _ (Nat.le_of_lt h1)
  rw [← Nat.pow_add, show k + (j + 1) = j + k + 1 by omega] at h3
  omega
/-- the division by f -/
structure DF (f : Nat) (l0 : List Nat) (k rest : Nat) (l : List Nat) : Prop where
  len : l.length = l0.length
  wf : Wfb 4294967296 l
  rf : rest < f
  v : nb 4294967296 (l0.drop k) = nb 4294967296 (l.drop k) * f + rest
  same : ∀ i, i < k → l.getD i 0 = l0.getD i 0
theorem DF.start {f n : Nat} {l0 : List Nat} (hw : Wfb 4294967296 l0) (hf : 1 ≤ f) (hl : l0.length = n) : DF f l0 n 0 l0 := ⟨rfl, hw, hf, by rw [List.drop_of_length_le (by omega), nb_nil, Nat.zero_mul], fun _ _ => rfl⟩
theorem DF.step {f j rest : Nat} {l0 l : List Nat} (h : DF f l0 (j + 1) rest l) (hj : j < l0.length) (hd : (rest * 4294967296 + l.getD j 0) / f < 4294967296) (hf : 1 ≤ f) : DF f l0 j ((rest * 4294967296 + l.getD j 0) % f) (l.set j ((rest * 4294967296 + l.getD j 0) / f)) := by
  refine ⟨by rw [List.length_set, h.len], Wfb_set h.wf _ hd, Nat.mod_lt _ hf, ?_, fun i hi => by rw [getD_set_ne (by omega), h.same i (by omega)]⟩
  rw [drop_getD3 hj, drop_getD3 (xs := l.set j _) (k := j) (by rw [List.length_set, h.len]; exact hj), getD_set_eq (by rw [h.len]; exact hj), h.v, ← h.same j (by omega), List.drop_set_of_lt (by omega)]
  have e := Nat.div_add_mod (rest * 4294967296 + l.getD j 0) f
  generalize (rest * 4294967296 + l.getD j 0) / f = Q at *
  generalize (rest * 4294967296 + l.getD j 0) % f = R at *
  have e2 : (Q + 4294967296 * nb 4294967296 (List.drop (j + 1) l)) * f = f * Q + 4294967296 * (nb 4294967296 (List.drop (j + 1) l) * f) := by grind
  rw [e2]
  omega
theorem DF.digit {f j rest : Nat} {l0 l : List Nat} (h : DF f l0 (j + 1) rest l) : (rest * 4294967296 + l.getD j 0) / f < 4294967296 := by
  have h1 := Wfb_getD (b := 4294967296) (by decide) h.wf j
  have h2 := h.rf
  rw [Nat.div_lt_iff_lt_mul (by omega)]
  have h3 : (rest + 1) * 4294967296 ≤ f * 4294967296 := Nat.mul_le_mul_right _ h2
  rw [Nat.mul_comm 4294967296 f]
  omega
theorem dv_done {X Y f rest : Nat} {lq lr ld l : List Nat} (h : DO (X * f) (nb 4294967296 ld) 0 lq lr) (hd : nb 4294967296 ld = Y * f) (hF : DF f lr 0 rest l) : nb 4294967296 lq = X / Y ∧ nb 4294967296 l = X % Y := by
  have h1 := h.v
  have h2 := h.lt
  have h3 := hF.v
  have h4 := hF.rf
  rw [List.drop_zero, List.drop_zero] at h3
  rw [hd, Nat.pow_zero, Nat.mul_one] at h2
  rw [hd] at h1
  have e : (nb 4294967296 lq * Y + nb 4294967296 l) * f + rest = X * f := by rw [Nat.add_mul, Nat.mul_assoc]; omega
  have h0 : rest = 0 := by
    have := congrArg (· % f) e
    simp only [Nat.mul_mod_left, Nat.add_comm _ rest, Nat.add_mul_mod_self_right] at this
    rwa [Nat.mod_eq_of_lt h4] at this
  rw [h0, Nat.add_zero] at e h3
  have e2 := Nat.eq_of_mul_eq_mul_right (by omega : 0 < f) e
  have h5 : nb 4294967296 l < Y := by
    rw [h3] at h2
    exact Nat.lt_of_mul_lt_mul_right h2
  have := divmod_of3 (x := X) (y := Y) e2 h5
  exact this
set_option maxHeartbeats 4000000 in
theorem ref3_divide {w : World} {A D : Option Addr} {n cap m cd : Nat} {xs es : List Nat} (hx : Rd w A n cap xs) (hln : n ≤ 274877906944) (hy : Rd w D m cd es) (hlm : m ≤ 274877906944) (hwx : Wfb 4294967296 xs) (hwe : Wfb 4294967296 es) (hxt : n = 0 ∨ xs.getD (n - 1) 0 ≠ 0) (hm0 : 0 < m) (htop : es.getD (m - 1) 0 ≠ 0) :
    Calls Try.prog 83 #[.slice A n cap, .slice D m cd] w (Gv w (T2 (WD (nb 4294967296 xs / nb 4294967296 es)) (WD (nb 4294967296 xs % nb 4294967296 es)))) := by
  have hlen := hx.len
  have hle := hx.rv.le
  have hlem := hy.len
  have hle2 := hy.rv.le
  refine sx_enter Try.func83 rfl (n := 143) rfl (Nat.le_of_ble_eq_true rfl) (args := [.slice A n cap, .slice D m cd]) ?_
  refine cw_keep [(0, .slice A n cap), (1, .slice D m cd)] ⟨rfl, rfl, trivial⟩ ?_
  refine cw_seq ?_
  refine cw_region ?_
  refine wl_assign rfl rfl (by decide) ?_
  refine wl_assign rfl rfl (by decide) ?_
  refine wl_nil ?_
  refine eo_then ?_
  refine cw_seq ?_
  refine cw_seq ?_
  by_cases hnm : n < m
  ·
    refine cw_region ?_
    refine wl_move rfl rfl (by decide) ?_
    refine wl_pure rfl rfl (v := .int .i64 ((n : Nat) : Int)) (by decide) (by kernel_rfl) ?_
    refine wl_move rfl rfl (by decide) ?_
    refine wl_pure rfl rfl (v := .int .i64 ((m : Nat) : Int)) (by decide) (by kernel_rfl) ?_
    refine wl_cmp rfl rfl rfl true (cb_lt_t (a := n) (b := m) rfl rfl (by omega)) (by decide) ?_
    refine wl_nil ?_
    refine eo_then ?_
    refine cw_true rfl ?_
    refine cw_seq ?_
    refine cw_region ?_
    refine wl_move rfl rfl (by decide) ?_
    refine wl_assign rfl rfl (by decide) ?_
    refine wl_assign rfl rfl (by decide) ?_
    refine wl_nil ?_
    refine eo_then ?_
    refine cw_ret ?_
    refine eo_thenR ?_
    refine eo_ret [.slice none 0 0, .slice A n cap] rfl ⟨rfl, rfl, trivial⟩ ?_
    have hlt := small_of_top hwx hlen hlem hnm htop
    refine ⟨_, rfl, ⟨_, _, rfl, ⟨_, _, _, rfl, ?_⟩, ⟨_, _, _, rfl, ?_⟩⟩, (Ext.refl w)⟩
    · rw [Nat.div_eq_of_lt hlt]; exact Rd.nil _
    · rw [Nat.mod_eq_of_lt hlt, db_of_top' b32 hwx (by rw [hlen]; exact hxt)]; exact hx
  ·
    refine cw_region ?_
    refine wl_move rfl rfl (by decide) ?_
    refine wl_pure rfl rfl (v := .int .i64 ((n : Nat) : Int)) (by decide) (by kernel_rfl) ?_
    refine wl_move rfl rfl (by decide) ?_
    refine wl_pure rfl rfl (v := .int .i64 ((m : Nat) : Int)) (by decide) (by kernel_rfl) ?_
    refine wl_cmp rfl rfl rfl false (cb_lt_f (a := n) (b := m) rfl rfl (by omega)) (by decide) ?_
    refine wl_nil ?_
    refine eo_then ?_
    refine cw_false rfl ?_
    refine cw_skip ?_
    refine eo_then ?_
    refine cw_seq ?_
    have htb := Wfb_getD (b := 4294967296) (by decide) hwe (m - 1)
    refine cw_region ?_
    refine wl_assign rfl rfl (by decide) ?_
    refine wl_nil ?_
    refine eo_then ?_
    refine cw_seq ?_
    refine cw_block ?_
    refine cw_loop (T := World × Nat)
      (fun ⟨wr, f⟩ => [(0, .slice A n cap), (1, .slice D m cd), (6, .int .u64 ((f : Nat) : Int))])
      (fun ⟨wr, f⟩ => wr)
      (fun ⟨wr, f⟩ => (Ext w wr) ∧ (1 ≤ f) ∧ (f ≤ 4294967295) ∧ (Rd wr A n cap xs) ∧ (Rd wr D m cd es))
      (fun ⟨wr, f⟩ => 4294967296 - f)
      (⟨w, 1⟩ : World × Nat) ⟨(Ext.refl w), (by decide), (by decide), hx, hy⟩ rfl ⟨rfl, rfl, rfl, trivial⟩ ?_
    rintro ⟨wr, f⟩ ⟨hw1, hf1, hf2, rl0, rl1⟩
    refine cw_re [(0, .slice A n cap), (1, .slice D m cd), (6, .int .u64 ((f : Nat) : Int))] wr rfl ⟨rfl, rfl, rfl, trivial⟩ ?_
    refine cw_seq ?_
    refine cw_seq ?_
    have hm : (es.getD (m - 1) 0) * f ≤ 4294967295 * 4294967295 := Nat.mul_le_mul (by omega) (by omega)
    by_cases hmul : (es.getD (m - 1) 0) * f < 2147483648
    ·
      have hm2 : 1 * f ≤ (es.getD (m - 1) 0) * f := Nat.mul_le_mul_right _ (by omega)
      refine cw_region ?_
      refine wl_move rfl rfl (by decide) ?_
      refine wl_move rfl rfl (by decide) ?_
      refine wl_pure rfl rfl (v := .int .i64 ((m : Nat) : Int)) (by decide) (by kernel_rfl) ?_
      refine wl_ar rfl rfl rfl ((m - 1 : Nat) : Int) (ai_sub (a := m) (b := 1) rfl rfl (by omega) (by omega)) (by decide) ?_
      obtain ⟨p1, hp1, hc1, hv1⟩ := (rl1).at (i := m - 1) (by omega)
      refine wl_idx rfl rfl rfl un_u64 sz_u64 (m - 1) rfl (by omega) p1 hp1 (by decide) ?_
      refine wl_load rfl rfl (load_cell1 ag_u64 hc1) (by decide) ?_
      refine wl_move rfl rfl (by decide) ?_
      refine wl_ar rfl rfl rfl (((es.getD (m - 1) 0) * f : Nat) : Int) (au_mul (a := es.getD (m - 1) 0) (b := f) rfl rfl (by omega)) (by decide) ?_
      refine wl_cmp rfl rfl rfl true (cb_lt_t (a := (es.getD (m - 1) 0) * f) (b := 2147483648) rfl rfl (by omega)) (by decide) ?_
      refine wl_nil ?_
      refine eo_then ?_
      refine cw_true rfl ?_
      refine cw_skip ?_
      refine eo_then ?_
      refine cw_block ?_
      refine cw_region ?_
      refine wl_move rfl rfl (by decide) ?_
      refine wl_ar rfl rfl rfl ((2 * f : Nat) : Int) (au_mul (a := 2) (b := f) rfl rfl (by omega)) (by decide) ?_
      refine wl_assign rfl rfl (by decide) ?_
      refine wl_nil ?_
      refine eo_block_normal ?_
      refine eo_round (⟨wr, 2 * f⟩ : World × Nat) ⟨hw1, (by omega), (by omega), rl0, rl1⟩ (show 4294967296 - 2 * f < 4294967296 - f by omega) rfl ⟨rfl, rfl, rfl, trivial⟩
    ·
      refine cw_region ?_
      refine wl_move rfl rfl (by decide) ?_
      refine wl_move rfl rfl (by decide) ?_
      refine wl_pure rfl rfl (v := .int .i64 ((m : Nat) : Int)) (by decide) (by kernel_rfl) ?_
      refine wl_ar rfl rfl rfl ((m - 1 : Nat) : Int) (ai_sub (a := m) (b := 1) rfl rfl (by omega) (by omega)) (by decide) ?_
      obtain ⟨p2, hp2, hc2, hv2⟩ := (rl1).at (i := m - 1) (by omega)
      refine wl_idx rfl rfl rfl un_u64 sz_u64 (m - 1) rfl (by omega) p2 hp2 (by decide) ?_
      refine wl_load rfl rfl (load_cell1 ag_u64 hc2) (by decide) ?_
      refine wl_move rfl rfl (by decide) ?_
      refine wl_ar rfl rfl rfl (((es.getD (m - 1) 0) * f : Nat) : Int) (au_mul (a := es.getD (m - 1) 0) (b := f) rfl rfl (by omega)) (by decide) ?_
      refine wl_cmp rfl rfl rfl false (cb_lt_f (a := (es.getD (m - 1) 0) * f) (b := 2147483648) rfl rfl (by omega)) (by decide) ?_
      refine wl_nil ?_
      refine eo_then ?_
      refine cw_false rfl ?_
      refine cw_exit ?_
      refine eo_thenX ?_
      refine eo_loopX ?_
      refine eo_block_here ?_
      refine eo_then ?_
      refine cw_seq ?_
      refine cw_region ?_
      refine wl_move rfl rfl (by decide) ?_
      refine wl_move rfl rfl (by decide) ?_
      refine wl_call rfl rfl (vs := [.slice A n cap, .int .u64 ((f : Nat) : Int)]) (by kernel_rfl) (by decide) (ref3_scaled rl0 (by omega) hwx hf2) ?_
      rintro _ v3 ⟨xr5, rfl, r5, e4⟩
      refine ret_intro ?_
      have hw2 : Ext w v3 := hw1.trans e4
      obtain ⟨g6, l6, rfl, gb6, hb6, hl6, hwf6, hnv6⟩ := r5
      have ge7 : w.heap.size ≤ g6 := Nat.le_trans hw1.size gb6
      have ne8 : 0 < cap → ∀ a, A = some a → a.block ≠ g6 := fun hc a ha => by have := (rl0).rv.blk a ha hc; omega
      have ne9 : 0 < cd → ∀ a, D = some a → a.block ≠ g6 := fun hc a ha => by have := (rl1).rv.blk a ha hc; omega
      refine wl_assign rfl rfl (by decide) ?_
      refine wl_nil ?_
      refine eo_then ?_
      refine cw_seq ?_
      refine cw_region ?_
      refine wl_move rfl rfl (by decide) ?_
      refine wl_move rfl rfl (by decide) ?_
      refine wl_call rfl rfl (vs := [.slice D m cd, .int .u64 ((f : Nat) : Int)]) (by kernel_rfl) (by decide) (ref3_scaled (rl1.ext e4) (by omega) hwe hf2) ?_
      rintro _ v10 ⟨xr12, rfl, r12, e11⟩
      refine ret_intro ?_
      have hw3 : Ext w v10 := hw2.trans e11
      obtain ⟨g13, l13, rfl, gb13, hb13, hl13, hwf13, hnv13⟩ := r12
      have ge14 : w.heap.size ≤ g13 := Nat.le_trans hw2.size gb13
      have q15 : g6 < g13 := Nat.lt_of_lt_of_le hb6.lt gb13
      have ne16 : 0 < cap → ∀ a, A = some a → a.block ≠ g13 := fun hc a ha => by have := ((rl0.ext e4)).rv.blk a ha hc; omega
      have ne17 : 0 < cd → ∀ a, D = some a → a.block ≠ g13 := fun hc a ha => by have := ((rl1.ext e4)).rv.blk a ha hc; omega
      refine wl_assign rfl rfl (by decide) ?_
      refine wl_nil ?_
      refine eo_then ?_
      refine cw_seq ?_
      refine cw_region ?_
      refine wl_move rfl rfl (by decide) ?_
      refine wl_call rfl rfl (vs := [.slice (some ⟨g13, 0, none⟩) (m + 1) (m + 1)]) (by kernel_rfl) (by decide) (ref3_Trim (hb13.rd0 hwf13.wf hl13 (by omega)) (by omega)) ?_
      rintro _ v18 ⟨xr20, rfl, r20, e19⟩
      refine ret_intro ?_
      have hw4 : Ext w v18 := hw3.trans e19
      obtain ⟨k21, rfl, hk21, ht21, hv21⟩ := r20
      refine wl_assign rfl rfl (by decide) ?_
      refine wl_nil ?_
      refine eo_then ?_
      refine cw_seq ?_
      have hD := hnv13
      have hvd := hv21 4294967296
      have hY0 := nb_pos_of_top (b := 4294967296) (by decide) (by omega) hlem htop
      have hDp : 0 < nb 4294967296 l13 := by rw [hD]; exact Nat.mul_pos hY0 hf1
      have hkp : 0 < k21 := by refine Nat.pos_of_ne_zero fun e => ?_; rw [e] at hvd; simp only [List.take_zero, nb_nil] at hvd; omega
      have hhd := dv_head hwf13 (by omega) hkp hvd
      have htopd := Wfb_getD (b := 4294967296) (by decide) hwf13 (k21 - 1)
      refine cw_region ?_
      refine wl_move rfl rfl (by decide) ?_
      refine wl_pure rfl rfl (v := .int .i64 ((n : Nat) : Int)) (by decide) (by kernel_rfl) ?_
      refine wl_move rfl rfl (by decide) ?_
      refine wl_pure rfl rfl (v := .int .i64 ((m : Nat) : Int)) (by decide) (by kernel_rfl) ?_
      refine wl_ar rfl rfl rfl ((n - m : Nat) : Int) (ai_sub (a := n) (b := m) rfl rfl (by omega) (by omega)) (by decide) ?_
      refine wl_ar rfl rfl rfl (((n - m) + 1 : Nat) : Int) (ai_add (a := n - m) (b := 1) rfl rfl (by omega)) (by decide) ?_
      refine wl_make rfl (k := (n - m) + 1) rfl rfl rfl un_u64 info64 rfl (by decide) (by omega) (by decide) fun g22 v23 hg24 hb25 e26 => ?_
      rw [replicate_W64] at hb25
      have ge27 : w.heap.size ≤ g22 := by rw [← hg24]; exact hw4.size
      have q29 : g6 < g22 := by rw [← hg24]; exact (hb6.ext (e11.trans e19)).lt
      have q30 : g13 < g22 := by rw [← hg24]; exact (hb13.ext e19).lt
      have ne31 : 0 < cap → ∀ a, A = some a → a.block ≠ g22 := fun hc a ha => by have := ((rl0.ext (e4.trans (e11.trans e19)))).rv.blk a ha hc; omega
      have ne32 : 0 < cd → ∀ a, D = some a → a.block ≠ g22 := fun hc a ha => by have := ((rl1.ext (e4.trans (e11.trans e19)))).rv.blk a ha hc; omega
      clear hg24
      have hw5 : Ext w v23 := hw4.trans e26
      refine wl_assign rfl rfl (by decide) ?_
      refine wl_nil ?_
      refine eo_then ?_
      refine cw_seq ?_
      refine cw_region ?_
      refine wl_move rfl rfl (by decide) ?_
      refine wl_move rfl rfl (by decide) ?_
      refine wl_pure rfl rfl (v := .int .i64 ((k21 : Nat) : Int)) (by decide) (by kernel_rfl) ?_
      refine wl_ar rfl rfl rfl ((k21 - 1 : Nat) : Int) (ai_sub (a := k21) (b := 1) rfl rfl (by omega) (by omega)) (by decide) ?_
      refine wl_idx rfl rfl rfl un_u64 sz_u64 (k21 - 1) rfl (by omega) ⟨g13, k21 - 1, none⟩ (arr_at _ _) (by decide) ?_
      refine wl_load rfl rfl (load_word ag_u64 (hb13.ext (e19.trans e26)) (by rw [hl13]; omega)) (by decide) ?_
      refine wl_ar rfl rfl rfl (((l13.getD (k21 - 1) 0) + 1 : Nat) : Int) (au_add (a := l13.getD (k21 - 1) 0) (b := 1) rfl rfl (by omega)) (by decide) ?_
      refine wl_assign rfl rfl (by decide) ?_
      refine wl_nil ?_
      refine eo_then ?_
      refine cw_seq ?_
      refine cw_seq ?_
      refine cw_region ?_
      refine wl_move rfl rfl (by decide) ?_
      refine wl_pure rfl rfl (v := .int .i64 ((n : Nat) : Int)) (by decide) (by kernel_rfl) ?_
      refine wl_move rfl rfl (by decide) ?_
      refine wl_pure rfl rfl (v := .int .i64 ((m : Nat) : Int)) (by decide) (by kernel_rfl) ?_
      refine wl_ar rfl rfl rfl ((n - m : Nat) : Int) (ai_sub (a := n) (b := m) rfl rfl (by omega) (by omega)) (by decide) ?_
      refine wl_assign rfl rfl (by decide) ?_
      refine wl_nil ?_
      refine eo_then ?_
      refine cw_block ?_
      refine cw_loop (T := World × Nat × Int × List Nat × List Nat)
        (fun ⟨wr, k, ii, lq, lr⟩ => [(6, .int .u64 ((f : Nat) : Int)), (7, .slice (some ⟨g6, 0, none⟩) (n + 1) (n + 1)), (8, .slice (some ⟨g13, 0, none⟩) k21 (m + 1)), (9, .slice (some ⟨g22, 0, none⟩) ((n - m) + 1) ((n - m) + 1)), (10, .int .u64 (((l13.getD (k21 - 1) 0) + 1 : Nat) : Int)), (11, .int .i64 ii)])
        (fun ⟨wr, k, ii, lq, lr⟩ => wr)
        (fun ⟨wr, k, ii, lq, lr⟩ => (Ext w wr) ∧ (k ≤ n - m + 1) ∧ (ii = (k : Int) - 1) ∧ (Bk wr g6 23 (lr.map W64)) ∧ (lr.length = n + 1) ∧ (Bk wr g13 23 (l13.map W64)) ∧ (Bk wr g22 23 (lq.map W64)) ∧ (lq.length = n - m + 1) ∧ (DO (nb 4294967296 xs * f) (nb 4294967296 l13) k lq lr))
        (fun ⟨wr, k, ii, lq, lr⟩ => k)
        (⟨v23, n - m + 1, _, _, _⟩ : World × Nat × Int × List Nat × List Nat) ⟨hw5, Nat.le_refl _, (by omega), (hb6.ext (e11.trans (e19.trans e26))), hl6, (hb13.ext (e19.trans e26)), hb25, (List.length_replicate (n := (n - m) + 1) (a := 0)), DO.start hwf6 hnv6 hD hf1 (by have := nb_lt hwx; rwa [hlen] at this) (nb_ge_of_top (by decide) (by omega) hlem htop) (by omega) (by omega)⟩ rfl ⟨rfl, rfl, rfl, rfl, rfl, rfl, trivial⟩ ?_
      rintro ⟨wr, k, ii, lq, lr⟩ ⟨hw1, hk, hii, hbr, hlr, hbd, hbq, hlq, hO⟩
      refine cw_re [(6, .int .u64 ((f : Nat) : Int)), (7, .slice (some ⟨g6, 0, none⟩) (n + 1) (n + 1)), (8, .slice (some ⟨g13, 0, none⟩) k21 (m + 1)), (9, .slice (some ⟨g22, 0, none⟩) ((n - m) + 1) ((n - m) + 1)), (10, .int .u64 (((l13.getD (k21 - 1) 0) + 1 : Nat) : Int)), (11, .int .i64 ii)] wr rfl ⟨rfl, rfl, rfl, rfl, rfl, rfl, trivial⟩ ?_
      refine cw_seq ?_
      refine cw_seq ?_
      by_cases hk0 : 0 < k
      ·
        obtain ⟨j, rfl⟩ : ∃ j, k = j + 1 := ⟨k - 1, by omega⟩
        obtain rfl : ii = (j : Int) := by omega
        refine cw_region ?_
        refine wl_move rfl rfl (by decide) ?_
        refine wl_cmp rfl rfl rfl true (cb_ge_t (a := j) (b := 0) rfl rfl (by omega)) (by decide) ?_
        refine wl_nil ?_
        refine eo_then ?_
        refine cw_true rfl ?_
        refine cw_skip ?_
        refine eo_then ?_
        refine cw_seq ?_
        refine cw_block ?_
        refine cw_block ?_
        have hE := hO.enter
        clear hO
        refine cw_loop (T := World × List Nat × List Nat)
          (fun ⟨wr, lq, lr⟩ => [(6, .int .u64 ((f : Nat) : Int)), (7, .slice (some ⟨g6, 0, none⟩) (n + 1) (n + 1)), (8, .slice (some ⟨g13, 0, none⟩) k21 (m + 1)), (9, .slice (some ⟨g22, 0, none⟩) ((n - m) + 1) ((n - m) + 1)), (10, .int .u64 (((l13.getD (k21 - 1) 0) + 1 : Nat) : Int)), (11, .int .i64 ((j : Nat) : Int))])
          (fun ⟨wr, lq, lr⟩ => wr)
          (fun ⟨wr, lq, lr⟩ => (Ext w wr) ∧ (Bk wr g6 23 (lr.map W64)) ∧ (lr.length = n + 1) ∧ (Bk wr g13 23 (l13.map W64)) ∧ (Bk wr g22 23 (lq.map W64)) ∧ (lq.length = n - m + 1) ∧ (DI (nb 4294967296 xs * f) (nb 4294967296 l13) j lq lr))
          (fun ⟨wr, lq, lr⟩ => nb 4294967296 lr)
          (⟨wr, _, _⟩ : World × List Nat × List Nat) ⟨hw1, hbr, hlr, hbd, hbq, hlq, hE⟩ rfl ⟨rfl, rfl, rfl, rfl, rfl, rfl, trivial⟩ ?_
        rintro ⟨wr, lq, lr⟩ ⟨hw1, hbr, hlr, hbd, hbq, hlq, hI⟩
        refine cw_re [(6, .int .u64 ((f : Nat) : Int)), (7, .slice (some ⟨g6, 0, none⟩) (n + 1) (n + 1)), (8, .slice (some ⟨g13, 0, none⟩) k21 (m + 1)), (9, .slice (some ⟨g22, 0, none⟩) ((n - m) + 1) ((n - m) + 1)), (10, .int .u64 (((l13.getD (k21 - 1) 0) + 1 : Nat) : Int)), (11, .int .i64 ((j : Nat) : Int))] wr rfl ⟨rfl, rfl, rfl, rfl, rfl, rfl, trivial⟩ ?_
        refine cw_block ?_
        refine cw_seq ?_
        have hwr := hI.wr
        have hb1 := Wfb_getD (b := 4294967296) (by decide) hwr ((j + k21) - 1)
        have hb2 := Wfb_getD (b := 4294967296) (by decide) hwr (j + k21)
        by_cases hjk : j + k21 < n + 1
        ·
          have hT := nb_digit2_le (b := 4294967296) (l := lr) (i := (j + k21) - 1) (i' := j + k21) (by omega) (by omega)
          refine cw_region ?_
          refine wl_move rfl rfl (by decide) ?_
          refine wl_move rfl rfl (by decide) ?_
          refine wl_move rfl rfl (by decide) ?_
          refine wl_pure rfl rfl (v := .int .i64 ((k21 : Nat) : Int)) (by decide) (by kernel_rfl) ?_
          refine wl_ar rfl rfl rfl ((j + k21 : Nat) : Int) (ai_add (a := j) (b := k21) rfl rfl (by omega)) (by decide) ?_
          refine wl_ar rfl rfl rfl (((j + k21) - 1 : Nat) : Int) (ai_sub (a := j + k21) (b := 1) rfl rfl (by omega) (by omega)) (by decide) ?_
          refine wl_idx rfl rfl rfl un_u64 sz_u64 ((j + k21) - 1) rfl (by omega) ⟨g6, (j + k21) - 1, none⟩ (arr_at _ _) (by decide) ?_
          refine wl_load rfl rfl (load_word ag_u64 hbr (by rw [hlr]; omega)) (by decide) ?_
          refine wl_assign rfl rfl (by decide) ?_
          refine wl_nil ?_
          refine eo_then ?_
          refine cw_seq ?_
          refine cw_seq ?_
          refine cw_region ?_
          refine wl_move rfl rfl (by decide) ?_
          refine wl_move rfl rfl (by decide) ?_
          refine wl_pure rfl rfl (v := .int .i64 ((k21 : Nat) : Int)) (by decide) (by kernel_rfl) ?_
          refine wl_ar rfl rfl rfl ((j + k21 : Nat) : Int) (ai_add (a := j) (b := k21) rfl rfl (by omega)) (by decide) ?_
          refine wl_move rfl rfl (by decide) ?_
          refine wl_pure rfl rfl (v := .int .i64 (((n + 1) : Nat) : Int)) (by decide) (by kernel_rfl) ?_
          refine wl_cmp rfl rfl rfl true (cb_lt_t (a := j + k21) (b := n + 1) rfl rfl (by omega)) (by decide) ?_
          refine wl_nil ?_
          refine eo_then ?_
          refine cw_true rfl ?_
          refine cw_region ?_
          refine wl_move rfl rfl (by decide) ?_
          refine wl_move rfl rfl (by decide) ?_
          refine wl_move rfl rfl (by decide) ?_
          refine wl_move rfl rfl (by decide) ?_
          refine wl_pure rfl rfl (v := .int .i64 ((k21 : Nat) : Int)) (by decide) (by kernel_rfl) ?_
          refine wl_ar rfl rfl rfl ((j + k21 : Nat) : Int) (ai_add (a := j) (b := k21) rfl rfl (by omega)) (by decide) ?_
          refine wl_idx rfl rfl rfl un_u64 sz_u64 (j + k21) rfl (by omega) ⟨g6, j + k21, none⟩ (arr_at _ _) (by decide) ?_
          refine wl_load rfl rfl (load_word ag_u64 hbr (by rw [hlr]; omega)) (by decide) ?_
          refine wl_ar rfl rfl rfl (((lr.getD (j + k21) 0) * 4294967296 : Nat) : Int) (au_mul (a := lr.getD (j + k21) 0) (b := 4294967296) rfl rfl (by omega)) (by decide) ?_
          refine wl_ar rfl rfl rfl (((lr.getD ((j + k21) - 1) 0) + ((lr.getD (j + k21) 0) * 4294967296) : Nat) : Int) (au_add (a := lr.getD ((j + k21) - 1) 0) (b := (lr.getD (j + k21) 0) * 4294967296) rfl rfl (by omega)) (by decide) ?_
          refine wl_assign rfl rfl (by decide) ?_
          refine wl_nil ?_
          refine eo_then ?_
          refine cw_seq ?_
          have hfit := dv_fit hhd hkp hT
          have hRlt : nb 4294967296 lr < nb 4294967296 l13 * 4294967296 ^ (j + 1) := Nat.lt_of_le_of_lt (Nat.le_add_left _ _) hI.lt
          by_cases hn0 : ((lr.getD ((j + k21) - 1) 0) + ((lr.getD (j + k21) 0) * 4294967296)) / ((l13.getD (k21 - 1) 0) + 1) = 0
          ·
            by_cases hgo : nb 4294967296 l13 * 4294967296 ^ j ≤ nb 4294967296 lr
            ·
              have hgo1 : 1 * nb 4294967296 l13 * 4294967296 ^ j ≤ nb 4294967296 lr := by rw [Nat.one_mul]; exact hgo
              refine cw_region ?_
              refine wl_move rfl rfl (by decide) ?_
              refine wl_move rfl rfl (by decide) ?_
              refine wl_ar rfl rfl rfl ((((lr.getD ((j + k21) - 1) 0) + ((lr.getD (j + k21) 0) * 4294967296)) / ((l13.getD (k21 - 1) 0) + 1) : Nat) : Int) (au_quo (a := (lr.getD ((j + k21) - 1) 0) + ((lr.getD (j + k21) 0) * 4294967296)) (b := (l13.getD (k21 - 1) 0) + 1) rfl rfl (by omega) (by omega)) (by decide) ?_
              refine wl_assign rfl rfl (by decide) ?_
              refine wl_nil ?_
              refine eo_then ?_
              refine cw_seq ?_
              refine cw_seq ?_
              refine cw_region ?_
              refine wl_move rfl rfl (by decide) ?_
              refine wl_cmp rfl rfl rfl true (cb_eq_t (a := ((lr.getD ((j + k21) - 1) 0) + ((lr.getD (j + k21) 0) * 4294967296)) / ((l13.getD (k21 - 1) 0) + 1)) (b := 0) rfl rfl (by omega)) (by decide) ?_
              refine wl_nil ?_
              refine eo_then ?_
              refine cw_true rfl ?_
              refine cw_seq ?_
              refine cw_region ?_
              refine wl_move rfl rfl (by decide) ?_
              refine wl_move rfl rfl (by decide) ?_
              refine wl_move rfl rfl (by decide) ?_
              refine wl_call rfl rfl (vs := [.slice (some ⟨g6, 0, none⟩) (n + 1) (n + 1), .slice (some ⟨g13, 0, none⟩) k21 (m + 1), .int .i64 ((j : Nat) : Int)]) (by kernel_rfl) (by decide) (ref3_goes' (b := true) (hbr.rd0 hwr.wf hlr (by omega)) (by omega) ((hbd.rd0 hwf13.wf hl13 (by omega)).take (k := k21) (by omega) (by omega) (Nat.le_refl _)) hwr (Wfb_take hwf13 _) (by omega) (dv_big hI rfl hwf13 hvd) (by rw [hvd, decide_eq_true hgo])) ?_
              rintro _ v33 ⟨xr35, rfl, r35, e34⟩
              refine ret_intro ?_
              have hw2 : Ext w v33 := hw1.trans e34
              obtain rfl := r35
              refine wl_assign rfl rfl (by decide) ?_
              refine wl_nil ?_
              refine eo_then ?_
              refine cw_seq ?_
              refine cw_seq ?_
              refine cw_region ?_
              refine wl_move rfl rfl (by decide) ?_
              refine wl_pure rfl rfl (v := .bool false) (by decide) (by kernel_rfl) ?_
              refine wl_nil ?_
              refine eo_then ?_
              refine cw_false rfl ?_
              refine cw_skip ?_
              refine eo_then ?_
              refine cw_region ?_
              refine wl_assign rfl rfl (by decide) ?_
              refine wl_nil ?_
              refine eo_then ?_
              refine cw_seq ?_
              refine cw_region ?_
              refine wl_move rfl rfl (by decide) ?_
              refine wl_move rfl rfl (by decide) ?_
              refine wl_move rfl rfl (by decide) ?_
              refine wl_move rfl rfl (by decide) ?_
              have hqlt := dv_lt hgo1 hRlt
              refine wl_call rfl rfl (vs := [.slice (some ⟨g6, 0, none⟩) (n + 1) (n + 1), .slice (some ⟨g13, 0, none⟩) k21 (m + 1), .int .u64 1, .int .i64 ((j : Nat) : Int)]) (by kernel_rfl) (by decide) (ref3_takeOff (q := 1) (s := j) (hbr.ext e34) hlr (by omega) hwr (((hbd.ext e34).rd0 hwf13.wf hl13 (by omega)).take (k := k21) (by omega) (by omega) (Nat.le_refl _)) (Wfb_take hwf13 _) (fun _ a ha => by cases ha; show g13 ≠ g6; omega) hqlt (by omega) (by rw [hvd]; exact hgo1)) ?_
              rintro _ v36 ⟨rfl, u37, l3, hb38, hl39, hwl3, hv3⟩
              rw [hvd] at hv3
              refine ret_intro ?_
              have hdg := hI.digit hv3
              have hw3 : Ext w v36 := u37.ext hw2 ge7
              refine wl_nil ?_
              refine eo_then ?_
              refine cw_region ?_
              refine wl_move rfl rfl (by decide) ?_
              refine wl_move rfl rfl (by decide) ?_
              refine wl_move rfl rfl (by decide) ?_
              refine wl_move rfl rfl (by decide) ?_
              refine wl_idx rfl rfl rfl un_u64 sz_u64 j rfl (by omega) ⟨g22, j, none⟩ (arr_at _ _) (by decide) ?_
              refine wl_load rfl rfl (load_word ag_u64 ((hbq.ext e34).updN u37 (by omega)) (by rw [hlq]; omega)) (by decide) ?_
              refine wl_move rfl rfl (by decide) ?_
              refine wl_ar rfl rfl rfl (((lq.getD j 0) + 1 : Nat) : Int) (au_add (a := lq.getD j 0) (b := 1) rfl rfl (by omega)) (by decide) ?_
              refine wl_idx rfl rfl rfl un_u64 sz_u64 j rfl (by omega) ⟨g22, j, none⟩ (arr_at _ _) (by decide) ?_
              have hb41 := ((hbq.ext e34).updN u37 (by omega))
              refine wl_stored1 rfl rfl rfl sz_u64 rfl hb41 (len_map (by rw [hlq]; omega)) rfl ((lq.set j ((lq.getD j 0) + 1)).map W64) (map_W64_set _ _ _) fun v40 hb42 u43 hs44 => ?_
              have hw4 : Ext w v40 := u43.ext hw3 ge27
              refine wl_nil ?_
              refine eo_block_normal ?_
              refine eo_round (⟨v40, _, _⟩ : World × List Nat × List Nat) ⟨hw4, (hb38.updN u43 (by omega)), hl39, (((hbd.ext e34).updN u37 (by omega)).updN u43 (by omega)), hb42, (len_set (l := lq) (hlq)), hI.step (by omega) hwl3 hv3⟩ (dv_less (Nat.le_refl 1) hDp hv3) rfl ⟨rfl, rfl, rfl, rfl, rfl, rfl, trivial⟩
            ·
              refine cw_region ?_
              refine wl_move rfl rfl (by decide) ?_
              refine wl_move rfl rfl (by decide) ?_
              refine wl_ar rfl rfl rfl ((((lr.getD ((j + k21) - 1) 0) + ((lr.getD (j + k21) 0) * 4294967296)) / ((l13.getD (k21 - 1) 0) + 1) : Nat) : Int) (au_quo (a := (lr.getD ((j + k21) - 1) 0) + ((lr.getD (j + k21) 0) * 4294967296)) (b := (l13.getD (k21 - 1) 0) + 1) rfl rfl (by omega) (by omega)) (by decide) ?_
              refine wl_assign rfl rfl (by decide) ?_
              refine wl_nil ?_
              refine eo_then ?_
              refine cw_seq ?_
              refine cw_seq ?_
              refine cw_region ?_
              refine wl_move rfl rfl (by decide) ?_
              refine wl_cmp rfl rfl rfl true (cb_eq_t (a := ((lr.getD ((j + k21) - 1) 0) + ((lr.getD (j + k21) 0) * 4294967296)) / ((l13.getD (k21 - 1) 0) + 1)) (b := 0) rfl rfl (by omega)) (by decide) ?_
              refine wl_nil ?_
              refine eo_then ?_
              refine cw_true rfl ?_
              refine cw_seq ?_
              refine cw_region ?_
              refine wl_move rfl rfl (by decide) ?_
              refine wl_move rfl rfl (by decide) ?_
              refine wl_move rfl rfl (by decide) ?_
              refine wl_call rfl rfl (vs := [.slice (some ⟨g6, 0, none⟩) (n + 1) (n + 1), .slice (some ⟨g13, 0, none⟩) k21 (m + 1), .int .i64 ((j : Nat) : Int)]) (by kernel_rfl) (by decide) (ref3_goes' (b := false) (hbr.rd0 hwr.wf hlr (by omega)) (by omega) ((hbd.rd0 hwf13.wf hl13 (by omega)).take (k := k21) (by omega) (by omega) (Nat.le_refl _)) hwr (Wfb_take hwf13 _) (by omega) (dv_big hI rfl hwf13 hvd) (by rw [hvd, decide_eq_false hgo])) ?_
              rintro _ v45 ⟨xr47, rfl, r47, e46⟩
              refine ret_intro ?_
              have hw2 : Ext w v45 := hw1.trans e46
              obtain rfl := r47
              refine wl_assign rfl rfl (by decide) ?_
              refine wl_nil ?_
              refine eo_then ?_
              refine cw_seq ?_
              refine cw_seq ?_
              refine cw_region ?_
              refine wl_move rfl rfl (by decide) ?_
              refine wl_pure rfl rfl (v := .bool true) (by decide) (by kernel_rfl) ?_
              refine wl_nil ?_
              refine eo_then ?_
              refine cw_true rfl ?_
              refine cw_exit ?_
              refine eo_thenX ?_
              refine eo_thenX ?_
              refine eo_block_far (by decide) ?_
              refine eo_loopX ?_
              refine eo_block_here ?_
              refine eo_block_normal ?_
              refine eo_then ?_
              refine cw_region ?_
              refine wl_move rfl rfl (by decide) ?_
              refine wl_ar rfl rfl rfl (((j : Nat) : Int) - 1) (ar_i64s rfl (by omega) (by omega)) (by decide) ?_
              refine wl_assign rfl rfl (by decide) ?_
              refine wl_nil ?_
              refine eo_round (⟨v45, j, _, _, _⟩ : World × Nat × Int × List Nat × List Nat) ⟨hw2, (by omega), (by omega), (hbr.ext e46), hlr, (hbd.ext e46), (hbq.ext e46), hlq, hI.leave hgo⟩ (show j < j + 1 by omega) rfl ⟨rfl, rfl, rfl, rfl, rfl, rfl, trivial⟩
          ·
            refine cw_region ?_
            refine wl_move rfl rfl (by decide) ?_
            refine wl_move rfl rfl (by decide) ?_
            refine wl_ar rfl rfl rfl ((((lr.getD ((j + k21) - 1) 0) + ((lr.getD (j + k21) 0) * 4294967296)) / ((l13.getD (k21 - 1) 0) + 1) : Nat) : Int) (au_quo (a := (lr.getD ((j + k21) - 1) 0) + ((lr.getD (j + k21) 0) * 4294967296)) (b := (l13.getD (k21 - 1) 0) + 1) rfl rfl (by omega) (by omega)) (by decide) ?_
            refine wl_assign rfl rfl (by decide) ?_
            refine wl_nil ?_
            refine eo_then ?_
            refine cw_seq ?_
            refine cw_seq ?_
            refine cw_region ?_
            refine wl_move rfl rfl (by decide) ?_
            refine wl_cmp rfl rfl rfl false (cb_eq_f (a := ((lr.getD ((j + k21) - 1) 0) + ((lr.getD (j + k21) 0) * 4294967296)) / ((l13.getD (k21 - 1) 0) + 1)) (b := 0) rfl rfl (by omega)) (by decide) ?_
            refine wl_nil ?_
            refine eo_then ?_
            refine cw_false rfl ?_
            refine cw_skip ?_
            refine eo_then ?_
            refine cw_seq ?_
            refine cw_region ?_
            refine wl_move rfl rfl (by decide) ?_
            refine wl_move rfl rfl (by decide) ?_
            refine wl_move rfl rfl (by decide) ?_
            refine wl_move rfl rfl (by decide) ?_
            have hqlt := dv_lt hfit hRlt
            refine wl_call rfl rfl (vs := [.slice (some ⟨g6, 0, none⟩) (n + 1) (n + 1), .slice (some ⟨g13, 0, none⟩) k21 (m + 1), .int .u64 ((((lr.getD ((j + k21) - 1) 0) + ((lr.getD (j + k21) 0) * 4294967296)) / ((l13.getD (k21 - 1) 0) + 1) : Nat) : Int), .int .i64 ((j : Nat) : Int)]) (by kernel_rfl) (by decide) (ref3_takeOff (q := ((lr.getD ((j + k21) - 1) 0) + ((lr.getD (j + k21) 0) * 4294967296)) / ((l13.getD (k21 - 1) 0) + 1)) (s := j) hbr hlr (by omega) hwr ((hbd.rd0 hwf13.wf hl13 (by omega)).take (k := k21) (by omega) (by omega) (Nat.le_refl _)) (Wfb_take hwf13 _) (fun _ a ha => by cases ha; show g13 ≠ g6; omega) hqlt (by omega) (by rw [hvd]; exact hfit)) ?_
            rintro _ v48 ⟨rfl, u49, l3, hb50, hl51, hwl3, hv3⟩
            rw [hvd] at hv3
            refine ret_intro ?_
            have hdg := hI.digit hv3
            have hw2 : Ext w v48 := u49.ext hw1 ge7
            refine wl_nil ?_
            refine eo_then ?_
            refine cw_region ?_
            refine wl_move rfl rfl (by decide) ?_
            refine wl_move rfl rfl (by decide) ?_
            refine wl_move rfl rfl (by decide) ?_
            refine wl_move rfl rfl (by decide) ?_
            refine wl_idx rfl rfl rfl un_u64 sz_u64 j rfl (by omega) ⟨g22, j, none⟩ (arr_at _ _) (by decide) ?_
            refine wl_load rfl rfl (load_word ag_u64 (hbq.updN u49 (by omega)) (by rw [hlq]; omega)) (by decide) ?_
            refine wl_move rfl rfl (by decide) ?_
            refine wl_ar rfl rfl rfl (((lq.getD j 0) + (((lr.getD ((j + k21) - 1) 0) + ((lr.getD (j + k21) 0) * 4294967296)) / ((l13.getD (k21 - 1) 0) + 1)) : Nat) : Int) (au_add (a := lq.getD j 0) (b := ((lr.getD ((j + k21) - 1) 0) + ((lr.getD (j + k21) 0) * 4294967296)) / ((l13.getD (k21 - 1) 0) + 1)) rfl rfl (by omega)) (by decide) ?_
            refine wl_idx rfl rfl rfl un_u64 sz_u64 j rfl (by omega) ⟨g22, j, none⟩ (arr_at _ _) (by decide) ?_
            have hb53 := (hbq.updN u49 (by omega))
            refine wl_stored1 rfl rfl rfl sz_u64 rfl hb53 (len_map (by rw [hlq]; omega)) rfl ((lq.set j ((lq.getD j 0) + (((lr.getD ((j + k21) - 1) 0) + ((lr.getD (j + k21) 0) * 4294967296)) / ((l13.getD (k21 - 1) 0) + 1)))).map W64) (map_W64_set _ _ _) fun v52 hb54 u55 hs56 => ?_
            have hw3 : Ext w v52 := u55.ext hw2 ge27
            refine wl_nil ?_
            refine eo_block_normal ?_
            refine eo_round (⟨v52, _, _⟩ : World × List Nat × List Nat) ⟨hw3, (hb50.updN u55 (by omega)), hl51, ((hbd.updN u49 (by omega)).updN u55 (by omega)), hb54, (len_set (l := lq) (hlq)), hI.step (by omega) hwl3 hv3⟩ (dv_less (Nat.pos_of_ne_zero hn0) hDp hv3) rfl ⟨rfl, rfl, rfl, rfl, rfl, rfl, trivial⟩
        ·
          have hT := nb_digit_le (b := 4294967296) (l := lr) (i := (j + k21) - 1) (by omega)
          refine cw_region ?_
          refine wl_move rfl rfl (by decide) ?_
          refine wl_move rfl rfl (by decide) ?_
          refine wl_move rfl rfl (by decide) ?_
          refine wl_pure rfl rfl (v := .int .i64 ((k21 : Nat) : Int)) (by decide) (by kernel_rfl) ?_
          refine wl_ar rfl rfl rfl ((j + k21 : Nat) : Int) (ai_add (a := j) (b := k21) rfl rfl (by omega)) (by decide) ?_
          refine wl_ar rfl rfl rfl (((j + k21) - 1 : Nat) : Int) (ai_sub (a := j + k21) (b := 1) rfl rfl (by omega) (by omega)) (by decide) ?_
          refine wl_idx rfl rfl rfl un_u64 sz_u64 ((j + k21) - 1) rfl (by omega) ⟨g6, (j + k21) - 1, none⟩ (arr_at _ _) (by decide) ?_
          refine wl_load rfl rfl (load_word ag_u64 hbr (by rw [hlr]; omega)) (by decide) ?_
          refine wl_assign rfl rfl (by decide) ?_
          refine wl_nil ?_
          refine eo_then ?_
          refine cw_seq ?_
          refine cw_seq ?_
          refine cw_region ?_
          refine wl_move rfl rfl (by decide) ?_
          refine wl_move rfl rfl (by decide) ?_
          refine wl_pure rfl rfl (v := .int .i64 ((k21 : Nat) : Int)) (by decide) (by kernel_rfl) ?_
          refine wl_ar rfl rfl rfl ((j + k21 : Nat) : Int) (ai_add (a := j) (b := k21) rfl rfl (by omega)) (by decide) ?_
          refine wl_move rfl rfl (by decide) ?_
          refine wl_pure rfl rfl (v := .int .i64 (((n + 1) : Nat) : Int)) (by decide) (by kernel_rfl) ?_
          refine wl_cmp rfl rfl rfl false (cb_lt_f (a := j + k21) (b := n + 1) rfl rfl (by omega)) (by decide) ?_
          refine wl_nil ?_
          refine eo_then ?_
          refine cw_false rfl ?_
          refine cw_skip ?_
          refine eo_then ?_
          refine cw_seq ?_
          have hfit := dv_fit hhd hkp hT
          have hRlt : nb 4294967296 lr < nb 4294967296 l13 * 4294967296 ^ (j + 1) := Nat.lt_of_le_of_lt (Nat.le_add_left _ _) hI.lt
          by_cases hn0 : (lr.getD ((j + k21) - 1) 0) / ((l13.getD (k21 - 1) 0) + 1) = 0
          ·
            by_cases hgo : nb 4294967296 l13 * 4294967296 ^ j ≤ nb 4294967296 lr
            ·
              have hgo1 : 1 * nb 4294967296 l13 * 4294967296 ^ j ≤ nb 4294967296 lr := by rw [Nat.one_mul]; exact hgo
              refine cw_region ?_
              refine wl_move rfl rfl (by decide) ?_
              refine wl_move rfl rfl (by decide) ?_
              refine wl_ar rfl rfl rfl (((lr.getD ((j + k21) - 1) 0) / ((l13.getD (k21 - 1) 0) + 1) : Nat) : Int) (au_quo (a := lr.getD ((j + k21) - 1) 0) (b := (l13.getD (k21 - 1) 0) + 1) rfl rfl (by omega) (by omega)) (by decide) ?_
              refine wl_assign rfl rfl (by decide) ?_
              refine wl_nil ?_
              refine eo_then ?_
              refine cw_seq ?_
              refine cw_seq ?_
              refine cw_region ?_
              refine wl_move rfl rfl (by decide) ?_
              refine wl_cmp rfl rfl rfl true (cb_eq_t (a := (lr.getD ((j + k21) - 1) 0) / ((l13.getD (k21 - 1) 0) + 1)) (b := 0) rfl rfl (by omega)) (by decide) ?_
              refine wl_nil ?_
              refine eo_then ?_
              refine cw_true rfl ?_
              refine cw_seq ?_
              refine cw_region ?_
              refine wl_move rfl rfl (by decide) ?_
              refine wl_move rfl rfl (by decide) ?_
              refine wl_move rfl rfl (by decide) ?_
              refine wl_call rfl rfl (vs := [.slice (some ⟨g6, 0, none⟩) (n + 1) (n + 1), .slice (some ⟨g13, 0, none⟩) k21 (m + 1), .int .i64 ((j : Nat) : Int)]) (by kernel_rfl) (by decide) (ref3_goes' (b := true) (hbr.rd0 hwr.wf hlr (by omega)) (by omega) ((hbd.rd0 hwf13.wf hl13 (by omega)).take (k := k21) (by omega) (by omega) (Nat.le_refl _)) hwr (Wfb_take hwf13 _) (by omega) (dv_big hI rfl hwf13 hvd) (by rw [hvd, decide_eq_true hgo])) ?_
              rintro _ v57 ⟨xr59, rfl, r59, e58⟩
              refine ret_intro ?_
              have hw2 : Ext w v57 := hw1.trans e58
              obtain rfl := r59
              refine wl_assign rfl rfl (by decide) ?_
              refine wl_nil ?_
              refine eo_then ?_
              refine cw_seq ?_
              refine cw_seq ?_
              refine cw_region ?_
              refine wl_move rfl rfl (by decide) ?_
              refine wl_pure rfl rfl (v := .bool false) (by decide) (by kernel_rfl) ?_
              refine wl_nil ?_
              refine eo_then ?_
              refine cw_false rfl ?_
              refine cw_skip ?_
              refine eo_then ?_
              refine cw_region ?_
              refine wl_assign rfl rfl (by decide) ?_
              refine wl_nil ?_
              refine eo_then ?_
              refine cw_seq ?_
              refine cw_region ?_
              refine wl_move rfl rfl (by decide) ?_
              refine wl_move rfl rfl (by decide) ?_
              refine wl_move rfl rfl (by decide) ?_
              refine wl_move rfl rfl (by decide) ?_
              have hqlt := dv_lt hgo1 hRlt
              refine wl_call rfl rfl (vs := [.slice (some ⟨g6, 0, none⟩) (n + 1) (n + 1), .slice (some ⟨g13, 0, none⟩) k21 (m + 1), .int .u64 1, .int .i64 ((j : Nat) : Int)]) (by kernel_rfl) (by decide) (ref3_takeOff (q := 1) (s := j) (hbr.ext e58) hlr (by omega) hwr (((hbd.ext e58).rd0 hwf13.wf hl13 (by omega)).take (k := k21) (by omega) (by omega) (Nat.le_refl _)) (Wfb_take hwf13 _) (fun _ a ha => by cases ha; show g13 ≠ g6; omega) hqlt (by omega) (by rw [hvd]; exact hgo1)) ?_
              rintro _ v60 ⟨rfl, u61, l3, hb62, hl63, hwl3, hv3⟩
              rw [hvd] at hv3
              refine ret_intro ?_
              have hdg := hI.digit hv3
              have hw3 : Ext w v60 := u61.ext hw2 ge7
              refine wl_nil ?_
              refine eo_then ?_
              refine cw_region ?_
              refine wl_move rfl rfl (by decide) ?_
              refine wl_move rfl rfl (by decide) ?_
              refine wl_move rfl rfl (by decide) ?_
              refine wl_move rfl rfl (by decide) ?_
              refine wl_idx rfl rfl rfl un_u64 sz_u64 j rfl (by omega) ⟨g22, j, none⟩ (arr_at _ _) (by decide) ?_
              refine wl_load rfl rfl (load_word ag_u64 ((hbq.ext e58).updN u61 (by omega)) (by rw [hlq]; omega)) (by decide) ?_
              refine wl_move rfl rfl (by decide) ?_
              refine wl_ar rfl rfl rfl (((lq.getD j 0) + 1 : Nat) : Int) (au_add (a := lq.getD j 0) (b := 1) rfl rfl (by omega)) (by decide) ?_
              refine wl_idx rfl rfl rfl un_u64 sz_u64 j rfl (by omega) ⟨g22, j, none⟩ (arr_at _ _) (by decide) ?_
              have hb65 := ((hbq.ext e58).updN u61 (by omega))
              refine wl_stored1 rfl rfl rfl sz_u64 rfl hb65 (len_map (by rw [hlq]; omega)) rfl ((lq.set j ((lq.getD j 0) + 1)).map W64) (map_W64_set _ _ _) fun v64 hb66 u67 hs68 => ?_
              have hw4 : Ext w v64 := u67.ext hw3 ge27
              refine wl_nil ?_
              refine eo_block_normal ?_
              refine eo_round (⟨v64, _, _⟩ : World × List Nat × List Nat) ⟨hw4, (hb62.updN u67 (by omega)), hl63, (((hbd.ext e58).updN u61 (by omega)).updN u67 (by omega)), hb66, (len_set (l := lq) (hlq)), hI.step (by omega) hwl3 hv3⟩ (dv_less (Nat.le_refl 1) hDp hv3) rfl ⟨rfl, rfl, rfl, rfl, rfl, rfl, trivial⟩
            ·
              refine cw_region ?_
              refine wl_move rfl rfl (by decide) ?_
              refine wl_move rfl rfl (by decide) ?_
              refine wl_ar rfl rfl rfl (((lr.getD ((j + k21) - 1) 0) / ((l13.getD (k21 - 1) 0) + 1) : Nat) : Int) (au_quo (a := lr.getD ((j + k21) - 1) 0) (b := (l13.getD (k21 - 1) 0) + 1) rfl rfl (by omega) (by omega)) (by decide) ?_
              refine wl_assign rfl rfl (by decide) ?_
              refine wl_nil ?_
              refine eo_then ?_
              refine cw_seq ?_
              refine cw_seq ?_
              refine cw_region ?_
              refine wl_move rfl rfl (by decide) ?_
              refine wl_cmp rfl rfl rfl true (cb_eq_t (a := (lr.getD ((j + k21) - 1) 0) / ((l13.getD (k21 - 1) 0) + 1)) (b := 0) rfl rfl (by omega)) (by decide) ?_
              refine wl_nil ?_
              refine eo_then ?_
              refine cw_true rfl ?_
              refine cw_seq ?_
              refine cw_region ?_
              refine wl_move rfl rfl (by decide) ?_
              refine wl_move rfl rfl (by decide) ?_
              refine wl_move rfl rfl (by decide) ?_
              refine wl_call rfl rfl (vs := [.slice (some ⟨g6, 0, none⟩) (n + 1) (n + 1), .slice (some ⟨g13, 0, none⟩) k21 (m + 1), .int .i64 ((j : Nat) : Int)]) (by kernel_rfl) (by decide) (ref3_goes' (b := false) (hbr.rd0 hwr.wf hlr (by omega)) (by omega) ((hbd.rd0 hwf13.wf hl13 (by omega)).take (k := k21) (by omega) (by omega) (Nat.le_refl _)) hwr (Wfb_take hwf13 _) (by omega) (dv_big hI rfl hwf13 hvd) (by rw [hvd, decide_eq_false hgo])) ?_
              rintro _ v69 ⟨xr71, rfl, r71, e70⟩
              refine ret_intro ?_
              have hw2 : Ext w v69 := hw1.trans e70
              obtain rfl := r71
              refine wl_assign rfl rfl (by decide) ?_
              refine wl_nil ?_
              refine eo_then ?_
              refine cw_seq ?_
              refine cw_seq ?_
              refine cw_region ?_
              refine wl_move rfl rfl (by decide) ?_
              refine wl_pure rfl rfl (v := .bool true) (by decide) (by kernel_rfl) ?_
              refine wl_nil ?_
              refine eo_then ?_
              refine cw_true rfl ?_
              refine cw_exit ?_
              refine eo_thenX ?_
              refine eo_thenX ?_
              refine eo_block_far (by decide) ?_
              refine eo_loopX ?_
              refine eo_block_here ?_
              refine eo_block_normal ?_
              refine eo_then ?_
              refine cw_region ?_
              refine wl_move rfl rfl (by decide) ?_
              refine wl_ar rfl rfl rfl (((j : Nat) : Int) - 1) (ar_i64s rfl (by omega) (by omega)) (by decide) ?_
              refine wl_assign rfl rfl (by decide) ?_
              refine wl_nil ?_
              refine eo_round (⟨v69, j, _, _, _⟩ : World × Nat × Int × List Nat × List Nat) ⟨hw2, (by omega), (by omega), (hbr.ext e70), hlr, (hbd.ext e70), (hbq.ext e70), hlq, hI.leave hgo⟩ (show j < j + 1 by omega) rfl ⟨rfl, rfl, rfl, rfl, rfl, rfl, trivial⟩
          ·
            refine cw_region ?_
            refine wl_move rfl rfl (by decide) ?_
            refine wl_move rfl rfl (by decide) ?_
            refine wl_ar rfl rfl rfl (((lr.getD ((j + k21) - 1) 0) / ((l13.getD (k21 - 1) 0) + 1) : Nat) : Int) (au_quo (a := lr.getD ((j + k21) - 1) 0) (b := (l13.getD (k21 - 1) 0) + 1) rfl rfl (by omega) (by omega)) (by decide) ?_
            refine wl_assign rfl rfl (by decide) ?_
            refine wl_nil ?_
            refine eo_then ?_
            refine cw_seq ?_
            refine cw_seq ?_
            refine cw_region ?_
            refine wl_move rfl rfl (by decide) ?_
            refine wl_cmp rfl rfl rfl false (cb_eq_f (a := (lr.getD ((j + k21) - 1) 0) / ((l13.getD (k21 - 1) 0) + 1)) (b := 0) rfl rfl (by omega)) (by decide) ?_
            refine wl_nil ?_
            refine eo_then ?_
            refine cw_false rfl ?_
            refine cw_skip ?_
            refine eo_then ?_
            refine cw_seq ?_
            refine cw_region ?_
            refine wl_move rfl rfl (by decide) ?_
            refine wl_move rfl rfl (by decide) ?_
            refine wl_move rfl rfl (by decide) ?_
            refine wl_move rfl rfl (by decide) ?_
            have hqlt := dv_lt hfit hRlt
            refine wl_call rfl rfl (vs := [.slice (some ⟨g6, 0, none⟩) (n + 1) (n + 1), .slice (some ⟨g13, 0, none⟩) k21 (m + 1), .int .u64 (((lr.getD ((j + k21) - 1) 0) / ((l13.getD (k21 - 1) 0) + 1) : Nat) : Int), .int .i64 ((j : Nat) : Int)]) (by kernel_rfl) (by decide) (ref3_takeOff (q := (lr.getD ((j + k21) - 1) 0) / ((l13.getD (k21 - 1) 0) + 1)) (s := j) hbr hlr (by omega) hwr ((hbd.rd0 hwf13.wf hl13 (by omega)).take (k := k21) (by omega) (by omega) (Nat.le_refl _)) (Wfb_take hwf13 _) (fun _ a ha => by cases ha; show g13 ≠ g6; omega) hqlt (by omega) (by rw [hvd]; exact hfit)) ?_
            rintro _ v72 ⟨rfl, u73, l3, hb74, hl75, hwl3, hv3⟩
            rw [hvd] at hv3
            refine ret_intro ?_
            have hdg := hI.digit hv3
            have hw2 : Ext w v72 := u73.ext hw1 ge7
            refine wl_nil ?_
            refine eo_then ?_
            refine cw_region ?_
            refine wl_move rfl rfl (by decide) ?_
            refine wl_move rfl rfl (by decide) ?_
            refine wl_move rfl rfl (by decide) ?_
            refine wl_move rfl rfl (by decide) ?_
            refine wl_idx rfl rfl rfl un_u64 sz_u64 j rfl (by omega) ⟨g22, j, none⟩ (arr_at _ _) (by decide) ?_
            refine wl_load rfl rfl (load_word ag_u64 (hbq.updN u73 (by omega)) (by rw [hlq]; omega)) (by decide) ?_
            refine wl_move rfl rfl (by decide) ?_
            refine wl_ar rfl rfl rfl (((lq.getD j 0) + ((lr.getD ((j + k21) - 1) 0) / ((l13.getD (k21 - 1) 0) + 1)) : Nat) : Int) (au_add (a := lq.getD j 0) (b := (lr.getD ((j + k21) - 1) 0) / ((l13.getD (k21 - 1) 0) + 1)) rfl rfl (by omega)) (by decide) ?_
            refine wl_idx rfl rfl rfl un_u64 sz_u64 j rfl (by omega) ⟨g22, j, none⟩ (arr_at _ _) (by decide) ?_
            have hb77 := (hbq.updN u73 (by omega))
            refine wl_stored1 rfl rfl rfl sz_u64 rfl hb77 (len_map (by rw [hlq]; omega)) rfl ((lq.set j ((lq.getD j 0) + ((lr.getD ((j + k21) - 1) 0) / ((l13.getD (k21 - 1) 0) + 1)))).map W64) (map_W64_set _ _ _) fun v76 hb78 u79 hs80 => ?_
            have hw3 : Ext w v76 := u79.ext hw2 ge27
            refine wl_nil ?_
            refine eo_block_normal ?_
            refine eo_round (⟨v76, _, _⟩ : World × List Nat × List Nat) ⟨hw3, (hb74.updN u79 (by omega)), hl75, ((hbd.updN u73 (by omega)).updN u79 (by omega)), hb78, (len_set (l := lq) (hlq)), hI.step (by omega) hwl3 hv3⟩ (dv_less (Nat.pos_of_ne_zero hn0) hDp hv3) rfl ⟨rfl, rfl, rfl, rfl, rfl, rfl, trivial⟩
      ·
        obtain rfl : k = 0 := by omega
        refine cw_region ?_
        refine wl_move rfl rfl (by decide) ?_
        refine wl_cmp rfl rfl rfl false (ge_f (by omega)) (by decide) ?_
        refine wl_nil ?_
        refine eo_then ?_
        refine cw_false rfl ?_
        refine cw_exit ?_
        refine eo_thenX ?_
        refine eo_loopX ?_
        refine eo_block_here ?_
        refine eo_then ?_
        refine cw_seq ?_
        refine cw_region ?_
        refine wl_assign rfl rfl (by decide) ?_
        refine wl_nil ?_
        refine eo_then ?_
        refine cw_seq ?_
        refine cw_seq ?_
        refine cw_region ?_
        refine wl_move rfl rfl (by decide) ?_
        refine wl_pure rfl rfl (v := .int .i64 (((n + 1) : Nat) : Int)) (by decide) (by kernel_rfl) ?_
        refine wl_ar rfl rfl rfl (((n + 1) - 1 : Nat) : Int) (ai_sub (a := n + 1) (b := 1) rfl rfl (by omega) (by omega)) (by decide) ?_
        refine wl_assign rfl rfl (by decide) ?_
        refine wl_nil ?_
        refine eo_then ?_
        refine cw_block ?_
        refine cw_loop (T := World × Nat × Int × Nat × List Nat)
          (fun ⟨wr, k, ii, rest, l⟩ => [(6, .int .u64 ((f : Nat) : Int)), (7, .slice (some ⟨g6, 0, none⟩) (n + 1) (n + 1)), (9, .slice (some ⟨g22, 0, none⟩) ((n - m) + 1) ((n - m) + 1)), (15, .int .u64 ((rest : Nat) : Int)), (16, .int .i64 ii)])
          (fun ⟨wr, k, ii, rest, l⟩ => wr)
          (fun ⟨wr, k, ii, rest, l⟩ => (Ext w wr) ∧ (k ≤ n + 1) ∧ (ii = (k : Int) - 1) ∧ (Bk wr g6 23 (l.map W64)) ∧ (Bk wr g22 23 (lq.map W64)) ∧ (DF f lr k rest l))
          (fun ⟨wr, k, ii, rest, l⟩ => k)
          (⟨wr, n + 1, _, 0, lr⟩ : World × Nat × Int × Nat × List Nat) ⟨hw1, Nat.le_refl _, (by omega), hbr, hbq, DF.start hO.wr hf1 hlr⟩ rfl ⟨rfl, rfl, rfl, rfl, rfl, trivial⟩ ?_
        rintro ⟨wr, k, ii, rest, l⟩ ⟨hw1, hk, hii, hbr, hbq, hF⟩
        refine cw_re [(6, .int .u64 ((f : Nat) : Int)), (7, .slice (some ⟨g6, 0, none⟩) (n + 1) (n + 1)), (9, .slice (some ⟨g22, 0, none⟩) ((n - m) + 1) ((n - m) + 1)), (15, .int .u64 ((rest : Nat) : Int)), (16, .int .i64 ii)] wr rfl ⟨rfl, rfl, rfl, rfl, rfl, trivial⟩ ?_
        have hll := hF.len
        rw [hlr] at hll
        refine cw_seq ?_
        refine cw_seq ?_
        by_cases hk0 : 0 < k
        ·
          obtain ⟨j, rfl⟩ : ∃ j, k = j + 1 := ⟨k - 1, by omega⟩
          obtain rfl : ii = (j : Int) := by omega
          refine cw_region ?_
          refine wl_move rfl rfl (by decide) ?_
          refine wl_cmp rfl rfl rfl true (cb_ge_t (a := j) (b := 0) rfl rfl (by omega)) (by decide) ?_
          refine wl_nil ?_
          refine eo_then ?_
          refine cw_true rfl ?_
          refine cw_skip ?_
          refine eo_then ?_
          refine cw_seq ?_
          refine cw_block ?_
          refine cw_seq ?_
          have hdig := hF.digit
          have hb1 := Wfb_getD (b := 4294967296) (by decide) hF.wf j
          have hrf := hF.rf
          refine cw_region ?_
          refine wl_move rfl rfl (by decide) ?_
          refine wl_ar rfl rfl rfl ((rest * 4294967296 : Nat) : Int) (au_mul (a := rest) (b := 4294967296) rfl rfl (by omega)) (by decide) ?_
          refine wl_move rfl rfl (by decide) ?_
          refine wl_move rfl rfl (by decide) ?_
          refine wl_idx rfl rfl rfl un_u64 sz_u64 j rfl (by omega) ⟨g6, j, none⟩ (arr_at _ _) (by decide) ?_
          refine wl_load rfl rfl (load_word ag_u64 hbr (by rw [hll]; omega)) (by decide) ?_
          refine wl_ar rfl rfl rfl (((rest * 4294967296) + (l.getD j 0) : Nat) : Int) (au_add (a := rest * 4294967296) (b := l.getD j 0) rfl rfl (by omega)) (by decide) ?_
          refine wl_assign rfl rfl (by decide) ?_
          refine wl_nil ?_
          refine eo_then ?_
          refine cw_seq ?_
          refine cw_region ?_
          refine wl_move rfl rfl (by decide) ?_
          refine wl_move rfl rfl (by decide) ?_
          refine wl_move rfl rfl (by decide) ?_
          refine wl_move rfl rfl (by decide) ?_
          refine wl_ar rfl rfl rfl ((((rest * 4294967296) + (l.getD j 0)) / f : Nat) : Int) (au_quo (a := (rest * 4294967296) + (l.getD j 0)) (b := f) rfl rfl (by omega) (by omega)) (by decide) ?_
          refine wl_idx rfl rfl rfl un_u64 sz_u64 j rfl (by omega) ⟨g6, j, none⟩ (arr_at _ _) (by decide) ?_
          have hb82 := hbr
          refine wl_stored1 rfl rfl rfl sz_u64 rfl hb82 (len_map (by rw [hll]; omega)) rfl ((l.set j (((rest * 4294967296) + (l.getD j 0)) / f)).map W64) (map_W64_set _ _ _) fun v81 hb83 u84 hs85 => ?_
          have hw2 : Ext w v81 := u84.ext hw1 ge7
          refine wl_nil ?_
          refine eo_then ?_
          refine cw_region ?_
          refine wl_move rfl rfl (by decide) ?_
          refine wl_move rfl rfl (by decide) ?_
          refine wl_ar rfl rfl rfl ((((rest * 4294967296) + (l.getD j 0)) % f : Nat) : Int) (au_rem (a := (rest * 4294967296) + (l.getD j 0)) (b := f) rfl rfl (by omega)) (by decide) ?_
          refine wl_assign rfl rfl (by decide) ?_
          refine wl_nil ?_
          refine eo_block_normal ?_
          refine eo_then ?_
          refine cw_region ?_
          refine wl_move rfl rfl (by decide) ?_
          refine wl_ar rfl rfl rfl (((j : Nat) : Int) - 1) (ar_i64s rfl (by omega) (by omega)) (by decide) ?_
          refine wl_assign rfl rfl (by decide) ?_
          refine wl_nil ?_
          refine eo_round (⟨v81, j, _, _, _⟩ : World × Nat × Int × Nat × List Nat) ⟨hw2, (by omega), rfl, hb83, (hbq.updN u84 (by omega)), hF.step (by omega) hdig hf1⟩ (show j < j + 1 by omega) rfl ⟨rfl, rfl, rfl, rfl, rfl, trivial⟩
        ·
          obtain rfl : k = 0 := by omega
          refine cw_region ?_
          refine wl_move rfl rfl (by decide) ?_
          refine wl_cmp rfl rfl rfl false (ge_f (by omega)) (by decide) ?_
          refine wl_nil ?_
          refine eo_then ?_
          refine cw_false rfl ?_
          refine cw_exit ?_
          refine eo_thenX ?_
          refine eo_loopX ?_
          refine eo_block_here ?_
          refine eo_then ?_
          refine cw_seq ?_
          refine cw_region ?_
          refine wl_move rfl rfl (by decide) ?_
          refine wl_call rfl rfl (vs := [.slice (some ⟨g22, 0, none⟩) ((n - m) + 1) ((n - m) + 1)]) (by kernel_rfl) (by decide) (ref3_Trim (hbq.rd0 hO.wq.wf hlq (by omega)) (by omega)) ?_
          rintro _ v86 ⟨xr88, rfl, r88, e87⟩
          refine ret_intro ?_
          have hw2 : Ext w v86 := hw1.trans e87
          obtain ⟨k89, rfl, hk89, ht89, hv89⟩ := r88
          refine wl_move rfl rfl (by decide) ?_
          refine wl_call rfl rfl (vs := [.slice (some ⟨g6, 0, none⟩) (n + 1) (n + 1)]) (by kernel_rfl) (by decide) (ref3_Trim ((hbr.ext e87).rd0 hF.wf.wf hll (by omega)) (by omega)) ?_
          rintro _ v90 ⟨xr92, rfl, r92, e91⟩
          refine ret_intro ?_
          have hw3 : Ext w v90 := hw2.trans e91
          obtain ⟨k93, rfl, hk93, ht93, hv93⟩ := r92
          refine wl_assign rfl rfl (by decide) ?_
          refine wl_assign rfl rfl (by decide) ?_
          refine wl_nil ?_
          refine eo_then ?_
          refine cw_ret ?_
          refine eo_ret [.slice (some ⟨g22, 0, none⟩) k89 ((n - m) + 1), .slice (some ⟨g6, 0, none⟩) k93 (n + 1)] rfl ⟨rfl, rfl, trivial⟩ ?_
          obtain ⟨e1, e2⟩ := dv_done hO hD hF
          refine ⟨_, rfl, ⟨_, _, rfl, ⟨_, _, _, rfl, ?_⟩, ⟨_, _, _, rfl, ?_⟩⟩, hw3⟩
          · rw [← e1]; exact ((hbq.ext (e87.trans e91)).rd0 hO.wq.wf hlq (by omega)).trim hO.wq hk89 ht89 hv89
          · rw [← e2]; exact ((hbr.ext (e87.trans e91)).rd0 hF.wf.wf hll (by omega)).trim hF.wf hk93 ht93 hv93
end Go.Proofs.Ythggegdkpalgbaa

namespace Go.Proofs.Ythggegdkpalgbaa
open Go.RowKit
theorem ref3_words_ {w : World} {b : Nat} (hb : b ≤ w.heap.size) {A : Option Addr} {n cap m : Nat} (hx : Rd w A n cap (db 4294967296 m)) (hln : n ≤ 1099511627776) :
    Calls Try.prog 84 #[.slice A n cap] w (Gv w (WR b m)) := by
  have h := ref3_words hx hln (Wfb_db b32 _)
  rw [nb_db b32] at h
  exact h.mono (Gv.imp (WR.imp hb))
theorem ref3_divide_ {w : World} {A D : Option Addr} {n cap m cd X Y : Nat} (hx : Rd w A n cap (db 4294967296 X)) (hln : n ≤ 274877906944) (hy : Rd w D m cd (db 4294967296 Y)) (hlm : m ≤ 274877906944) (hY : Y ≠ 0) :
    Calls Try.prog 83 #[.slice A n cap, .slice D m cd] w (Gv w (T2 (WD (X / Y)) (WD (X % Y)))) := by
  have hl := hx.len
  have hl2 := hy.len
  have h1 := db_top b32 X
  have h2 := db_top b32 Y
  rw [hl] at h1
  rw [hl2] at h2
  have hm : 0 < m := by
    refine Nat.pos_of_ne_zero fun e => hY ?_
    rw [← len_db_zero b32 (n := Y), hl2, e]
  have h := ref3_divide hx hln hy hlm (Wfb_db b32 _) (Wfb_db b32 _) h1 hm (by omega)
  rw [nb_db b32, nb_db b32] at h
  exact h
theorem len_db32 {xs : List Nat} (h : Wf xs) : (db 4294967296 (nv xs)).length ≤ 2 * xs.length := by
  refine len_db_le b32 ?_
  have := nv_lt h
  rwa [WB_32, ← Nat.pow_mul] at this
theorem Rd.hl {w : World} {A : Option Addr} {c k : Nat} {xs : List Nat} {m : Nat} {w0 : World} {A0 : Option Addr} {n0 c0 : Nat} (h : Rd w A k c (db 4294967296 m)) (hx : Rd w0 A0 n0 c0 xs) (hm : m ≤ nv xs) : k ≤ 2 * n0 := by
  have h1 := h.len
  have h2 := len_db32 hx.wf
  rw [hx.len] at h2
  have h3 := len_db_mono b32 hm
  omega
set_option maxHeartbeats 4000000 in
theorem ref3_DivMod_ok {w : World} {A D : Option Addr} {n cap m cd : Nat} {xs ys : List Nat} (hx : Rd w A n cap xs) (hln : n ≤ 137438953472) (hy : Rd w D m cd ys) (hlm : m ≤ 137438953472) (hy0 : nv ys ≠ 0) :
    Calls Try.prog 57 #[.slice A n cap, .slice D m cd] w (Gv w (T3 (WR w.heap.size (nv xs / nv ys)) (WR w.heap.size (nv xs % nv ys)) (Is (.int .i64 0)))) := by
  refine sx_enter Try.func57 rfl (n := 28) rfl (Nat.le_of_ble_eq_true rfl) (args := [.slice A n cap, .slice D m cd]) ?_
  refine cw_keep [(0, .slice A n cap), (1, .slice D m cd)] ⟨rfl, rfl, trivial⟩ ?_
  refine cw_seq ?_
  refine cw_region ?_
  refine wl_assign rfl rfl (by decide) ?_
  refine wl_assign rfl rfl (by decide) ?_
  refine wl_assign rfl rfl (by decide) ?_
  refine wl_nil ?_
  refine eo_then ?_
  refine cw_seq ?_
  refine cw_region ?_
  refine wl_move rfl rfl (by decide) ?_
  refine wl_call rfl rfl (vs := [.slice D m cd]) (by kernel_rfl) (by decide) (ref3_halves hy (by omega)) ?_
  rintro _ v1 ⟨xr3, rfl, r3, e2⟩
  refine ret_intro ?_
  have hw1 : Ext w v1 := (Ext.refl w).trans e2
  obtain ⟨A4, n4, c4, rfl, rd4⟩ := r3
  refine wl_assign rfl rfl (by decide) ?_
  refine wl_nil ?_
  refine eo_then ?_
  refine cw_seq ?_
  refine cw_seq ?_
  have hdl := rd4.hl hy (Nat.le_refl _)
  have hlz := rd4.len
  have hlp : n4 ≠ 0 := fun e => hy0 (by rw [← len_db_zero b32 (n := nv ys), hlz, e])
  refine cw_region ?_
  refine wl_move rfl rfl (by decide) ?_
  refine wl_pure rfl rfl (v := .int .i64 ((n4 : Nat) : Int)) (by decide) (by kernel_rfl) ?_
  refine wl_cmp rfl rfl rfl false (cb_eq_f (a := n4) (b := 0) rfl rfl (by omega)) (by decide) ?_
  refine wl_nil ?_
  refine eo_then ?_
  refine cw_false rfl ?_
  refine cw_skip ?_
  refine eo_then ?_
  refine cw_seq ?_
  refine cw_region ?_
  refine wl_move rfl rfl (by decide) ?_
  refine wl_call rfl rfl (vs := [.slice A n cap]) (by kernel_rfl) (by decide) (ref3_halves (hx.ext e2) (by omega)) ?_
  rintro _ v5 ⟨xr7, rfl, r7, e6⟩
  refine ret_intro ?_
  have hw2 : Ext w v5 := hw1.trans e6
  obtain ⟨A8, n8, c8, rfl, rd8⟩ := r7
  refine wl_assign rfl rfl (by decide) ?_
  refine wl_nil ?_
  refine eo_then ?_
  refine cw_seq ?_
  have hdl2 := rd8.hl hx (Nat.le_refl _)
  refine cw_region ?_
  refine wl_move rfl rfl (by decide) ?_
  refine wl_move rfl rfl (by decide) ?_
  refine wl_call rfl rfl (vs := [.slice A8 n8 c8, .slice A4 n4 c4]) (by kernel_rfl) (by decide) (ref3_divide_ rd8 (by omega) (rd4.ext e6) (by omega) hy0) ?_
  rintro _ v9 ⟨xr11, rfl, r11, e10⟩
  refine ret_intro ?_
  have hw3 : Ext w v9 := hw2.trans e10
  obtain ⟨a12_0, a12_1, rfl, r12_0, r12_1⟩ := r11
  obtain ⟨A13, n13, c13, rfl, rd13⟩ := r12_0
  obtain ⟨A14, n14, c14, rfl, rd14⟩ := r12_1
  refine wl_move rfl rfl (by decide) ?_
  refine wl_pure rfl rfl (v := .slice A13 n13 c13) (by decide) (by kernel_rfl) ?_
  refine wl_pure rfl rfl (v := .slice A14 n14 c14) (by decide) (by kernel_rfl) ?_
  refine wl_assign rfl rfl (by decide) ?_
  refine wl_assign rfl rfl (by decide) ?_
  refine wl_nil ?_
  refine eo_then ?_
  refine cw_seq ?_
  have hdl3 := rd13.hl hx (Nat.div_le_self _ _)
  have hdl4 := rd14.hl hx (Nat.mod_le _ _)
  refine cw_region ?_
  refine wl_move rfl rfl (by decide) ?_
  refine wl_call rfl rfl (vs := [.slice A13 n13 c13]) (by kernel_rfl) (by decide) (ref3_words_ hw3.size rd13 (by omega)) ?_
  rintro _ v15 ⟨xr17, rfl, r17, e16⟩
  refine ret_intro ?_
  have hw4 : Ext w v15 := hw3.trans e16
  obtain ⟨A18, n18, c18, rfl, j18, o18⟩ := r17
  refine wl_move rfl rfl (by decide) ?_
  refine wl_call rfl rfl (vs := [.slice A14 n14 c14]) (by kernel_rfl) (by decide) (ref3_words_ hw4.size (rd14.ext e16) (by omega)) ?_
  rintro _ v19 ⟨xr21, rfl, r21, e20⟩
  refine ret_intro ?_
  have hw5 : Ext w v19 := hw4.trans e20
  obtain ⟨A22, n22, c22, rfl, j22, o22⟩ := r21
  refine wl_assign rfl rfl (by decide) ?_
  refine wl_assign rfl rfl (by decide) ?_
  refine wl_assign rfl rfl (by decide) ?_
  refine wl_nil ?_
  refine eo_then ?_
  refine cw_ret ?_
  refine eo_ret [.slice A18 n18 c18, .slice A22 n22 c22, .int .i64 0] rfl ⟨rfl, rfl, rfl, trivial⟩ ?_
  exact ⟨_, rfl, ⟨_, _, _, rfl, ⟨_, _, _, rfl, j18, (o18.ext e20)⟩, ⟨_, _, _, rfl, j22, o22⟩, rfl⟩, hw5⟩
set_option maxHeartbeats 4000000 in
theorem ref3_DivMod_bad {w : World} {A D : Option Addr} {n cap m cd : Nat} {xs ys : List Nat} (hy : Rd w D m cd ys) (hlm : m ≤ 137438953472) (hy0 : nv ys = 0) :
    Calls Try.prog 57 #[.slice A n cap, .slice D m cd] w (Gv w (Is (.tuple #[.slice none 0 0, .slice none 0 0, .int .i64 4]))) := by
  refine sx_enter Try.func57 rfl (n := 28) rfl (Nat.le_of_ble_eq_true rfl) (args := [.slice A n cap, .slice D m cd]) ?_
  refine cw_keep [(0, .slice A n cap), (1, .slice D m cd)] ⟨rfl, rfl, trivial⟩ ?_
  refine cw_seq ?_
  refine cw_region ?_
  refine wl_assign rfl rfl (by decide) ?_
  refine wl_assign rfl rfl (by decide) ?_
  refine wl_assign rfl rfl (by decide) ?_
  refine wl_nil ?_
  refine eo_then ?_
  refine cw_seq ?_
  refine cw_region ?_
  refine wl_move rfl rfl (by decide) ?_
  refine wl_call rfl rfl (vs := [.slice D m cd]) (by kernel_rfl) (by decide) (ref3_halves hy (by omega)) ?_
  rintro _ v1 ⟨xr3, rfl, r3, e2⟩
  refine ret_intro ?_
  have hw1 : Ext w v1 := (Ext.refl w).trans e2
  obtain ⟨A4, n4, c4, rfl, rd4⟩ := r3
  refine wl_assign rfl rfl (by decide) ?_
  refine wl_nil ?_
  refine eo_then ?_
  refine cw_seq ?_
  refine cw_seq ?_
  have hdl := rd4.hl hy (Nat.le_refl _)
  have hlz := rd4.len
  rw [hy0, db_zero] at hlz
  simp only [List.length_nil] at hlz
  refine cw_region ?_
  refine wl_move rfl rfl (by decide) ?_
  refine wl_pure rfl rfl (v := .int .i64 ((n4 : Nat) : Int)) (by decide) (by kernel_rfl) ?_
  refine wl_cmp rfl rfl rfl true (cb_eq_t (a := n4) (b := 0) rfl rfl (by omega)) (by decide) ?_
  refine wl_nil ?_
  refine eo_then ?_
  refine cw_true rfl ?_
  refine cw_seq ?_
  refine cw_region ?_
  refine wl_assign rfl rfl (by decide) ?_
  refine wl_assign rfl rfl (by decide) ?_
  refine wl_assign rfl rfl (by decide) ?_
  refine wl_nil ?_
  refine eo_then ?_
  refine cw_ret ?_
  refine eo_thenR ?_
  refine eo_ret [.slice none 0 0, .slice none 0 0, .int .i64 4] rfl ⟨rfl, rfl, rfl, trivial⟩ ?_
  exact ⟨_, rfl, rfl, hw1⟩
end Go.Proofs.Ythggegdkpalgbaa

namespace Go.Proofs.Ythggegdkpalgbaa
open Go.RowKit
section
variable {P : Program} {Q : Exit → Act → World → Prop} {n : Nat} {l : Fr} {w : World} {ops : Array Oper} {rest : List Oper} {d : Nat} {op : Op} {ty : TypeId} {pos : String} {af : Array Edge} {gd : Option (Nat × Bool)}
theorem wl_bslice (hw : guardB ops l gd = some true) (hk : known l op = true) (hn : d < n) {k : Nat} {e : TypeId} (cells : List Value)
    (hr : ∀ w, (execOp (rho l) ⟨some d, op, ty, pos, af, gd⟩).run P w = .ok (.value (.slice (some ⟨w.heap.size, 0, none⟩) k k)) (w.alloc (.cells cells.toArray e)))
    (h : ∀ g w', NewBk w w' g e cells → wl P ops Q n rest ((d, .slice (some ⟨g, 0, none⟩) k k) :: l) w') : wl P ops Q n (⟨some d, op, ty, pos, af, gd⟩ :: rest) l w :=
  wl_val hw hn (fun a ha => by rw [exec_known hk ha]; exact hr w) (h _ _ (NewBk.mk' w e cells))
end
/-- a word alone, of its own -/
def O1 (b x : Nat) (v : Value) (w : World) : Prop := ∃ A, v = .slice A 1 1 ∧ Own w b 23 1 A 1 1 [W64 x]
theorem O1.mk_ {w w' : World} {g b x : Nat} (h : NewBk w w' g 23 [W64 x]) (hb : b ≤ w.heap.size) : Own w' b 23 1 (some ⟨g, 0, none⟩) 1 1 [W64 x] :=
  Own.mk_ (by rw [← h.at_]; exact hb) h.bk (Nat.le_refl _) (by rw [len_maxLen]; omega) rfl rfl
theorem own1_wi {w : World} {b x : Nat} {A : Option Addr} (h : Own w b 23 1 A 1 1 [W64 x]) (hx : x ≤ 18446744073709551615) : Wi w A 1 1 x :=
  ⟨[x], h.rd (Wf_one (by rw [WB_def]; omega)), nv_one x⟩
end Go.Proofs.Ythggegdkpalgbaa
