/- Rules for variables of structs (integers, fractions), and small facts that a printed walk wants. -/
import Derived.Test.YtmaconeeonkdgaaSxd
import Derived.Test.YtmaconeeonkdgaaSxe
import Derived.Test.YtmaconeeonkdgaaInt
import Derived.Test.YtmaconeeonkdgaaSame
import Derived.KernelRfl
namespace Go.Proofs.Ytmaconeeonkdgaa
open Go.RowKit

/-- the memory of words is of another type than a variable of a struct -/
theorem Own.updT {w w' : World} {base : Nat} {t T : TypeId} {s : Nat} {A : Option Addr} {n cap : Nat} {vs us : List Value} {g : Nat} (h : Own w base t s A n cap vs) (hb : Bk w g T us) (hT : t ≠ T) (e : Upd g w w') : Own w' base t s A n cap vs := by
  refine h.upd e (fun a ha hg => ?_)
  rcases h with ⟨h, _⟩ | ⟨k, cs, hA, _, hk, _⟩
  · rw [h] at ha; cases ha
  · rw [hA] at ha
    cases ha
    simp only at hg
    subst hg
    unfold Bk at hk hb
    rw [hk] at hb
    injection hb with hb
    injection hb with h1 h2
    exact hT h2
theorem Zr.updT {w w' : World} {base : Nat} {s : Bool} {A : Option Addr} {n cap : Nat} {z : Int} {g : Nat} {T : TypeId} {us : List Value} (h : Zr w base s A n cap z) (hb : Bk w g T us) (e : Upd g w w') (hT : 47 ≠ T := by decide) : Zr w' base s A n cap z :=
  ⟨h.sgn, h.len, h.own.updT hb hT e⟩
theorem Bk.updN {w w' : World} {g g' : Nat} {T : TypeId} {vs : List Value} (h : Bk w g T vs) (e : Upd g' w w') (hne : g ≠ g') : Bk w' g T vs := h.upd e hne

theorem ln_abs (x : Int) : ln (x.natAbs : Int) = ln x := by unfold ln; rw [Int.natAbs_natCast]
theorem scmp_eq_t {x y : Int} (h : x = y) : cmpB .eql (scmp x y) 0 = some true := by
  have e : scmp x y = 0 := scmp_zero.2 h
  rw [e]; rfl
theorem scmp_eq_f {x y : Int} (h : x ≠ y) : cmpB .eql (scmp x y) 0 = some false := by
  have e : ¬ scmp x y = 0 := fun e => h (scmp_zero.1 e)
  simp only [cmpB, Option.some.injEq, beq_eq_false_iff_ne, ne_eq]; exact e
theorem scmp_ne_t {x y : Int} (h : x ≠ y) : cmpB .neq (scmp x y) 0 = some true := by
  have e : ¬ scmp x y = 0 := fun e => h (scmp_zero.1 e)
  simp only [cmpB, Option.some.injEq, bne_iff_ne, ne_eq]; exact e
theorem scmp_ne_f {x y : Int} (h : x = y) : cmpB .neq (scmp x y) 0 = some false := by
  have e : scmp x y = 0 := scmp_zero.2 h
  rw [e]; rfl
theorem scmp_lt_t {x y : Int} (h : x < y) : cmpB .lss (scmp x y) 0 = some true := by
  have e := scmp_neg.2 h
  simp only [cmpB, Option.some.injEq, decide_eq_true_eq]; exact e
theorem scmp_lt_f {x y : Int} (h : y ≤ x) : cmpB .lss (scmp x y) 0 = some false := by
  have e : ¬ scmp x y < 0 := fun e => by have := scmp_neg.1 e; omega
  simp only [cmpB, Option.some.injEq, decide_eq_false_iff_not]; exact e
theorem scmp_le_t {x y : Int} (h : x ≤ y) : cmpB .leq (scmp x y) 0 = some true := by
  have e : ¬ 0 < scmp x y := fun e => by have := scmp_pos.1 e; omega
  simp only [cmpB, Option.some.injEq, decide_eq_true_eq]; omega
theorem scmp_le_f {x y : Int} (h : y < x) : cmpB .leq (scmp x y) 0 = some false := by
  have e := scmp_pos.2 h
  simp only [cmpB, Option.some.injEq, decide_eq_false_iff_not]; omega
theorem scmp_gt_t {x y : Int} (h : y < x) : cmpB .gtr (scmp x y) 0 = some true := by
  have e := scmp_pos.2 h
  simp only [cmpB, Option.some.injEq, decide_eq_true_eq]; exact e
theorem scmp_gt_f {x y : Int} (h : x ≤ y) : cmpB .gtr (scmp x y) 0 = some false := by
  have e : ¬ 0 < scmp x y := fun e => by have := scmp_pos.1 e; omega
  simp only [cmpB, Option.some.injEq, decide_eq_false_iff_not]; exact e
theorem scmp_ge_t {x y : Int} (h : y ≤ x) : cmpB .geq (scmp x y) 0 = some true := by
  have e : ¬ scmp x y < 0 := fun e => by have := scmp_neg.1 e; omega
  simp only [cmpB, Option.some.injEq, decide_eq_true_eq]; omega
theorem scmp_ge_f {x y : Int} (h : x < y) : cmpB .geq (scmp x y) 0 = some false := by
  have e := scmp_neg.2 h
  simp only [cmpB, Option.some.injEq, decide_eq_false_iff_not]; omega

/-- a type of structs of k cells -/
structure AggT (P : Program) (T : TypeId) (k : Nat) : Prop where
  agg : ∀ w, (isAgg T).run P w = .ok true w
  size : ∀ w, (sizeOf T).run P w = .ok k w
theorem run_load1 {P : Program} {w : World} {p : Addr} {v : Value} (h : w.cell? p = some v) : (load p).run P w = .ok v w := by
  simp only [load, Sem.run, h]
theorem run_store1 {P : Program} {w : World} {p : Addr} {u v : Value} (h : w.cell? p = some u) (hf : w.frozen? p = false) (h1 : v.oneCell' = true) : (store p v).run P w = .ok () (w.setCell p v) := by
  rw [run_store P w p v .plain h1, h, hf]; rfl
theorem run_loadCells {P : Program} {w : World} {p : Addr} : ∀ (vs : List Value) (i : Nat) (acc : Array Value), (∀ j, j < vs.length → w.cell? (p.add (i + j)) = some (vs.getD j undef)) →
    (loadCellsFrom p i vs.length acc).run P w = .ok (acc ++ vs.toArray) w
  | [], i, acc, _ => by simp [loadCellsFrom]
  | v :: vs, i, acc, h => by
    have h0 := h 0 (by simp)
    simp only [Nat.add_zero, List.getD_cons_zero] at h0
    have ih := run_loadCells (P := P) (p := p) vs (i + 1) (acc.push v) (fun j hj => by
      have := h (j + 1) (by simpa using hj)
      rw [show i + 1 + j = i + (j + 1) by omega]
      simpa using this)
    show ((load (p.add i) >>= fun v => loadCellsFrom p (i + 1) vs.length (acc.push v) : Sem (Array Value))).run P w = _
    have e : (load (p.add i)).run P w = .ok v w := run_load1 h0
    rw [Sem.run_bind, e]
    simp only [Result.andThen_ok, ih]
    simp
theorem load_agg {P : Program} {w : World} {T T' : TypeId} {k off g : Nat} {vs : List Value} (hT : AggT P T k) (hb : Bk w g T' vs) (us : List Value) (hu : us.length = k) (hle : off + k ≤ vs.length) (he : (vs.drop off).take k = us) :
    (loadVar T ⟨g, off, none⟩).run P w = .ok (.agg us.toArray) w := by
  subst hu
  have h1 := run_loadCells (P := P) (w := w) (p := ⟨g, off, none⟩) us 0 #[] (fun j hj => by
    rw [Nat.zero_add, add_lit0, hb.cell (by omega)]
    congr 1
    rw [← he]
    simp only [List.getD_eq_getElem?_getD, List.getElem?_take, List.getElem?_drop]
    rw [if_pos hj])
  unfold loadVar loadCells
  rw [Sem.run_bind, hT.agg w]
  simp only [Result.andThen_ok, if_true, Sem.run_bind, hT.size w, h1]
  simp
theorem load_cell {P : Program} {w : World} {T T' : TypeId} {g i : Nat} {vs : List Value} {v : Value} (hT : ∀ w, (isAgg T).run P w = .ok false w) (hb : Bk w g T' vs) (hv : vs[i]? = some v) : (loadVar T ⟨g, i, none⟩).run P w = .ok v w := by
  have hi : i < vs.length := (List.getElem?_eq_some_iff.1 hv).1
  have hc := hb.cell hi
  rw [List.getD_eq_getElem?_getD, hv] at hc
  unfold loadVar
  rw [Sem.run_bind, hT w]
  simp only [Result.andThen_ok, Bool.false_eq_true, if_false]
  exact run_load1 hc
/-- what is stored over a part of a block -/
def overl (vs : List Value) (off : Nat) (us : List Value) : List Value := vs.take off ++ us ++ vs.drop (off + us.length)
theorem store_cells {P : Program} {g : Nat} {T : TypeId} : ∀ (us : List Value) (i off : Nat) (w : World) (vs : List Value), Bk w g T vs → off + i + us.length ≤ vs.length → (∀ u ∈ us, u.oneCell' = true) →
    ∃ w', (storeCells ⟨g, off, none⟩ us i).run P w = .ok () w' ∧ Bk w' g T (overl vs (off + i) us) ∧ Upd g w w' ∧ w'.heap.size = w.heap.size
  | [], i, off, w, vs, hb, _, _ => ⟨w, rfl, by simpa [overl] using hb, Upd.refl g w, rfl⟩
  | u :: us, i, off, w, vs, hb, hle, h1 => by
    have hi : off + i < vs.length := by simp at hle; omega
    have hc := hb.cell hi
    have hf := hb.frozen (off + i)
    have hb1 := hb.set (off + i) u
    obtain ⟨w', hr, hb2, hu, hs⟩ := store_cells (P := P) us (i + 1) off (w.setCell ⟨g, off + i, none⟩ u) (vs.set (off + i) u) hb1 (by simp at hle ⊢; omega) (fun x hx => h1 x (by simp [hx]))
    refine ⟨w', ?_, ?_, ((Upd.refl g w).setCell (off + i) u).trans hu, by rw [hs]; simp [World.setCell]⟩
    · show ((store ((⟨g, off, none⟩ : Addr).add i) u >>= fun _ => storeCells ⟨g, off, none⟩ us (i + 1) : Sem Unit)).run P w = _
      rw [add_lit0, Sem.run_bind, run_store1 hc hf (h1 u (by simp))]
      exact hr
    · have e : overl (vs.set (off + i) u) (off + (i + 1)) us = overl vs (off + i) (u :: us) := by
        unfold overl
        have e1 : (vs.set (off + i) u).take (off + (i + 1)) = vs.take (off + i) ++ [u] := by
          rw [show off + (i + 1) = off + i + 1 by omega, take_snoc _ _ (by simpa using hi) undef, List.take_set_of_le (Nat.le_refl _)]
          congr 2
          rw [List.getD_eq_getElem?_getD, List.getElem?_set_self hi]; rfl
        rw [e1, List.drop_set_of_lt (by omega)]
        simp only [List.length_cons, List.append_assoc, List.cons_append, List.nil_append]
        rw [show off + (i + 1) + us.length = off + i + (us.length + 1) by omega]
      rw [← e]; exact hb2
theorem run_stored {P : Program} {w : World} {T T' : TypeId} {k g off : Nat} {vs us : List Value} (hT : AggT P T k) (hk : us.length = k)
    (hb : Bk w g T' vs) (hle : off + k ≤ vs.length) (h1 : us.all (·.oneCell') = true) (us' : List Value) (he : overl vs off us = us') :
    ∃ w', (storeVar T ⟨g, off, none⟩ (.agg us.toArray)).run P w = .ok () w' ∧ Bk w' g T' us' ∧ Upd g w w' ∧ w'.heap.size = w.heap.size := by
  subst hk
  obtain ⟨w', hr, hb2, hu, hs⟩ := store_cells (P := P) us 0 off w vs hb (by omega) (by simpa [List.all_eq_true] using h1)
  rw [Nat.add_zero, he] at hb2
  refine ⟨w', ?_, hb2, hu, hs⟩
  unfold storeVar
  rw [Sem.run_bind]
  show ((sizeOf T).run P w).andThen _ = _
  rw [hT.size w]
  have e : (Value.agg us.toArray).cells = us.toArray := rfl
  simp only [Result.andThen_ok, e, List.size_toArray, ne_eq, not_true, if_false]
  exact hr
theorem wl_stored {P : Program} {Q : Exit → Act → World → Prop} {n : Nat} {l : Fr} {w : World} {ops : Array Oper} {rest : List Oper} {ty : TypeId} {pos : String} {af : Array Edge} {gd : Option (Nat × Bool)}
    (hw : guardB ops l gd = some true) {x y : Operand} {T T' : TypeId} {k g off : Nat} {vs us : List Value} (hx : evo l x = some (.pointer (some ⟨g, off, none⟩))) (hy : evo l y = some (.agg us.toArray)) (hT : AggT P T k) (hk : us.length = k)
    (hb : Bk w g T' vs) (hle : off + k ≤ vs.length) (h1 : us.all (·.oneCell') = true) (us' : List Value) (he : overl vs off us = us')
    (h : ∀ w', Bk w' g T' us' → Upd g w w' → w'.heap.size = w.heap.size → wl P ops Q n rest l w') : wl P ops Q n (⟨none, .store T x y, ty, pos, af, gd⟩ :: rest) l w := by
  obtain ⟨w', hr, hb2, hu, hs⟩ := run_stored (P := P) hT hk hb hle h1 us' he
  exact wl_store hw (p := ⟨g, off, none⟩) hx hy (w' := w') hr (h w' hb2 hu hs)
theorem wl_stored1 {P : Program} {Q : Exit → Act → World → Prop} {n : Nat} {l : Fr} {w : World} {ops : Array Oper} {rest : List Oper} {ty : TypeId} {pos : String} {af : Array Edge} {gd : Option (Nat × Bool)}
    (hw : guardB ops l gd = some true) {x y : Operand} {T T' : TypeId} {g off : Nat} {vs : List Value} {v : Value} (hx : evo l x = some (.pointer (some ⟨g, off, none⟩))) (hy : evo l y = some v) (hT : ∀ w, (sizeOf T).run P w = .ok 1 w) (hv : v.cells = #[v])
    (hb : Bk w g T' vs) (hle : off < vs.length) (h1 : v.oneCell' = true) (us' : List Value) (he : vs.set off v = us')
    (h : ∀ w', Bk w' g T' us' → Upd g w w' → w'.heap.size = w.heap.size → wl P ops Q n rest l w') : wl P ops Q n (⟨none, .store T x y, ty, pos, af, gd⟩ :: rest) l w := by
  have hb2 := hb.set off v
  rw [he] at hb2
  refine wl_store hw (p := ⟨g, off, none⟩) hx hy (w' := w.setCell ⟨g, off, none⟩ v) ?_ (h _ hb2 ((Upd.refl g w).setCell off v) (by simp [World.setCell]))
  unfold storeVar
  rw [Sem.run_bind]
  show ((sizeOf T).run P w).andThen _ = _
  rw [hT w]
  simp only [Result.andThen_ok, hv, List.size_toArray, List.length_cons, List.length_nil, ne_eq, not_true, Nat.zero_add, if_false]
  show ((store ((⟨g, off, none⟩ : Addr).add 0) v >>= fun _ => storeCells ⟨g, off, none⟩ [] (0 + 1) : Sem Unit)).run P w = _
  rw [add_lit0, Nat.add_zero, Sem.run_bind, run_store1 (hb.cell hle) (hb.frozen off) h1]
  rfl
end Go.Proofs.Ytmaconeeonkdgaa
