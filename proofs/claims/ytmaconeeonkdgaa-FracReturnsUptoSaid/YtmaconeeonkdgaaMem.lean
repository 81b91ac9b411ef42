/- Words for memory: what a slice reads as; what was made by a call; how facts go on over later worlds. No program in sight. -/
import Derived.Test.YtmaconeeonkdgaaBase
import Derived.WalkKit
import Derived.WalkSpells
import Derived.Deep.Draws
import Derived.Lib.Hide
import Derived.Laws.CopyOwn
import Derived.Deep.QuietTactic
import Derived.BigQuiet
import Derived.Deep.RegionHeld3
import Derived.Deep.RegionWith
import Derived.Deep.DeepCutAuto
import Derived.Deep.DeepMust
import Derived.Deep.DeepFit
import Derived.Handy
import Derived.OwnWalk
import Derived.Maps.AppendAt
namespace Go.Proofs.Ytmaconeeonkdgaa
open Go.RowKit

/-- a word, an int, a byte as a value -/
abbrev W64 (x : Nat) : Value := .int .u64 (x : Int)
abbrev I64 (x : Int) : Value := .int .i64 x
abbrev U8 (x : Nat) : Value := .int .u8 (x : Int)

theorem ret_int {k : IntKind} {a b : Int} (h : a = b) : Ending.returned (.int k a) = .returned (.int k b) := by rw [h]
theorem val_int {k : IntKind} {a b : Int} (h : a = b) : Value.int k a = Value.int k b := by rw [h]
theorem block_of_add (a : Addr) (n : Nat) : (a.add n).block = a.block := by unfold Addr.add; split <;> rfl
theorem add_of_add (a : Addr) (i j : Nat) : (a.add i).add j = a.add (i + j) := by
  unfold Addr.add
  by_cases hi : i = 0 <;> by_cases hj : j = 0 <;> simp [hi, hj, Nat.add_assoc]
theorem add_lit0 (g o i : Nat) : (⟨g, o, none⟩ : Addr).add i = ⟨g, o + i, none⟩ := by
  unfold Addr.add; split <;> simp_all

/-- w' is w with more: all that lay in w lies there as it did -/
structure Ext (w w' : World) : Prop where
  below : Below w.heap.size w w'
theorem Ext.refl (w : World) : Ext w w := ⟨Below.refl _ _⟩
theorem Ext.trans {a b c : World} (h : Ext a b) (k : Ext b c) : Ext a c := ⟨h.below.trans (k.below.mono h.below.size)⟩
theorem Ext.step {a b c : World} (k : Ext b c) (h : Ext a b) : Ext a c := h.trans k
theorem Ext.size {a b : World} (h : Ext a b) : a.heap.size ≤ b.heap.size := h.below.size
theorem Ext.alloc {a w : World} (h : Ext a w) (o : Obj) : Ext a (w.alloc o) := ⟨h.below.alloc h.below.size o⟩
theorem Ext.drew {a w : World} (h : Ext a w) : Ext a w.drew := ⟨h.below.drew⟩
theorem Ext.drewN {a w : World} (h : Ext a w) (n : Nat) : Ext a (w.drewN n) := ⟨⟨h.below.os, h.below.tape, h.below.output, h.below.size, h.below.block⟩⟩
theorem Ext.setCell {a w : World} (h : Ext a w) {p : Addr} (hp : a.heap.size ≤ p.block) (u : Value) : Ext a (w.setCell p u) := ⟨h.below.setCell hp u⟩
theorem Ext.grown {a w w' : World} {row : Option Nat} (h : Ext a w) (hg : w.grownBy w' row) (hr : ∀ k, row = some k → a.heap.size ≤ k) : Ext a w' := ⟨h.below.grown hg h.below.size hr⟩
theorem Ext.of_grown {w w' : World} (hg : w.grownBy w' none) : Ext w w' := (Ext.refl w).grown hg (fun _ h => by cases h)
theorem Ext.cell {w w' : World} (h : Ext w w') {p : Addr} {v : Value} (hc : w.cell? p = some v) : w'.cell? p = some v :=
  (h.below.cell (World.block_lt_of_cell? w p hc)).trans hc
theorem Ext.heap {w w' : World} (h : Ext w w') {g : Nat} {o : Obj} (hc : w.heap[g]? = some o) : w'.heap[g]? = some o :=
  (h.below.block g (Array.getElem?_eq_some_iff.1 hc).1).trans hc
theorem Ext.frozen {w w' : World} (h : Ext w w') {p : Addr} (hc : p.block < w.heap.size) : w'.frozen? p = w.frozen? p := h.below.frozen hc

/-- only block g has turned (and there may be more blocks) -/
structure Upd (g : Nat) (w w' : World) : Prop where
  by_ : w.grownBy w' (some g)
theorem Upd.ext {g : Nat} {a w w' : World} (h : Upd g w w') (e : Ext a w) (hg : a.heap.size ≤ g) : Ext a w' := e.grown h.by_ (fun k hk => by cases hk; exact hg)
theorem Upd.refl (g : Nat) (w : World) : Upd g w w := ⟨World.grownBy.refl _ _⟩
theorem Upd.trans {g : Nat} {a b c : World} (h : Upd g a b) (k : Upd g b c) : Upd g a c :=
  ⟨⟨k.by_.os.trans h.by_.os, k.by_.tape.trans h.by_.tape, k.by_.output.trans h.by_.output, Nat.le_trans h.by_.size k.by_.size,
    fun i hi hne => (k.by_.block i (Nat.lt_of_lt_of_le hi h.by_.size) hne).trans (h.by_.block i hi hne)⟩⟩
theorem Upd.setCell {g : Nat} {a w : World} (h : Upd g a w) (i : Nat) (u : Value) : Upd g a (w.setCell ⟨g, i, none⟩ u) :=
  h.trans ⟨⟨rfl, rfl, rfl, by simp [World.setCell], fun k hk hne => Below.heap_setCell _ _ _ _ (fun e => hne (by rw [e]))⟩⟩
theorem Upd.drew {g : Nat} {a w : World} (h : Upd g a w) : Upd g a w.drew := ⟨⟨h.by_.os, h.by_.tape, h.by_.output, h.by_.size, h.by_.block⟩⟩
theorem Upd.drewN {g : Nat} {a w : World} (h : Upd g a w) (n : Nat) : Upd g a (w.drewN n) := ⟨⟨h.by_.os, h.by_.tape, h.by_.output, h.by_.size, h.by_.block⟩⟩
theorem Upd.then_ext {g : Nat} {a w w' : World} (h : Upd g a w) (e : Ext w w') : Upd g a w' :=
  h.trans ⟨⟨e.below.os, e.below.tape, e.below.output, e.below.size, fun k hk _ => e.below.block k hk⟩⟩
theorem Upd.of_ext {g : Nat} {w w' : World} (e : Ext w w') : Upd g w w' := (Upd.refl g w).then_ext e
theorem Upd.alloc {g : Nat} {a w : World} (h : Upd g a w) (o : Obj) : Upd g a (w.alloc o) := h.then_ext ((Ext.refl w).alloc o)
theorem Upd.heap {g : Nat} {w w' : World} (h : Upd g w w') {k : Nat} {o : Obj} (hc : w.heap[k]? = some o) (hne : k ≠ g) : w'.heap[k]? = some o :=
  (h.by_.block k (Array.getElem?_eq_some_iff.1 hc).1 (fun e => hne (Option.some.inj e))).trans hc
theorem Upd.size {g : Nat} {w w' : World} (h : Upd g w w') : w.heap.size ≤ w'.heap.size := h.by_.size
theorem Upd.cell {g : Nat} {w w' : World} (h : Upd g w w') {p : Addr} {v : Value} (hc : w.cell? p = some v) (hne : p.block ≠ g) : w'.cell? p = some v :=
  h.by_.cell hc (fun e => hne (Option.some.inj e))

/-- a slice value '.slice A n cap' reads as the values vs, s cells an element -/
structure Rv (w : World) (s : Nat) (A : Option Addr) (n cap : Nat) (vs : List Value) : Prop where
  len : vs.length = n * s
  le : n ≤ cap
  max : cap ≤ maxLen
  get : ∀ i, i < n * s → ∃ a, A = some a ∧ w.cell? (a.add i) = some (vs.getD i undef)
  blk : ∀ a, A = some a → 0 < cap → a.block < w.heap.size
theorem Rv.ext {w w' : World} {s : Nat} {A : Option Addr} {n cap : Nat} {vs : List Value} (h : Rv w s A n cap vs) (e : Ext w w') : Rv w' s A n cap vs :=
  ⟨h.len, h.le, h.max, fun i hi => by obtain ⟨a, ha, hc⟩ := h.get i hi; exact ⟨a, ha, e.cell hc⟩, fun a ha hc => Nat.lt_of_lt_of_le (h.blk a ha hc) e.size⟩
theorem Rv.upd {w w' : World} {s : Nat} {A : Option Addr} {n cap : Nat} {vs : List Value} {g : Nat} (h : Rv w s A n cap vs) (e : Upd g w w') (hne : ∀ a, A = some a → a.block ≠ g) : Rv w' s A n cap vs :=
  ⟨h.len, h.le, h.max, fun i hi => by obtain ⟨a, ha, hc⟩ := h.get i hi; exact ⟨a, ha, e.cell hc (by rw [block_of_add]; exact hne a ha)⟩, fun a ha hc => Nat.lt_of_lt_of_le (h.blk a ha hc) e.size⟩
theorem Rv.nil (w : World) (s : Nat) : Rv w s none 0 0 [] := ⟨by simp, Nat.le_refl _, by decide, fun i hi => by omega, fun a ha => by cases ha⟩
/-- the part from l to h -/
theorem Rv.cut {w : World} {s : Nat} {A : Option Addr} {n cap : Nat} {vs : List Value} (h : Rv w s A n cap vs) {l k m : Nat} (hl : l ≤ k) (hk : k ≤ n) (hm : k ≤ m) (hc : m ≤ cap) :
    Rv w s (if m = l then A else A.map (·.add (l * s))) (k - l) (m - l) ((vs.take (k * s)).drop (l * s)) := by
  have e1 : k * s ≤ n * s := Nat.mul_le_mul_right s hk
  have e2 : l * s ≤ k * s := Nat.mul_le_mul_right s hl
  refine ⟨?_, by omega, Nat.le_trans (by omega) h.max, fun i hi => ?_, fun a ha hz => ?_⟩
  · rw [List.length_drop, List.length_take, h.len, Nat.sub_mul, Nat.min_eq_left e1]
  · rw [Nat.sub_mul] at hi
    obtain ⟨a, ha, hcell⟩ := h.get (l * s + i) (by omega)
    have hne : ¬ m = l := fun e => by
      have : k = l := by omega
      subst this; omega
    rw [if_neg hne, ha]
    refine ⟨a.add (l * s), rfl, ?_⟩
    rw [add_of_add, hcell]
    congr 1
    simp only [List.getD_eq_getElem?_getD, List.getElem?_drop]
    rw [List.getElem?_take, if_pos (by omega)]
  · split at ha
    · exact h.blk a ha (by omega)
    · cases A with
      | none => cases ha
      | some b => simp only [Option.map_some, Option.some.injEq] at ha; subst ha; rw [block_of_add]; exact h.blk b rfl (by omega)

/-- a slice of words -/
structure Rd (w : World) (A : Option Addr) (n cap : Nat) (xs : List Nat) : Prop where
  rv : Rv w 1 A n cap (xs.map W64)
  wf : Wf xs
theorem Rd.ext {w w' : World} {A : Option Addr} {n cap : Nat} {xs : List Nat} (h : Rd w A n cap xs) (e : Ext w w') : Rd w' A n cap xs := ⟨h.rv.ext e, h.wf⟩
theorem Rd.upd {w w' : World} {A : Option Addr} {n cap : Nat} {xs : List Nat} {g : Nat} (h : Rd w A n cap xs) (e : Upd g w w') (hne : ∀ a, A = some a → a.block ≠ g) : Rd w' A n cap xs := ⟨h.rv.upd e hne, h.wf⟩
theorem Rd.len {w : World} {A : Option Addr} {n cap : Nat} {xs : List Nat} (h : Rd w A n cap xs) : xs.length = n := by simpa using h.rv.len
theorem Rd.nil (w : World) : Rd w none 0 0 [] := ⟨Rv.nil w 1, Wf_nil⟩
/-- the word with the number i -/
theorem Rd.get {w : World} {A : Option Addr} {n cap : Nat} {xs : List Nat} (h : Rd w A n cap xs) {i : Nat} (hi : i < n) :
    ∃ a x, A = some a ∧ Hid (xs.getD i 0 = x) ∧ x ≤ 18446744073709551615 ∧ w.cell? (a.add i) = some (.int .u64 (x : Int)) := by
  obtain ⟨a, ha, hc⟩ := h.rv.get i (by omega)
  have hl : i < xs.length := by rw [h.len]; exact hi
  have hlt := Wf_getD h.wf i
  refine ⟨a, _, ha, rfl, by rw [WB_def] at hlt; omega, ?_⟩
  rw [hc]
  simp [List.getD_eq_getElem?_getD, List.getElem?_map, List.getElem?_eq_getElem hl]
theorem Rd.cut {w : World} {A : Option Addr} {n cap : Nat} {xs : List Nat} (h : Rd w A n cap xs) {l k m : Nat} (hl : l ≤ k) (hk : k ≤ n) (hm : k ≤ m) (hc : m ≤ cap) :
    Rd w (if m = l then A else A.map (·.add l)) (k - l) (m - l) ((xs.take k).drop l) := by
  have := h.rv.cut hl hk hm hc
  simp only [Nat.mul_one] at this
  refine ⟨?_, Wf_drop (Wf_take h.wf _) _⟩
  rw [List.map_drop, List.map_take]
  exact this
theorem Rd.take {w : World} {A : Option Addr} {n cap : Nat} {xs : List Nat} (h : Rd w A n cap xs) {k m : Nat} (hk : k ≤ n) (hm : k ≤ m) (hc : m ≤ cap) : Rd w A k m (xs.take k) := by
  have := h.cut (l := 0) (Nat.zero_le _) hk hm hc
  simp only [Nat.sub_zero, List.drop_zero] at this
  have e : (if m = 0 then A else A.map (·.add 0)) = A := by
    have h0 : ∀ a : Addr, a.add 0 = a := fun a => by simp [Addr.add]
    split
    · rfl
    · cases A <;> simp [h0]
  rwa [e] at this

/-- a block known whole -/
def Bk (w : World) (g : Nat) (t : TypeId) (vs : List Value) : Prop := w.heap[g]? = some (.cells vs.toArray t (0, 0))
section
variable {w w' : World} {g : Nat} {t : TypeId} {vs : List Value}
theorem Bk.lt (h : Bk w g t vs) : g < w.heap.size := (Array.getElem?_eq_some_iff.1 h).1
theorem Bk.ext (h : Bk w g t vs) (e : Ext w w') : Bk w' g t vs := e.heap h
theorem Bk.upd {k : Nat} (h : Bk w g t vs) (e : Upd k w w') (hne : g ≠ k) : Bk w' g t vs := e.heap h hne
theorem Bk.cell (h : Bk w g t vs) {i : Nat} (hi : i < vs.length) : w.cell? ⟨g, i, none⟩ = some (vs.getD i undef) := by
  rw [cell_of_row w g i _ t (0, 0) h]
  simp [List.getD_eq_getElem?_getD, List.getElem?_eq_getElem hi]
theorem Bk.frozen (h : Bk w g t vs) (i : Nat) : w.frozen? ⟨g, i, none⟩ = false := by
  unfold Bk at h
  simp [World.frozen?, h]
theorem Bk.new (w : World) (t : TypeId) (vs : List Value) : Bk (w.alloc (.cells vs.toArray t)) w.heap.size t vs := heap_alloc_new w _
theorem Bk.new' (w : World) (t : TypeId) (cs : Array Value) : Bk (w.alloc (.cells cs t)) w.heap.size t cs.toList := heap_alloc_new w _
theorem Bk.set (h : Bk w g t vs) (i : Nat) (u : Value) : Bk (w.setCell ⟨g, i, none⟩ u) g t (vs.set i u) := by
  unfold Bk at h ⊢
  simp [World.setCell, Array.getElem?_modify, h]
theorem Bk.far (h : Bk w g t vs) {p : Addr} (hp : g ≠ p.block) (u : Value) : Bk (w.setCell p u) g t vs := (Below.heap_setCell w p u g hp).trans h
theorem Bk.alloc (h : Bk w g t vs) (o : Obj) : Bk (w.alloc o) g t vs := h.ext ((Ext.refl w).alloc o)
theorem Bk.drew (h : Bk w g t vs) : Bk w.drew g t vs := h
theorem Bk.drewN (h : Bk w g t vs) (n : Nat) : Bk (w.drewN n) g t vs := h
/-- a slice over a block that is known whole -/
theorem Bk.rv (h : Bk w g t vs) {o n cap : Nat} (hn : n ≤ cap) (hc : o + cap ≤ vs.length) (hm : cap ≤ maxLen) : Rv w 1 (some ⟨g, o, none⟩) n cap ((vs.drop o).take n) := by
  refine ⟨by rw [List.length_take, List.length_drop]; omega, hn, hm, fun i hi => ⟨_, rfl, ?_⟩, fun a ha _ => by cases ha; exact h.lt⟩
  rw [add_lit0, h.cell (by omega)]
  congr 1
  simp only [List.getD_eq_getElem?_getD, List.getElem?_take, List.getElem?_drop]
  rw [if_pos (by omega)]
theorem Bk.rd {xs : List Nat} (h : Bk w g t (xs.map W64)) (hw : Wf xs) {o n cap : Nat} (hn : n ≤ cap) (hc : o + cap ≤ xs.length) (hm : cap ≤ maxLen) : Rd w (some ⟨g, o, none⟩) n cap ((xs.drop o).take n) := by
  refine ⟨?_, Wf_take (Wf_drop hw _) _⟩
  rw [List.map_take, List.map_drop]
  exact h.rv hn (by simpa using hc) hm
end
theorem Bk.word {w : World} {g : Nat} {t : TypeId} {xs : List Nat} (h : Bk w g t (xs.map W64)) (hw : Wf xs) {i : Nat} (hi : i < xs.length) :
    ∃ x, Hid (xs.getD i 0 = x) ∧ x ≤ 18446744073709551615 ∧ w.cell? ⟨g, i, none⟩ = some (.int .u64 (x : Int)) := by
  have hlt := Wf_getD hw i
  refine ⟨_, rfl, by rw [WB_def] at hlt; omega, ?_⟩
  rw [h.cell (by simpa using hi)]
  simp [List.getD_eq_getElem?_getD, List.getElem?_map, List.getElem?_eq_getElem hi]

/-- memory of its own, made since base: nil, or at the head of a block that holds just its capacity -/
def Own (w : World) (base : Nat) (t : TypeId) (s : Nat) (A : Option Addr) (n cap : Nat) (vs : List Value) : Prop :=
  (A = none ∧ n = 0 ∧ cap = 0 ∧ vs = []) ∨ ∃ g cs, A = some ⟨g, 0, none⟩ ∧ base ≤ g ∧ Bk w g t cs ∧ n ≤ cap ∧ cap ≤ maxLen ∧ cs.length = cap * s ∧ cs.take (n * s) = vs
section
variable {w w' : World} {base : Nat} {t : TypeId} {s : Nat} {A : Option Addr} {n cap : Nat} {vs : List Value}
theorem Own.nil (w : World) (base : Nat) (t : TypeId) (s : Nat) : Own w base t s none 0 0 [] := Or.inl ⟨rfl, rfl, rfl, rfl⟩
theorem Own.mk_ {g : Nat} {cs : List Value} (hb : base ≤ g) (h : Bk w g t cs) (hn : n ≤ cap) (hm : cap ≤ maxLen) (hl : cs.length = cap * s) (hv : cs.take (n * s) = vs) : Own w base t s (some ⟨g, 0, none⟩) n cap vs :=
  Or.inr ⟨g, cs, rfl, hb, h, hn, hm, hl, hv⟩
theorem Own.ext (h : Own w base t s A n cap vs) (e : Ext w w') : Own w' base t s A n cap vs := by
  rcases h with h | ⟨g, cs, ha, hb, hk, r⟩
  · exact Or.inl h
  · exact Or.inr ⟨g, cs, ha, hb, hk.ext e, r⟩
theorem Own.upd {k : Nat} (h : Own w base t s A n cap vs) (e : Upd k w w') (hne : ∀ a, A = some a → a.block ≠ k) : Own w' base t s A n cap vs := by
  rcases h with h | ⟨g, cs, ha, hb, hk, r⟩
  · exact Or.inl h
  · exact Or.inr ⟨g, cs, ha, hb, hk.upd e (hne _ ha), r⟩
theorem Own.mono {base' : Nat} (h : Own w base t s A n cap vs) (hb : base' ≤ base) : Own w base' t s A n cap vs := by
  rcases h with h | ⟨g, cs, ha, hg, r⟩
  · exact Or.inl h
  · exact Or.inr ⟨g, cs, ha, by omega, r⟩
theorem Own.rv (h : Own w base t s A n cap vs) : Rv w s A n cap vs := by
  rcases h with ⟨rfl, rfl, rfl, rfl⟩ | ⟨g, cs, rfl, hb, hk, hn, hm, hl, rfl⟩
  · exact Rv.nil w s
  · have hle : n * s ≤ cap * s := Nat.mul_le_mul_right s hn
    refine ⟨by rw [List.length_take]; omega, hn, hm, fun i hi => ⟨_, rfl, ?_⟩, fun a ha _ => by cases ha; exact hk.lt⟩
    rw [add_lit0, Nat.zero_add, hk.cell (by omega)]
    congr 1
    simp only [List.getD_eq_getElem?_getD, List.getElem?_take]
    rw [if_pos hi]
theorem Own.rd {xs : List Nat} (h : Own w base t 1 A n cap (xs.map W64)) (hw : Wf xs) : Rd w A n cap xs := ⟨h.rv, hw⟩
theorem Own.block (h : Own w base t s A n cap vs) : ∀ a, A = some a → base ≤ a.block ∧ a.block < w.heap.size := by
  intro a ha
  rcases h with h | ⟨g, cs, hA, hb, hk, _⟩
  · rw [h.1] at ha; cases ha
  · rw [hA] at ha; cases ha; exact ⟨hb, hk.lt⟩
end

theorem len_maxLen : maxLen = 9223372036854775807 := rfl
theorem map_W64_set (xs : List Nat) (i x : Nat) : (xs.map W64).set i (.int .u64 (x : Int)) = (xs.set i x).map W64 := by rw [List.map_set]

/-- n cells of one value, behind a name -/
def zc (z : Value) (n : Nat) : Array Value := (List.replicate n z).toArray
theorem zc_list (z : Value) (n : Nat) : (zc z n).toList = List.replicate n z := rfl
/-- make([]uint64, l) and its kin -/
theorem run_make1 {P : Program} {t e : TypeId} {z : Value} {bytes : Nat} (ht : P.underlying t = some (.slice e)) (hinfo : (P.info? e).map (fun i => (i.zero, i.size, i.bytes)) = some (some z, 1, bytes)) (hz : z.cells = #[z]) (hby : bytes ≤ 64)
    (l : Int) (h0 : 0 ≤ l) (h1 : l ≤ 1099511627776) (w : World) :
    (Instr.makeSlice t (.int .i64 l) (.int .i64 l)).run P w = .ok (.slice (some ⟨w.heap.size, 0, none⟩) l.toNat l.toNat) (w.alloc (.cells (zc z l.toNat) e)) := by
  obtain ⟨i, hi, hz0, hz1, hz2⟩ := info_parts hinfo
  have h := run_make (P := P) w t e i z ht hi hz0 .i64 .i64 l l h0 (Int.le_refl _) (by rw [hz2]; have : (bytes : Int) * l ≤ 64 * 1099511627776 := Int.mul_le_mul (by omega) h1 h0 (by omega); omega) (by omega)
  rw [h, hz1, Nat.mul_one, hz]
  congr 3
  apply Array.ext'
  rw [toList_madeCells_one, zc_list]
/-- make([]T, 0, c) -/
theorem run_make0 {P : Program} {t e : TypeId} {z : Value} {bytes : Nat} (ht : P.underlying t = some (.slice e)) (hinfo : (P.info? e).map (fun i => (i.zero, i.size, i.bytes)) = some (some z, 1, bytes)) (hz : z.cells = #[z]) (hby : bytes ≤ 64)
    (l : Int) (h0 : 0 ≤ l) (h1 : l ≤ 1099511627776) (w : World) :
    (Instr.makeSlice t (.int .i64 0) (.int .i64 l)).run P w = .ok (.slice (some ⟨w.heap.size, 0, none⟩) 0 l.toNat) (w.alloc (.cells (zc z l.toNat) e)) := by
  obtain ⟨i, hi, hz0, hz1, hz2⟩ := info_parts hinfo
  have h := run_make (P := P) w t e i z ht hi hz0 .i64 .i64 0 l (by omega) h0 (by rw [hz2]; have : (bytes : Int) * l ≤ 64 * 1099511627776 := Int.mul_le_mul (by omega) h1 h0 (by omega); omega) (by omega)
  rw [h, hz1, Nat.mul_one, hz]
  congr 3
  apply Array.ext'
  rw [toList_madeCells_one, zc_list]
theorem Upd.setRow {g : Nat} {a w : World} (h : Upd g a w) (cs : Array Value) : Upd g a (w.setRow g cs) :=
  h.trans ⟨⟨rfl, rfl, rfl, by simp [World.setRow], fun k hk hne => setRow_other w g k cs (fun e => hne (by rw [e]))⟩⟩

/-- a guard for an arm of the walk: does the next operation write that slot? -/
theorem at_slot {P : Program} {w : World} {ops : Array Oper} {rest : List Oper} {a : Act} {Q : Exit → Act → World → Prop} (d : Option Tmp) {op : Op} {type : TypeId} {pos : String} {after : Array Edge} {guard : Option (Nat × Bool)}
    (h : wpList P ops Q (⟨d, op, type, pos, after, guard⟩ :: rest) a w) : wpList P ops Q (⟨d, op, type, pos, after, guard⟩ :: rest) a w := h

/-- copy(dst, src): dst lies in a block that is known whole -/
theorem wpc_copy {P : Program} {w : World} {ops : Array Oper} {rest : List Oper} {o : Oper} {a : Act} {Q : Exit → Act → World → Prop} (hgd : o.guard = none) (d s : Operand) (dT sT : TypeId)
    (ho : o.op = .call { callee := .builtin .copy, args := #[d, s], argTypes := #[dT, sT] }) {dp sp : Option Addr} {dLen dCap sLen sCap : Nat} (hd : a.eval d = .slice dp dLen dCap) (hs : a.eval s = .slice sp sLen sCap)
    {elem : TypeId} (hu : P.underlying dT = some (.slice elem)) (hsz : (P.info? elem).map (·.size) = some 1)
    {g off : Nat} {t : TypeId} {vs us : List Value} (hg : Bk w g t vs) (hsrc : Rv w 1 sp sLen sCap us) (hpos : 0 < dLen → dp = some ⟨g, off, none⟩) (hfit : off + dLen ≤ vs.length) (h1 : ∀ v ∈ us, v.oneCell' = true)
    (h : ∀ w', Bk w' g t (splice vs off (us.take dLen)) → Upd g w w' → wpList P ops Q rest (a.put o.dst (goInt (min sLen dLen : Nat))) w') : wpList P ops Q (o :: rest) a w := by
  have hlen : us.length = sLen := by simpa using hsrc.len
  have hl : (us.take dLen).length = Nat.min sLen dLen := by rw [List.length_take, hlen, Nat.min_comm]
  by_cases h0 : Nat.min sLen dLen = 0
  · refine wpList_copy_nothing hgd d s dT sT ho elem hu hsz dp sp dLen dCap sLen sCap hd hs h0 ?_
    have e : us.take dLen = [] := List.eq_nil_of_length_eq_zero (by omega)
    have := h w (by rw [e]; simpa [splice] using hg) (Upd.refl g w)
    rwa [show (min sLen dLen : Nat) = 0 from h0] at this
  · have h0' : ¬ min sLen dLen = 0 := h0
    have hd0 : 0 < dLen := by omega
    obtain ⟨ad, rfl, _⟩ := hsrc.get 0 (by omega)
    obtain rfl := hpos hd0
    refine wpList_copy_own hgd d s dT sT ho elem hu hsz g off dLen dCap ad sLen sCap hd hs vs.toArray t hg (us.take dLen) hl ?_ ?_ (fun v hv => h1 v (List.mem_of_mem_take hv)) ?_
    · intro j v hv
      have hj : j < (us.take dLen).length := (List.getElem?_eq_some_iff.1 hv).1
      have hj' : j < min sLen dLen := by rw [hl] at hj; exact hj
      obtain ⟨a', ha', hc⟩ := hsrc.get j (by omega)
      cases ha'
      rw [hc, ← hv, List.getElem?_take, if_pos (by omega), List.getD_eq_getElem?_getD, List.getElem?_eq_getElem (by omega)]
      rfl
    · simp only [List.size_toArray]
      have : (us.take dLen).length ≤ dLen := by rw [List.length_take]; omega
      omega
    · have h' := h
      rw [show min sLen dLen = (us.take dLen).length from hl.symm] at h'
      refine h' _ ?_ ((Upd.refl g w).setRow _)
      show _ = _
      simpa [splice] using setRow_heap w g _ _ t _ hg
/-- only the block of A has turned (and there may be more blocks) -/
structure UpdO (A : Option Addr) (w w' : World) : Prop where
  by_ : w.grownBy w' (A.map (·.block))
theorem UpdO.ext {A : Option Addr} {a w w' : World} (h : UpdO A w w') (e : Ext a w) (hA : ∀ p, A = some p → a.heap.size ≤ p.block) : Ext a w' :=
  e.grown h.by_ (fun k hk => by cases A with | none => cases hk | some p => cases hk; exact hA p rfl)
theorem UpdO.heap {A : Option Addr} {w w' : World} (h : UpdO A w w') {k : Nat} {o : Obj} (hc : w.heap[k]? = some o) (hne : ∀ p, A = some p → p.block ≠ k) : w'.heap[k]? = some o :=
  (h.by_.block k (Array.getElem?_eq_some_iff.1 hc).1 (fun e => by cases A with | none => cases e | some p => cases e; exact hne p rfl rfl)).trans hc
theorem UpdO.size {A : Option Addr} {w w' : World} (h : UpdO A w w') : w.heap.size ≤ w'.heap.size := h.by_.size
theorem Bk.updO {A : Option Addr} {w w' : World} {g : Nat} {t : TypeId} {vs : List Value} (h : Bk w g t vs) (e : UpdO A w w') (hne : ∀ p, A = some p → p.block ≠ g) : Bk w' g t vs := e.heap h hne
theorem Own.updO {A B : Option Addr} {w w' : World} {base : Nat} {t : TypeId} {s n cap : Nat} {vs : List Value} (h : Own w base t s B n cap vs) (e : UpdO A w w') (hne : ∀ p q, A = some p → B = some q → p.block ≠ q.block) : Own w' base t s B n cap vs := by
  rcases h with h | ⟨g, cs, ha, hb, hk, r⟩
  · exact Or.inl h
  · exact Or.inr ⟨g, cs, ha, hb, hk.updO e (fun p hp => hne p _ hp ha), r⟩
theorem Rv.updO {A B : Option Addr} {w w' : World} {s n cap : Nat} {vs : List Value} (h : Rv w s B n cap vs) (e : UpdO A w w') (hne : ∀ p q, A = some p → B = some q → p.block ≠ q.block) : Rv w' s B n cap vs :=
  ⟨h.len, h.le, h.max, fun i hi => by
    obtain ⟨a, ha, hc⟩ := h.get i hi
    refine ⟨a, ha, e.by_.cell hc (fun e' => ?_)⟩
    rw [block_of_add] at e'
    cases A with
    | none => cases e'
    | some p => exact hne p a rfl ha (Option.some.inj e').symm, fun a ha hc => Nat.lt_of_lt_of_le (h.blk a ha hc) e.size⟩
theorem Rd.updO {A B : Option Addr} {w w' : World} {n cap : Nat} {xs : List Nat} (h : Rd w B n cap xs) (e : UpdO A w w') (hne : ∀ p q, A = some p → B = some q → p.block ≠ q.block) : Rd w' B n cap xs := ⟨h.rv.updO e hne, h.wf⟩
theorem Own.row {w : World} {base : Nat} {t : TypeId} {s : Nat} {A : Option Addr} {n cap : Nat} {vs : List Value} (h : Own w base t s A n cap vs) : w.ownsRow base t s (.slice A n cap) n vs := by
  rcases h with ⟨rfl, rfl, rfl, rfl⟩ | ⟨g, cs, rfl, hb, hk, hn, hm, hl, rfl⟩
  · exact ⟨by simp, Or.inl ⟨rfl, rfl⟩⟩
  · have hle : n * s ≤ cap * s := Nat.mul_le_mul_right s hn
    exact ⟨by rw [List.length_take]; omega, Or.inr ⟨g, cap, cs.toArray, rfl, hb, hk, hn, hm, by simpa using hl, by simp⟩⟩
theorem Own.of_row {w : World} {base : Nat} {t : TypeId} {s : Nat} {v : Value} {n : Nat} {vs : List Value} (h : w.ownsRow base t s v n vs) : ∃ A cap, v = .slice A n cap ∧ Own w base t s A n cap vs := by
  obtain ⟨hl, h⟩ := h
  rcases h with ⟨rfl, rfl⟩ | ⟨g, cap, cur, rfl, hb, hk, hn, hm, hs, ht⟩
  · exact ⟨none, 0, rfl, Or.inl ⟨rfl, rfl, rfl, List.eq_nil_of_length_eq_zero (by simpa using hl)⟩⟩
  · exact ⟨_, _, rfl, Or.inr ⟨g, cur.toList, rfl, hb, by unfold Bk; simpa using hk, hn, hm, by simpa using hs, ht⟩⟩
theorem ownBlock_slice (A : Option Addr) (n cap : Nat) : (Value.slice A n cap).ownBlock = A.map (·.block) := by cases A <;> rfl

theorem run_append_of_nil {P : Program} (w : World) (base : Nat) (t ty e : TypeId) (i : TypeInfo) (size : Nat) (ht : P.underlying t = some (.slice e)) (hi : P.info? e = some i)
    (v : Value) (n : Nat) (xs : List Value) (hown : w.ownsRow base e size v n xs) (c : Nat) : (Builtin.append_ #[t, t] ty #[v, .slice none 0 c]).run P w = .ok v w := by
  rcases hown.2 with ⟨rfl, rfl⟩ | ⟨g, cap, cur, rfl, _, _, hnc, _⟩
  · simp [Builtin.append_, run_underlying ht, sizeOf, typeInfo, hi, Builtin.lenOf, Builtin.firstCells]
  · simp [Builtin.append_, run_underlying ht, sizeOf, typeInfo, hi, Builtin.lenOf, Builtin.firstCells, hnc, storeCells]

/-- append(s, x...): s is of the call's own -/
theorem wpc_append {P : Program} {w : World} {ops : Array Oper} {rest : List Oper} {o : Oper} {a : Act} {Q : Exit → Act → World → Prop} (hgd : o.guard = none) (s x : Operand) (t : TypeId)
    (ho : o.op = .call { callee := .builtin .append, args := #[s, x], argTypes := #[t, t] }) {A S : Option Addr} {n cap m c : Nat} (hs : a.eval s = .slice A n cap) (hx : a.eval x = .slice S m c)
    {e : TypeId} {z : Value} {size bytes : Nat} (ht : P.underlying t = some (.slice e)) (hinfo : (P.info? e).map (fun i => (i.zero, i.size, i.bytes)) = some (some z, size, bytes)) (hzs : z.cells.size = size) (hsz : 0 < size)
    {base : Nat} {vs news : List Value} (hown : Own w base e size A n cap vs) (hsrc : Rv w size S m c news) (h1 : ∀ u ∈ news, u.oneCell' = true)
    (hbytes : (n + m) * bytes ≤ 140737488355328) (h63 : n + m ≤ maxLen) (hbase : base ≤ w.heap.size)
    (h : ∀ A' cap' w', Own w' base e size A' (n + m) cap' (vs ++ news) → UpdO A w w' → (A'.map (·.block) = A.map (·.block) ∨ A'.map (·.block) = some w.heap.size) →
      wpList P ops Q rest (a.put o.dst (.slice A' (n + m) cap')) w') : wpList P ops Q (o :: rest) a w := by
  obtain ⟨i, hi, hz0, hz1, hz2⟩ := info_parts hinfo
  cases S with
  | none =>
    have hm : m = 0 := by
      rcases Nat.eq_zero_or_pos m with h0 | h0
      · exact h0
      · obtain ⟨ad, h, _⟩ := hsrc.get 0 (Nat.mul_pos h0 hsz)
        cases h
    subst hm
    have hn : news = [] := List.eq_nil_of_length_eq_zero (by simpa using hsrc.len)
    subst hn
    refine wpList_plain hgd fun K hK => ?_
    have hr := run_append_of_nil (P := P) w base t o.type e i size ht hi (.slice A n cap) n vs hown.row c
    unfold Oper.wp execOp
    simp only [ho, resolve, invoke, builtin, Sem.run_bind, Sem.run_pure, Result.andThen_ok, List.map_toArray, List.map_cons, List.map_nil, hs, hx, hr]
    exact hK _ _ (h A cap w (by simpa using hown) ⟨World.grownBy.refl _ _⟩ (Or.inl rfl))
  | some ad =>
    refine wpList_append_own_at w hgd s x t ho base e i z size bytes ht hi hz0 hz1 hz2 hzs hsz (.slice A n cap) n vs hs hown.row ad m c news hx hsrc.len ?_ h1 h63 hbytes hbase ?_
    · intro j u hu
      have hj : j < news.length := (List.getElem?_eq_some_iff.1 hu).1
      obtain ⟨a', ha', hc⟩ := hsrc.get j (by rw [← hsrc.len]; exact hj)
      cases ha'
      rw [hc, ← hu, List.getD_eq_getElem?_getD, List.getElem?_eq_getElem hj]
      rfl
    · intro v' w' h2 h3 _ h5
      obtain ⟨A', cap', rfl, h6⟩ := Own.of_row h2
      rw [ownBlock_slice, ownBlock_slice] at h5
      rw [ownBlock_slice] at h3
      exact h A' cap' w' h6 ⟨h3⟩ h5
/-- one element, laid in a block of its own by the operation before -/
theorem Rv.one (w : World) (t : TypeId) (v : Value) : Rv (w.alloc (.cells #[v] t)) 1 (some ⟨w.heap.size, 0, none⟩) 1 1 [v] := by
  have h := Bk.new w t [v]
  exact h.rv (o := 0) (n := 1) (cap := 1) (Nat.le_refl _) (by simp) (by rw [len_maxLen]; omega)
theorem W64_oneCell (xs : List Nat) : ∀ v ∈ xs.map W64, v.oneCell' = true := by
  intro v hv
  obtain ⟨x, _, rfl⟩ := List.mem_map.1 hv
  rfl
theorem splice_W64 (xs ys : List Nat) (o : Nat) : splice (xs.map W64) o (ys.map W64) = (splice xs o ys).map W64 := by
  simp [splice, List.map_take, List.map_drop]
theorem splice_all {α : Type} (xs ys : List α) (h : ys.length = xs.length) : splice xs 0 ys = ys := by
  simp [splice, h]
theorem replicate_W64 (n : Nat) : List.replicate n (Value.int .u64 0) = (List.replicate n 0).map W64 := by rw [List.map_replicate]; rfl
end Go.Proofs.Ytmaconeeonkdgaa
