/- Lists of integers: elements of lists that came in, lists in the call's own memory. -/
import Derived.Test.YtmaconeeonkdgaaApp
import Derived.Test.YtmaconeeonkdgaaK7
namespace Go.Proofs.Ytmaconeeonkdgaa
open Go.RowKit

theorem elemI : Try.prog.underlying 22 = some (.slice 27) := by kernel_rfl
theorem infoI : (Try.prog.info? 27).map (fun i => (i.zero, i.size, i.bytes)) = some (some (.agg #[.bool false, .slice none 0 0]), 2, 32) := by kernel_rfl
def ZC.zero : ZC := ⟨false, none, 0, 0⟩
def zcell (e : ZC) : List Value := [.bool e.s, .slice e.A e.n e.c]
def zcells : List ZC → List Value
  | [] => []
  | e :: r => .bool e.s :: .slice e.A e.n e.c :: zcells r
theorem zcells_len : ∀ es : List ZC, (zcells es).length = es.length * 2
  | [] => rfl
  | e :: r => by simp only [zcells, List.length_cons, zcells_len r]; omega
theorem zcells_app : ∀ (es fs : List ZC), zcells (es ++ fs) = zcells es ++ zcells fs
  | [], fs => rfl
  | e :: r, fs => by simp only [zcells, List.cons_append, zcells_app r fs]
theorem zcells_get0 : ∀ (es : List ZC) (i : Nat), i < es.length → (zcells es)[i * 2]? = some (.bool (es.getD i ZC.zero).s)
  | [], i, h => by simp at h
  | e :: r, 0, h => rfl
  | e :: r, i + 1, h => by
    have := zcells_get0 r i (by simpa using h)
    simpa [zcells, Nat.add_mul] using this
theorem zcells_get1 : ∀ (es : List ZC) (i : Nat), i < es.length → (zcells es)[i * 2 + 1]? = some (.slice (es.getD i ZC.zero).A (es.getD i ZC.zero).n (es.getD i ZC.zero).c)
  | [], i, h => by simp at h
  | e :: r, 0, h => rfl
  | e :: r, i + 1, h => by
    have := zcells_get1 r i (by simpa using h)
    simpa [zcells, Nat.add_mul] using this
theorem zcells_set : ∀ (es : List ZC) (i : Nat) (e : ZC), i < es.length → overl (zcells es) (i * 2) (zcell e) = zcells (es.set i e)
  | [], i, e, h => by simp at h
  | a :: r, 0, e, h => by simp [zcells, overl, zcell]
  | a :: r, i + 1, e, h => by
    have := zcells_set r i e (by simpa using h)
    simp only [overl, zcell, List.length_cons, List.length_nil] at this ⊢
    rw [show (i + 1) * 2 = i * 2 + 1 + 1 by omega, show i * 2 + 1 + 1 + (0 + 1 + 1) = i * 2 + (0 + 1 + 1) + 1 + 1 by omega]
    simp only [zcells, List.take_succ_cons, List.drop_succ_cons, List.cons_append, List.set_cons_succ, this]

theorem Zl.at {w : World} {A : Option Addr} {n cap : Nat} {zs : List Int} {ms : List Nat} (h : Zl w A n cap zs ms) {i : Nat} (hi : i < n) :
    ∃ p s B c, A.map (·.add (i * 2)) = some p ∧ (∀ w', Ext w w' → ∀ (P : Program) (T : TypeId), AggT P T 2 → (loadVar T p).run P w' = .ok (.agg #[.bool s, .slice B (ms.getD i 0) c]) w') ∧ Zi w s B (ms.getD i 0) c (zs.getD i 0) := by
  obtain ⟨a, s, B, c, rfl, h1, h2, h3⟩ := h.get i hi
  refine ⟨a.add (i * 2), s, B, c, rfl, fun w' e P T hT => load_at hT [.bool s, .slice B (ms.getD i 0) c] rfl (fun j hj => ?_), h3⟩
  rw [add_of_add]
  match j, hj with
  | 0, _ => exact e.cell h1
  | 1, _ => exact e.cell h2

/-- an element: of the call's own, in least form; or (where lists are mixed) as it came in -/
def El (m : Option World) (b : Nat) (w : World) (e : ZC) (z : Int) : Prop := Zr w b e.s e.A e.n e.c z ∨ ∃ w0, m = some w0 ∧ Zi w0 e.s e.A e.n e.c z
theorem El.ext {m : Option World} {b : Nat} {w w' : World} {e : ZC} {z : Int} (h : El m b w e z) (x : Ext w w') : El m b w' e z := h.imp (·.ext x) id
theorem El.updT {m : Option World} {b g : Nat} {w w' : World} {e : ZC} {z : Int} {T : TypeId} {us : List Value} (h : El m b w e z) (hb : Bk w g T us) (x : Upd g w w') (hT : 47 ≠ T := by decide) : El m b w' e z := h.imp (·.updT hb x hT) id
theorem Own.updOT {w w' : World} {b b' : Nat} {t T : TypeId} {s s' : Nat} {A B : Option Addr} {n cap m c : Nat} {vs us : List Value} (h : Own w b t s A n cap vs) (ho : Own w b' T s' B m c us) (hT : t ≠ T) (x : UpdO B w w') : Own w' b t s A n cap vs := by
  refine h.updO x (fun p q hp hq hg => ?_)
  rcases ho with ⟨h1, _⟩ | ⟨k, cs, hB, _, hk, _⟩
  · rw [h1] at hp; cases hp
  · rcases h with ⟨h2, _⟩ | ⟨k', cs', hA, _, hk', _⟩
    · rw [h2] at hq; cases hq
    · rw [hB] at hp; rw [hA] at hq
      cases hp; cases hq
      simp only at hg
      subst hg
      unfold Bk at hk hk'
      rw [hk] at hk'
      injection hk' with hk'
      injection hk' with e1 e2
      exact hT e2.symm
theorem Zr.updOT {w w' : World} {b b' : Nat} {s : Bool} {A B : Option Addr} {n cap m c s' : Nat} {z : Int} {T : TypeId} {us : List Value} (h : Zr w b s A n cap z) (ho : Own w b' T s' B m c us) (x : UpdO B w w') (hT : 47 ≠ T := by decide) : Zr w' b s A n cap z :=
  ⟨h.sgn, h.len, h.own.updOT ho hT x⟩
theorem El.updOT {m : Option World} {b b' : Nat} {w w' : World} {e : ZC} {z : Int} {B : Option Addr} {n c s' : Nat} {T : TypeId} {us : List Value} (h : El m b w e z) (ho : Own w b' T s' B n c us) (x : UpdO B w w') (hT : 47 ≠ T := by decide) : El m b w' e z := h.imp (·.updOT ho x hT) id
theorem El.zi {w0 : World} {b : Nat} {w : World} {e : ZC} {z : Int} (h : El (some w0) b w e z) (x : Ext w0 w) : Zi w e.s e.A e.n e.c z := by
  rcases h with h | ⟨w1, h1, h2⟩
  · exact h.zi
  · cases h1; exact h2.ext x
theorem El.zr {b : Nat} {w : World} {e : ZC} {z : Int} (h : El none b w e z) : Zr w b e.s e.A e.n e.c z := by
  rcases h with h | ⟨w1, h1, h2⟩
  · exact h
  · cases h1

/-- a list of integers in the call's own memory: made since lb; the words since b, or as they came in (m); none longer than K -/
def Lz (m : Option World) (K b : Nat) (w : World) (lb : Nat) (A : Option Addr) (n cap : Nat) (zs : List Int) : Prop :=
  ∃ es, Own w lb 27 2 A n cap (zcells es) ∧ es.length = n ∧ zs.length = n ∧ ∀ i, i < n → (es.getD i ZC.zero).n ≤ K ∧ El m b w (es.getD i ZC.zero) (zs.getD i 0)
section
variable {m : Option World} {K b lb : Nat} {w w' : World} {A : Option Addr} {n cap : Nat} {zs : List Int}
theorem Lz.own (h : Lz m K b w lb A n cap zs) : ∃ vs, Own w lb 27 2 A n cap vs := by obtain ⟨es, h1, _⟩ := h; exact ⟨_, h1⟩
theorem Lz.block (h : Lz m K b w lb A n cap zs) : ∀ a, A = some a → lb ≤ a.block ∧ a.block < w.heap.size := by obtain ⟨vs, h⟩ := h.own; exact h.block
theorem Lz.len (h : Lz m K b w lb A n cap zs) : zs.length = n := by obtain ⟨es, h1, h2, h3, h4⟩ := h; exact h3
theorem Lz.le (h : Lz m K b w lb A n cap zs) : n ≤ cap := by obtain ⟨vs, h⟩ := h.own; exact h.rv.le
theorem Lz.ext (h : Lz m K b w lb A n cap zs) (x : Ext w w') : Lz m K b w' lb A n cap zs := by
  obtain ⟨es, h1, h2, h3, h4⟩ := h
  exact ⟨es, h1.ext x, h2, h3, fun i hi => ⟨(h4 i hi).1, (h4 i hi).2.ext x⟩⟩
/-- a variable has turned -/
theorem Lz.updT {g : Nat} {T : TypeId} {us : List Value} (h : Lz m K b w lb A n cap zs) (hb : Bk w g T us) (x : Upd g w w') (hne : ∀ p, A = some p → p.block ≠ g) (hT : 47 ≠ T := by decide) : Lz m K b w' lb A n cap zs := by
  obtain ⟨es, h1, h2, h3, h4⟩ := h
  exact ⟨es, h1.upd x hne, h2, h3, fun i hi => ⟨(h4 i hi).1, (h4 i hi).2.updT hb x hT⟩⟩
/-- another list has turned -/
theorem Lz.updO {B : Option Addr} {lb' c k : Nat} {us : List Value} (h : Lz m K b w lb A n cap zs) (ho : Own w lb' 27 2 B k c us) (x : UpdO B w w') (hne : ∀ p q, B = some p → A = some q → p.block ≠ q.block) : Lz m K b w' lb A n cap zs := by
  obtain ⟨es, h1, h2, h3, h4⟩ := h
  exact ⟨es, h1.updO x hne, h2, h3, fun i hi => ⟨(h4 i hi).1, (h4 i hi).2.updOT ho x⟩⟩
theorem Lz.nil (m : Option World) (K b : Nat) (w : World) (lb : Nat) : Lz m K b w lb none 0 0 [] := ⟨[], Own.nil _ _ _ _, rfl, rfl, fun i hi => by omega⟩
theorem Lz.mono {K' b' lb' : Nat} (h : Lz m K b w lb A n cap zs) (hK : K ≤ K') (hb : b' ≤ b) (hl : lb' ≤ lb) : Lz m K' b' w lb' A n cap zs := by
  obtain ⟨es, h1, h2, h3, h4⟩ := h
  exact ⟨es, h1.mono hl, h2, h3, fun i hi => ⟨Nat.le_trans (h4 i hi).1 hK, (h4 i hi).2.imp (·.mono hb) id⟩⟩
theorem Lz.at (h : Lz m K b w lb A n cap zs) {i : Nat} (hi : i < n) :
    ∃ p s B k c, A.map (·.add (i * 2)) = some p ∧ (∀ w', Ext w w' → ∀ (P : Program) (T : TypeId), AggT P T 2 → (loadVar T p).run P w' = .ok (.agg #[.bool s, .slice B k c]) w') ∧ k ≤ K ∧ El m b w ⟨s, B, k, c⟩ (zs.getD i 0) := by
  obtain ⟨es, h1, h2, h3, h4⟩ := h
  obtain ⟨a, ha, hc⟩ := h1.rv.get (i * 2) (by omega)
  obtain ⟨a', ha', hc'⟩ := h1.rv.get (i * 2 + 1) (by omega)
  rw [ha] at ha'; cases ha'
  have g0 := zcells_get0 es i (by omega)
  have g1 := zcells_get1 es i (by omega)
  rw [List.getD_eq_getElem?_getD, g0] at hc
  rw [List.getD_eq_getElem?_getD, g1] at hc'
  refine ⟨a.add (i * 2), _, _, _, _, by rw [ha]; rfl, fun w' e P T hT => load_at hT [.bool (es.getD i ZC.zero).s, .slice (es.getD i ZC.zero).A (es.getD i ZC.zero).n (es.getD i ZC.zero).c] rfl (fun j hj => ?_), (h4 i hi).1, (h4 i hi).2⟩
  rw [add_of_add]
  match j, hj with
  | 0, _ => exact e.cell hc
  | 1, _ => exact e.cell hc'
/-- read as a list -/
theorem Lz.zl {w0 : World} (h : Lz (some w0) K b w lb A n cap zs) (x : Ext w0 w) : ∃ ms, Zl w A n cap zs ms ∧ ∀ i, ms.getD i 0 ≤ K := by
  obtain ⟨es, h1, h2, h3, h4⟩ := h
  have hms : ∀ i, i < n → (es.map (·.n)).getD i 0 = (es.getD i ZC.zero).n := fun i hi => by
    simp [List.getD_eq_getElem?_getD, List.getElem?_map, List.getElem?_eq_getElem (show i < es.length by omega)]
  refine ⟨es.map (·.n), ⟨h3, by rw [List.length_map, h2], h1.rv.le, h1.rv.max, fun i hi => ?_⟩, fun i => ?_⟩
  · obtain ⟨a, ha, hc⟩ := h1.rv.get (i * 2) (by omega)
    obtain ⟨a', ha', hc'⟩ := h1.rv.get (i * 2 + 1) (by omega)
    rw [ha] at ha'; cases ha'
    have g0 := zcells_get0 es i (by omega)
    have g1 := zcells_get1 es i (by omega)
    rw [List.getD_eq_getElem?_getD, g0] at hc
    rw [List.getD_eq_getElem?_getD, g1] at hc'
    rw [hms i hi]
    exact ⟨a, _, _, _, ha, hc, hc', (h4 i hi).2.zi x⟩
  · by_cases hi : i < n
    · rw [hms i hi]; exact (h4 i hi).1
    · rw [List.getD_eq_getElem?_getD, List.getElem?_eq_none (by rw [List.length_map]; omega)]; exact Nat.zero_le _
theorem getD_app_l {α : Type} {l r : List α} {i : Nat} {d : α} (h : i < l.length) : (l ++ r).getD i d = l.getD i d := by
  rw [List.getD_eq_getElem?_getD, List.getD_eq_getElem?_getD, List.getElem?_append_left h]
theorem getD_app_m {α : Type} {l r : List α} {a d : α} : (l ++ a :: r).getD l.length d = a := by
  rw [List.getD_eq_getElem?_getD, List.getElem?_append_right (Nat.le_refl _), Nat.sub_self]; rfl
/-- one element more; the memory is as an append leaves it -/
theorem Lz.app (h : Lz m K b w lb A n cap zs) {e : ZC} {z : Int} (he : El m b w e z) (hK : e.n ≤ K) {A' : Option Addr} {cap' : Nat} (ho : ∀ es : List ZC, Own w lb 27 2 A n cap (zcells es) → es.length = n → Own w' lb 27 2 A' (n + 1) cap' (zcells es ++ zcell e))
    (x : UpdO A w w') : Lz m K b w' lb A' (n + 1) cap' (zs ++ [z]) := by
  obtain ⟨es, h1, h2, h3, h4⟩ := h
  refine ⟨es ++ [e], by rw [zcells_app]; exact ho es h1 h2, by simp [h2], by simp [h3], fun i hi => ?_⟩
  by_cases hin : i < n
  · rw [getD_app_l (by omega), getD_app_l (by omega)]
    exact ⟨(h4 i hin).1, (h4 i hin).2.updOT h1 x⟩
  · have e1 : i = n := by omega
    subst e1
    have e2 : (es ++ [e]).getD i ZC.zero = e := by rw [← h2]; exact getD_app_m
    have e3 : (zs ++ [z]).getD i 0 = z := by rw [← h3]; exact getD_app_m
    rw [e2, e3]
    exact ⟨hK, he.updOT h1 x⟩
end
theorem kept_ne {w : World} {A A' : Option Addr} {g : Nat} (h : Kept w A A') (hg : g < w.heap.size) (hne : ∀ p, A = some p → p.block ≠ g) : ∀ p, A' = some p → p.block ≠ g := fun p hp => by
  rcases h p hp with ⟨a, ha, e⟩ | e
  · rw [e]; exact hne a ha
  · omega
theorem kept_dis {w : World} {A A' B : Option Addr} (h : Kept w A A') (hB : ∀ q, B = some q → q.block < w.heap.size) (hne : ∀ p q, A = some p → B = some q → p.block ≠ q.block) : ∀ p q, A' = some p → B = some q → p.block ≠ q.block := fun p q hp hq => by
  rcases h p hp with ⟨a, ha, e⟩ | e
  · rw [e]; exact hne a q ha hq
  · have := hB q hq; omega
section
variable {Q : Exit → Act → World → Prop} {N : Nat} {l : Fr} {w : World} {ops : Array Oper} {rest : List Oper} {d : Nat} {ty : TypeId} {pos : String} {af : Array Edge} {gd : Option (Nat × Bool)}
/-- append(x, e) -/
theorem wl_appI {m : Option World} {K b lb : Nat} {A : Option Addr} {n cap : Nat} {zs : List Int} {x y : Operand} {g c : Nat} {e : ZC} {z : Int} (hw : guardB ops l gd = some true) (hx : evo l x = some (.slice A n cap)) (hy : evo l y = some (.slice (some ⟨g, 0, none⟩) 1 c))
    (h : Lz m K b w lb A n cap zs) (hlb : lb ≤ w.heap.size) (hb : Bk w g 27 (zcell e)) (he : El m b w e z) (hK : e.n ≤ K) (hm : n ≤ 1099511627775) (hd : d < N)
    (k : ∀ A' cap' w', Lz m K b w' lb A' (n + 1) cap' (zs ++ [z]) → UpdO A w w' → Kept w A A' → wl Try.prog ops Q N rest ((d, .slice A' (n + 1) cap') :: l) w') :
    wl Try.prog ops Q N (⟨some d, .call { callee := .builtin .append, args := #[x, y], argTypes := #[22, 22] }, ty, pos, af, gd⟩ :: rest) l w := by
  obtain ⟨es, h1, h2, h3, h4⟩ := h
  refine wl_app hw hx hy elemI infoI rfl (by decide) (by decide) h1 hlb (zcell e) rfl (fun j u hj => ?_) rfl (by omega) hd fun A' cap' w' ho hu hk => k A' cap' w' ?_ hu hk
  · have hjl : j < (zcell e).length := (List.getElem?_eq_some_iff.1 hj).1
    rw [add_lit0, Nat.zero_add, hb.cell hjl, List.getD_eq_getElem?_getD, hj]; rfl
  · refine ⟨es ++ [e], by rw [zcells_app]; exact ho, by simp [h2], by simp [h3], fun i hi => ?_⟩
    by_cases hin : i < n
    · rw [getD_app_l (by omega), getD_app_l (by omega)]
      exact ⟨(h4 i hin).1, (h4 i hin).2.updOT h1 hu⟩
    · have e1 : i = n := by omega
      subst e1
      have e2 : (es ++ [e]).getD i ZC.zero = e := by rw [← h2]; exact getD_app_m
      have e3 : (zs ++ [z]).getD i 0 = z := by rw [← h3]; exact getD_app_m
      rw [e2, e3]
      exact ⟨hK, he.updOT h1 hu⟩
/-- make([]api.Int, 0, k) -/
theorem wl_makeI {x y : Operand} {k : Nat} (m : Option World) (K b : Nat) (hw : guardB ops l gd = some true) (hx : evo l x = some (.int .i64 0)) (hy : evo l y = some (.int .i64 (k : Int))) (hk : k ≤ 1099511627776) (hd : d < N)
    (h : ∀ g w', w.heap.size = g → Lz m K b w' g (some ⟨g, 0, none⟩) 0 k [] → Ext w w' → wl Try.prog ops Q N rest ((d, .slice (some ⟨g, 0, none⟩) 0 k) :: l) w') : wl Try.prog ops Q N (⟨some d, .makeSlice 22 x y, ty, pos, af, gd⟩ :: rest) l w := by
  obtain ⟨i, hi, hz0, hz1, hz2⟩ := info_parts infoI
  have hr := run_make (P := Try.prog) w 22 27 i _ elemI hi hz0 .i64 .i64 0 (k : Int) (by omega) (by omega) (by rw [hz2]; omega) (by omega)
  rw [Int.toNat_natCast, show (0 : Int).toNat = 0 from rfl, hz1] at hr
  obtain ⟨cs, hcs, hcl⟩ : ∃ cs : List Value, madeCells (Value.agg #[.bool false, .slice none 0 0]).cells (k * 2) = cs.toArray ∧ cs.length = k * 2 := ⟨(madeCells (Value.agg #[.bool false, .slice none 0 0]).cells (k * 2)).toList, Array.toArray_toList.symm, by rw [Array.length_toList, size_madeCells]⟩
  rw [hcs] at hr
  refine wl_val hw hd (fun a' ha => ?_) (h _ (w.alloc (.cells cs.toArray 27)) rfl ⟨[], Or.inr ⟨w.heap.size, cs, rfl, Nat.le_refl _, Bk.new _ _ _, Nat.zero_le _, by rw [len_maxLen]; omega, hcl, rfl⟩, rfl, rfl, fun i hi => by omega⟩ ((Ext.refl w).alloc _))
  have e' : (Instr.makeSlice 22 (a'.eval x) (a'.eval y)).run Try.prog w = .ok (.slice (some ⟨w.heap.size, 0, none⟩) 0 k) (w.alloc (.cells cs.toArray 27)) := by rw [ha.ev hx, ha.ev hy]; exact hr
  show ((Instr.makeSlice 22 (a'.eval x) (a'.eval y) >>= fun r => pure (Next.value r) : Sem Next)).run Try.prog w = _
  rw [Sem.run_bind, e']; rfl
/-- x[i] = e -/
theorem wl_setI {m : Option World} {K b lb : Nat} {A : Option Addr} {n cap i : Nat} {zs : List Int} {x y : Operand} {p : Addr} {e : ZC} {z : Int} (hw : guardB ops l gd = some true) (hx : evo l x = some (.pointer (some p))) (hy : evo l y = some (.agg #[.bool e.s, .slice e.A e.n e.c]))
    (hp : A.map (·.add (i * 2)) = some p) (hi : i < n) (h : Lz m K b w lb A n cap zs) (he : El m b w e z) (hK : e.n ≤ K)
    (k : ∀ w', Lz m K b w' lb A n cap (zs.set i z) → UpdO A w w' → wl Try.prog ops Q N rest l w') :
    wl Try.prog ops Q N (⟨none, .store 27 x y, ty, pos, af, gd⟩ :: rest) l w := by
  obtain ⟨es, h1, h2, h3, h4⟩ := h
  have h1' := h1
  rcases h1 with ⟨rfl, _⟩ | ⟨g, cs, rfl, hg, hk, hn, hcm, hcl, hv⟩
  · cases hp
  · have hp' : p = ⟨g, i * 2, none⟩ := by
      injection hp with hp
      rw [← hp]
      show (⟨g, 0, none⟩ : Addr).add (i * 2) = _
      rw [add_lit0, Nat.zero_add]
    subst hp'
    have hle := Nat.mul_le_mul_right 2 hn
    refine wl_stored hw hx (us := zcell e) hy aggInt rfl hk (by omega) rfl _ rfl fun w' hb2 hu hs => k w' ⟨es.set i e, Or.inr ⟨g, _, rfl, hg, hb2, hn, hcm, ?_, ?_⟩, by simp [h2], by simp [h3], fun j hj => ?_⟩ hu.updO
    · unfold overl
      simp only [List.length_append, List.length_take, List.length_drop, zcell, List.length_cons, List.length_nil]
      omega
    · rw [← zcells_set es i e (by omega), ← hv]
      have hi2 : i * 2 + 2 ≤ n * 2 := by omega
      have hz : (zcell e).length = 2 := rfl
      unfold overl
      rw [hz, List.take_append, List.take_append, List.take_take, List.take_take, List.length_append, List.length_take, Nat.min_eq_left (by omega : i * 2 ≤ cs.length), hz, Nat.min_eq_right (by omega), Nat.min_eq_left (by omega)]
      congr 1
      · congr 1
        exact List.take_of_length_le (by rw [hz]; omega)
      · rw [List.drop_take]
    · by_cases hji : j = i
      · subst hji
        have e1 : (es.set j e).getD j ZC.zero = e := by simp [List.getD_eq_getElem?_getD, List.getElem?_set, h2, hj]
        have e2 : (zs.set j z).getD j 0 = z := by simp [List.getD_eq_getElem?_getD, List.getElem?_set, h3, hj]
        rw [e1, e2]
        exact ⟨hK, he.updOT h1' hu.updO⟩
      · have e1 : (es.set i e).getD j ZC.zero = es.getD j ZC.zero := by simp [List.getD_eq_getElem?_getD, List.getElem?_set, Ne.symm hji]
        have e2 : (zs.set i z).getD j 0 = zs.getD j 0 := by simp [List.getD_eq_getElem?_getD, List.getElem?_set, Ne.symm hji]
        rw [e1, e2]
        exact ⟨(h4 j hj).1, (h4 j hj).2.updOT h1' hu.updO⟩
end
end Go.Proofs.Ytmaconeeonkdgaa
