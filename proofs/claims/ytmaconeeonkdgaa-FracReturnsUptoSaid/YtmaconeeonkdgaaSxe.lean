/- A region that draws its order and whose operations all do one certain thing: loads, arithmetic, stores (no call, nothing new). No program in sight. -/
import Derived.Test.YtmaconeeonkdgaaSxd
namespace Go.Proofs.Ytmaconeeonkdgaa
open Go.RowKit

/-- an operation does just this, from a frame of which l is known -/
def RunD (P : Program) (n : Nat) (l : Fr) (o : Oper) (w : World) (x : Next) (w' : World) : Prop := ∀ a, Rp n l a → (execOp a.eval o).run P w = .ok x w'
section
variable {P : Program} {n : Nat} {l : Fr} {w : World} {d : Nat} {op : Op} {ty : TypeId} {pos : String} {af : Array Edge} {gd : Option (Nat × Bool)}
theorem rd_pure {v : Value} {dst : Option Tmp} (hk : known l op = true) (hr : (execOp (rho l) ⟨dst, op, ty, pos, af, gd⟩).run P w = .ok (.value v) w) : RunD P n l ⟨dst, op, ty, pos, af, gd⟩ w (.value v) w := fun a ha => by rw [exec_known hk ha]; exact hr
theorem rd_load {x : Operand} {t : TypeId} {p : Addr} {v : Value} {dst : Option Tmp} (hx : evo l x = some (.pointer (some p))) (hl : (loadVar t p).run P w = .ok v w) : RunD P n l ⟨dst, .load t x, ty, pos, af, gd⟩ w (.value v) w := fun a ha => by
  have e : (Instr.loadAt t (a.eval x)).run P w = .ok v w := by rw [ha.ev hx]; exact hl
  show ((Instr.loadAt t (a.eval x) >>= fun r => pure (Next.value r) : Sem Next)).run P w = _
  rw [Sem.run_bind, e]; rfl
theorem rd_store {x y : Operand} {t : TypeId} {p : Addr} {v : Value} {w' : World} {dst : Option Tmp} (hx : evo l x = some (.pointer (some p))) (hy : evo l y = some v) (hs : (storeVar t p v).run P w = .ok () w') : RunD P n l ⟨dst, .store t x y, ty, pos, af, gd⟩ w .skip w' := fun a ha => by
  have e : (Instr.storeAt t (a.eval x) (a.eval y)).run P w = .ok () w' := by rw [ha.ev hx, ha.ev hy]; exact hs
  show ((Instr.storeAt t (a.eval x) (a.eval y) >>= fun _ => pure Next.skip : Sem Next)).run P w = _
  rw [Sem.run_bind, e]; rfl
theorem rd_assign {x : Operand} {v : Value} {dst : Option Tmp} (hx : evo l x = some v) : RunD P n l ⟨dst, .assign x, ty, pos, af, gd⟩ w (.value v) w := fun a ha => by simp only [execOp, ha.ev hx]; rfl
theorem rd_move {x : Operand} {v : Value} {dst : Option Tmp} (hx : evo l x = some v) : RunD P n l ⟨dst, .move x, ty, pos, af, gd⟩ w (.value v) w := fun a ha => by simp only [execOp, ha.ev hx]; rfl
end

/-- the slots of the operations ds -/
def dfr (ol : List Oper) (vs : List Value) (l : Fr) : List Nat → Fr
  | [] => l
  | j :: ds => putl (dstOf ol j) ((vs[j]?).getD undef) (dfr ol vs l ds)
def wv (ws : List World) (w : World) (t : Nat) : World := (ws[t]?).getD w
section
variable (P : Program) (n : Nat) (ol : List Oper) (vs : List Value) (ws : List World) (w : World) (dss : List (List Nat)) (l : Fr) (st : List Nat)
/-- operation i behind t stores -/
def DOb (i t : Nat) : Prop :=
  match ol[i]? with
  | some o => if st.contains i then RunD P n (dfr ol vs l (rch dss i)) o (wv ws w t) .skip (wv ws w (t + 1)) else RunD P n (dfr ol vs l (rch dss i)) o (wv ws w t) (.value ((vs[i]?).getD undef)) (wv ws w t)
  | none => True
def DObs : List (Nat × Nat) → Prop
  | [] => True
  | (i, t) :: r => DOb P n ol vs ws w dss l st i t ∧ DObs r
/-- all slots at the end -/
def allFr (ol : List Oper) (vs : List Value) (l : Fr) : Fr := dfr ol vs l (List.range ol.length)
end
/-- how many of the stores are among js -/
def cnt (st js : List Nat) : Nat := (st.filter fun s => js.contains s).length
def detOk (n : Nat) (ol : List Oper) (st : List Nat) (l : Fr) (dss rl : List (List Nat)) (ps : List (Nat × Nat)) : Bool :=
  (ol.zipIdx.all fun (o, i) => (match o.guard with | none => true | some _ => false) && (o.after.toList.all fun e => !Region.binds .any e || decide (e.on < i)) &&
    ((rch rl i).all fun j => decide (j < i) && o.after.toList.any fun e => Region.binds .any e && (e.on == j || (rch rl e.on).contains j)) &&
    ((rch dss i).all fun j => (rch rl i).contains j) &&
    (match o.dst with
     | some d => !st.contains i && decide (d < n) && l.all (fun p => p.1 != d) && ol.zipIdx.all (fun (o', j) => j == i || o'.dst != some d)
     | none => st.contains i) &&
    (List.range (st.length + 1)).all (fun t => decide (t < cnt st (rch rl i)) || (t != 0 && (rch rl (st.getD (t - 1) 0)).contains i) || (st.contains i && t != cnt st (rch rl i)) || ps.contains (i, t))) &&
  (List.range st.length).all (fun t => decide (st.getD t 0 < ol.length) && (List.range t).all fun u => (rch rl (st.getD t 0)).contains (st.getD u 0))
structure DetOk (n : Nat) (ol : List Oper) (st : List Nat) (l : Fr) (dss rl : List (List Nat)) (ps : List (Nat × Nat)) : Prop where
  guard : ∀ (i : Nat) (o : Oper), ol[i]? = some o → o.guard = none
  back : ∀ (i : Nat) (o : Oper), ol[i]? = some o → ∀ e ∈ o.after, Region.binds .any e = true → e.on < i
  reach : ∀ (i : Nat) (o : Oper), ol[i]? = some o → ∀ j ∈ rch rl i, j < i ∧ ∃ e ∈ o.after, Region.binds .any e = true ∧ (e.on = j ∨ j ∈ rch rl e.on)
  deps : ∀ (i : Nat) (o : Oper), ol[i]? = some o → ∀ j ∈ rch dss i, j ∈ rch rl i
  val : ∀ (i : Nat) (o : Oper), ol[i]? = some o → ∀ d, o.dst = some d → i ∉ st ∧ d < n ∧ (∀ p ∈ l, p.1 ≠ d) ∧ ∀ (j : Nat) (o' : Oper), ol[j]? = some o' → j ≠ i → o'.dst ≠ some d
  sto : ∀ (i : Nat) (o : Oper), ol[i]? = some o → o.dst = none → i ∈ st
  pair : ∀ (i : Nat) (o : Oper), ol[i]? = some o → ∀ t, t ≤ st.length → cnt st (rch rl i) ≤ t → (t = 0 ∨ i ∉ rch rl (st.getD (t - 1) 0)) → (i ∈ st → t = cnt st (rch rl i)) → (i, t) ∈ ps
  inN : ∀ t, t < st.length → st.getD t 0 < ol.length
  ord : ∀ t, t < st.length → ∀ u, u < t → st.getD u 0 ∈ rch rl (st.getD t 0)
theorem detOk_spec {n : Nat} {ol : List Oper} {st : List Nat} {l : Fr} {dss rl : List (List Nat)} {ps : List (Nat × Nat)} (h : detOk n ol st l dss rl ps = true) : DetOk n ol st l dss rl ps := by
  simp only [detOk, Bool.and_eq_true] at h
  obtain ⟨h1, h2⟩ := h
  have key := fun (i : Nat) (o : Oper) (ho : ol[i]? = some o) => all_zipIdx h1 i o ho
  simp only [Bool.and_eq_true] at key
  have key2 : ∀ t, t < st.length → st.getD t 0 < ol.length ∧ ∀ u, u < t → st.getD u 0 ∈ rch rl (st.getD t 0) := by
    intro t ht
    rw [List.all_eq_true] at h2
    have := h2 t (List.mem_range.2 ht)
    simp only [Bool.and_eq_true, decide_eq_true_eq, List.all_eq_true, List.mem_range, List.contains_iff_mem] at this
    exact this
  refine ⟨fun i o ho => ?_, fun i o ho e he hb => ?_, fun i o ho j hj => ?_, fun i o ho j hj => ?_, fun i o ho d hd => ?_, fun i o ho hd => ?_, fun i o ho t ht hc hz hs => ?_, fun t ht => (key2 t ht).1, fun t ht => (key2 t ht).2⟩
  · have := (key i o ho).1.1.1.1.1
    cases hg : o.guard with
    | none => rfl
    | some g => rw [hg] at this; cases this
  · have := (key i o ho).1.1.1.1.2
    rw [List.all_eq_true] at this
    have := this e (by simpa using he)
    simpa [hb] using this
  · have := (key i o ho).1.1.1.2
    rw [List.all_eq_true] at this
    have := this j hj
    simp only [Bool.and_eq_true, decide_eq_true_eq, List.any_eq_true, Bool.or_eq_true, beq_iff_eq, List.contains_iff_mem] at this
    obtain ⟨h3, e, he, hb, h4⟩ := this
    exact ⟨h3, e, by simpa using he, hb, h4⟩
  · have := (key i o ho).1.1.2
    rw [List.all_eq_true] at this
    simpa using this j hj
  · have := (key i o ho).1.2
    rw [hd] at this
    simp only [Bool.and_eq_true, Bool.not_eq_true', decide_eq_true_eq] at this
    obtain ⟨⟨⟨h3, h4⟩, h5⟩, h6⟩ := this
    refine ⟨fun hm => ?_, h4, fun p hp => ?_, fun j o' ho' hne e => ?_⟩
    · rw [List.contains_iff_mem.2 hm] at h3; cases h3
    · rw [List.all_eq_true] at h5
      simpa using h5 p hp
    · have := all_zipIdx h6 j o' ho'
      simp only [Bool.or_eq_true, beq_iff_eq, bne_iff_ne] at this
      rcases this with h | h
      · exact hne h
      · exact h e
  · have := (key i o ho).1.2
    rw [hd] at this
    exact List.contains_iff_mem.1 this
  · have := (key i o ho).2
    rw [List.all_eq_true] at this
    have := this t (List.mem_range.2 (by omega))
    simp only [Bool.or_eq_true, Bool.and_eq_true, decide_eq_true_eq, bne_iff_ne, ne_eq, List.contains_iff_mem] at this
    rcases this with ((h | h) | h) | h
    · omega
    · rcases hz with h0 | h0
      · exact absurd h0 h.1
      · exact absurd h.2 h0
    · exact absurd (hs h.1) h.2
    · exact h

section
variable {P : Program} {Q : Exit → Act → World → Prop} {n : Nat} {ol : List Oper} {vs : List Value} {ws : List World} {w : World} {dss rl : List (List Nat)} {l : Fr} {st : List Nat} {ps : List (Nat × Nat)}
theorem dobs_get : ∀ {ps : List (Nat × Nat)}, DObs P n ol vs ws w dss l st ps → ∀ i t, (i, t) ∈ ps → DOb P n ol vs ws w dss l st i t
  | [], _, i, t, h => by cases h
  | (j, u) :: r, h, i, t, hm => by
    rcases List.mem_cons.1 hm with e | e
    · cases e; exact h.1
    · exact dobs_get h.2 i t e
theorem Rp.dfr {a : Act} (hr : Rp n l a) : ∀ (ds : List Nat), (∀ j ∈ ds, ∀ d, dstOf ol j = some d → a.tmps.getD d undef = (vs[j]?).getD undef) → Rp n (Go.Proofs.Ytmaconeeonkdgaa.dfr ol vs l ds) a
  | [], _ => hr
  | j :: ds, h => by
    have ih := Rp.dfr hr ds (fun i hi => h i (by simp [hi]))
    simp only [Go.Proofs.Ytmaconeeonkdgaa.dfr]
    cases hd : dstOf ol j with
    | none => exact ih
    | some d => exact ih.cons (h j (by simp) d hd)
theorem closed_reach {listed : Array Bool} (hk : DetOk n ol st l dss rl ps) (h : Closed ol listed) : ∀ (i : Nat) (o : Oper), ol[i]? = some o → (∀ e ∈ o.after, Region.binds .any e = true → listed.getD e.on false = true) → ∀ j ∈ rch rl i, listed.getD j false = true := by
  intro i
  induction i using Nat.strongRecOn with
  | ind i ih =>
    intro o ho hall j hj
    obtain ⟨_, e, he, hb, h1⟩ := hk.reach i o ho j hj
    have hlt := hk.back i o ho e he hb
    rcases h1 with h1 | h1
    · rw [← h1]; exact hall e he hb
    · have hN : e.on < ol.length := Nat.lt_trans hlt (List.getElem?_eq_some_iff.1 ho).1
      exact ih e.on hlt _ (List.getElem?_eq_getElem hN) (h e.on _ (List.getElem?_eq_getElem hN) (hall e he hb)) j h1
theorem cnt_le {js : List Nat} {t : Nat} (h : ∀ u, t ≤ u → u < st.length → st.getD u 0 ∉ js) : cnt st js ≤ t := by
  unfold cnt
  have e : st.filter (fun s => js.contains s) = (st.take t).filter (fun s => js.contains s) ++ (st.drop t).filter (fun s => js.contains s) := by rw [← List.filter_append, List.take_append_drop]
  have e2 : (st.drop t).filter (fun s => js.contains s) = [] := by
    refine List.filter_eq_nil_iff.2 fun s hs => ?_
    obtain ⟨u, hu, rfl⟩ := List.getElem_of_mem hs
    rw [List.length_drop] at hu
    have := h (t + u) (by omega) (by omega)
    rw [List.getElem_drop]
    rw [List.getD_eq_getElem?_getD, List.getElem?_eq_getElem (by omega)] at this
    simpa using this
  rw [e, e2, List.append_nil]
  refine Nat.le_trans (List.length_filter_le _ _) ?_
  rw [List.length_take]; omega
theorem le_cnt {js : List Nat} {t : Nat} (ht : t ≤ st.length) (h : ∀ u, u < t → st.getD u 0 ∈ js) : t ≤ cnt st js := by
  unfold cnt
  have e : st.filter (fun s => js.contains s) = (st.take t).filter (fun s => js.contains s) ++ (st.drop t).filter (fun s => js.contains s) := by rw [← List.filter_append, List.take_append_drop]
  have e2 : (st.take t).filter (fun s => js.contains s) = st.take t := by
    refine List.filter_eq_self.2 fun s hs => ?_
    obtain ⟨u, hu, rfl⟩ := List.getElem_of_mem hs
    rw [List.length_take] at hu
    have := h u (by omega)
    rw [List.getElem_take]
    rw [List.getD_eq_getElem?_getD, List.getElem?_eq_getElem (by omega)] at this
    simpa using this
  rw [e, e2, List.length_append, List.length_take]; omega
theorem det_any (hk : DetOk n ol st l dss rl ps) (ho : DObs P n ol vs ws w dss l st ps) (hfin : eo Q .normal n (allFr ol vs l) (wv ws w st.length)) :
    ∀ (fuel : Nat) (listed : Array Bool) (a : Act) (t : Nat), unl ol.length listed ≤ fuel → listed.size = ol.length → Closed ol listed → t ≤ st.length → (∀ u, u < st.length → listed.getD (st.getD u 0) false = decide (u < t)) → Rp n l a →
      (∀ i, i < ol.length → listed.getD i false = true → ∀ d, dstOf ol i = some d → a.tmps.getD d undef = (vs[i]?).getD undef) → wpAny P .any ol.toArray Q fuel listed a (wv ws w t) := by
  have fin : ∀ (listed : Array Bool) (a : Act) (t : Nat), (∀ i, i < ol.length → listed.getD i false = true) → t ≤ st.length → (∀ u, u < st.length → listed.getD (st.getD u 0) false = decide (u < t)) → Rp n l a →
      (∀ i, i < ol.length → listed.getD i false = true → ∀ d, dstOf ol i = some d → a.tmps.getD d undef = (vs[i]?).getD undef) → Q .normal a (wv ws w t) := by
    intro listed a t hall ht hst hr hv
    have e : t = st.length := by
      rcases Nat.lt_or_ge t st.length with h | h
      · have h1 := hst t h
        rw [hall _ (hk.inN t h)] at h1
        simp at h1
      · omega
    subst e
    exact hfin a (hr.dfr _ fun j hj d hd => hv j (List.mem_range.1 hj) (hall j (List.mem_range.1 hj)) d hd)
  intro fuel
  induction fuel with
  | zero =>
    intro listed a t hf hs hcl ht hst hr hv
    have hall : ∀ i, i < ol.length → listed.getD i false = true := by
      intro i hi
      cases h : listed.getD i false with
      | true => rfl
      | false => have := unl_set hi hs h; omega
    refine ⟨?_, fin listed a t hall ht hst hr hv⟩
    refine List.eq_nil_iff_forall_not_mem.2 fun j hj => ?_
    obtain ⟨h1, o, hoj, _⟩ := ready_iff.1 hj
    have hjl : j < ol.length := (List.getElem?_eq_some_iff.1 hoj).1
    rw [getD_tf (by omega), hall j hjl] at h1
    cases h1
  | succ fuel ih =>
    intro listed a t hf hs hcl ht hst hr hv
    refine ⟨fun h0 => ?_, fun i hir => ?_⟩
    · refine fin listed a t (fun i hi => ?_) ht hst hr hv
      -- else the least that is not listed were ready
      have key : ∀ k, k ≤ ol.length → ∀ i, i < k → listed.getD i false = true := by
        intro k
        induction k with
        | zero => intro _ i hi; omega
        | succ k ihk =>
          intro hk' i hi
          have ih' := ihk (by omega)
          rcases Nat.lt_or_ge i k with h | h
          · exact ih' i h
          · have e : i = k := by omega
            subst e
            cases hb : listed.getD i false with
            | true => rfl
            | false =>
              have hrdy : i ∈ Region.ready .any ol.toArray listed := ready_iff.2 ⟨by rw [getD_tf (by omega)]; exact hb, _, List.getElem?_eq_getElem (by omega), fun e he hbb => ih' _ (hk.back i _ (List.getElem?_eq_getElem (by omega)) e he hbb)⟩
              rw [h0] at hrdy; cases hrdy
      exact key ol.length (Nat.le_refl _) i hi
    · obtain ⟨hun, o, hoi, hall⟩ := ready_iff.1 hir
      have hil : i < ol.length := (List.getElem?_eq_some_iff.1 hoi).1
      have hun' : listed.getD i false = false := by rw [← getD_tf (by omega)]; exact hun
      have hrch := closed_reach hk hcl i o hoi hall
      have hcnt : cnt st (rch rl i) ≤ t := cnt_le fun u hu1 hu2 hm => by
        have h1 := hrch _ hm
        rw [hst u hu2] at h1
        simp at h1; omega
      have hzero : t = 0 ∨ i ∉ rch rl (st.getD (t - 1) 0) := by
        rcases Nat.eq_zero_or_pos t with h | h
        · exact Or.inl h
        · refine Or.inr fun hm => ?_
          have h1 := hst (t - 1) (by omega)
          rw [decide_eq_true (by omega)] at h1
          have hN := hk.inN (t - 1) (by omega)
          have h2 := closed_reach hk hcl _ _ (List.getElem?_eq_getElem hN) (fun e he hb => hcl _ _ (List.getElem?_eq_getElem hN) h1 e he hb) i hm
          rw [hun'] at h2; cases h2
      have hstore : i ∈ st → t < st.length ∧ st.getD t 0 = i ∧ t = cnt st (rch rl i) := by
        intro hm
        obtain ⟨u, hu, heq⟩ := List.getElem_of_mem hm
        have hg : st.getD u 0 = i := by rw [List.getD_eq_getElem?_getD, List.getElem?_eq_getElem hu]; exact heq
        have h1 := hst u hu
        rw [hg, hun'] at h1
        have h2 : ¬ u < t := by intro h; rw [decide_eq_true h] at h1; cases h1
        have h3 : u = t := by
          rcases Nat.lt_or_ge t u with h | h
          · have h4 := hk.ord u hu t h
            rw [hg] at h4
            have h5 := hrch _ h4
            rw [hst t (by omega)] at h5
            simp at h5
          · omega
        subst h3
        refine ⟨hu, hg, ?_⟩
        have h4 := le_cnt (st := st) (js := rch rl i) (t := u) (by omega) (fun v hv' => by rw [← hg]; exact hk.ord u hu v hv')
        omega
      have hob := dobs_get ho i t (hk.pair i o hoi t ht hcnt hzero (fun hm => (hstore hm).2.2))
      unfold DOb at hob
      rw [hoi] at hob
      simp only at hob
      have hacc : Rp n (dfr ol vs l (rch dss i)) a := hr.dfr _ fun j hj d hd => by
        have h1 := hrch j (hk.deps i o hoi j hj)
        have h2 := (hk.reach i o hoi j (hk.deps i o hoi j hj)).1
        exact hv j (by omega) h1 d hd
      have hwant : Region.wanted o (yielded ol.toArray a.tmps) = true := by simp [Region.wanted, hk.guard i o hoi]
      unfold wpOp
      rw [arr_get, hoi]
      simp only
      rw [if_pos hwant]
      refine Or.inl ?_
      unfold Oper.wp
      cases hd : o.dst with
      | some d =>
        obtain ⟨hnst, hdn, hfar, hoth⟩ := hk.val i o hoi d hd
        rw [if_neg (by simpa using hnst)] at hob
        rw [hob a hacc]
        simp only [Oper.upon, hd]
        refine ih _ _ t (by have := unl_set hil hs hun'; omega) (by simpa using hs) (hcl.set hoi hall) ht (fun u hu => ?_) (hr.put_far hfar _) (fun j hj hlj e he => ?_)
        · rw [getD_set_ne false (fun e => hnst (by rw [e, List.getD_eq_getElem?_getD, List.getElem?_eq_getElem hu]; exact List.getElem_mem hu))]
          exact hst u hu
        · by_cases hij : i = j
          · subst hij
            have e1 : dstOf ol i = some d := by unfold dstOf; rw [hoi]; exact hd
            rw [e1] at he
            cases he
            exact slotv_put hr.size hdn _
          · rw [getD_set_ne false hij] at hlj
            have hne : e ≠ d := by
              intro hed
              subst hed
              obtain ⟨oj, hoj⟩ : ∃ oj, ol[j]? = some oj := ⟨_, List.getElem?_eq_getElem hj⟩
              refine hoth j oj hoj (Ne.symm hij) ?_
              unfold dstOf at he
              rw [hoj] at he
              exact he
            have := slotv_far (a := a) (d := d) (e := some e) (fun h => hne (Option.some.inj h)) ((vs[i]?).getD undef)
            exact this.trans (hv j hj hlj e he)
      | none =>
        have hm := hk.sto i o hoi hd
        obtain ⟨htl, hgt, _⟩ := hstore hm
        rw [if_pos (by simpa using hm)] at hob
        rw [hob a hacc]
        simp only [Oper.upon, hd]
        refine ih _ _ (t + 1) (by have := unl_set hil hs hun'; omega) (by simpa using hs) (hcl.set hoi hall) (by omega) (fun u hu => ?_) hr (fun j hj hlj e he => ?_)
        · by_cases hut : u = t
          · subst hut
            rw [hgt]
            simp [hs, hil]
          · have hne : i ≠ st.getD u 0 := by
              intro e
              -- two stores of one number: impossible by their order
              rcases Nat.lt_or_ge u t with h | h
              · have h1 := hst u hu
                rw [← e, hun', decide_eq_true h] at h1; cases h1
              · have h4 := hk.ord u hu t (by omega)
                rw [hgt, ← e] at h4
                have := (hk.reach i o hoi i h4).1
                omega
            rw [getD_set_ne false hne, hst u hu]
            congr 1
            simp only [eq_iff_iff]
            omega
        · by_cases hij : i = j
          · subst hij
            have e1 : dstOf ol i = none := by unfold dstOf; rw [hoi]; exact hd
            rw [e1] at he; cases he
          · rw [getD_set_ne false hij] at hlj
            exact hv j hj hlj e he
/-- a region of certain operations -/
theorem cw_det {id : Nat} (hmix : P.follows .mixedOrders = true) (vs : List Value) (ws : List World) (st : List Nat) (dss rl : List (List Nat)) (ps : List (Nat × Nat)) {w0 : World} (hk : detOk n ol st l dss rl ps = true) (hw : wv ws w 0 = w0.drew)
    (ho : DObs P n ol vs ws w dss l st ps) (hfin : eo Q .normal n (allFr ol vs l) (wv ws w st.length)) : cw P Q n (.region id ol.toArray true) l w0 := fun a ha => by
  refine wp_region_any hmix ?_
  have hsz : (Array.replicate ol.toArray.size false).size = ol.length := by simp
  have hfalse : ∀ i, (Array.replicate ol.toArray.size false).getD i false = false := by
    intro i
    simp only [Array.getD_eq_getD_getElem?, Array.getElem?_replicate]
    split <;> rfl
  have := det_any (detOk_spec hk) ho hfin ol.toArray.size _ a 0 (by
    refine Nat.le_trans List.countP_le_length ?_
    simp) hsz (fun i o _ h => by rw [hfalse] at h; cases h) (Nat.zero_le _) (fun u _ => by rw [hfalse]; simp) ha (fun i _ h => by rw [hfalse] at h; cases h)
  rw [hw] at this
  exact this
theorem dobs_val {i t : Nat} {ps : List (Nat × Nat)} {o : Oper} {v : Value} {wt : World} (acc : Fr) (ho : ol[i]? = some o) (hs : st.contains i = false) (hv : (vs[i]?).getD undef = v) (hw : wv ws w t = wt) (hacc : dfr ol vs l (rch dss i) = acc) (h : RunD P n acc o wt (.value v) wt)
    (h' : DObs P n ol vs ws w dss l st ps) : DObs P n ol vs ws w dss l st ((i, t) :: ps) := ⟨by unfold DOb; rw [ho]; simp only; rw [hs, if_neg (by simp), hv, hw, hacc]; exact h, h'⟩
theorem dobs_sto {i t : Nat} {ps : List (Nat × Nat)} {o : Oper} {wt wt' : World} (acc : Fr) (ho : ol[i]? = some o) (hs : st.contains i = true) (hw : wv ws w t = wt) (hw' : wv ws w (t + 1) = wt') (hacc : dfr ol vs l (rch dss i) = acc) (h : RunD P n acc o wt .skip wt')
    (h' : DObs P n ol vs ws w dss l st ps) : DObs P n ol vs ws w dss l st ((i, t) :: ps) := ⟨by unfold DOb; rw [ho]; simp only; rw [hs, if_pos rfl, hw, hw', hacc]; exact h, h'⟩
theorem dobs_nil : DObs P n ol vs ws w dss l st [] := trivial
end
end Go.Proofs.Ytmaconeeonkdgaa
