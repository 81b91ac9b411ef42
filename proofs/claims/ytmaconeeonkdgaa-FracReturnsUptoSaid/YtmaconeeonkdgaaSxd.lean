/- A region that draws its order: each operation by itself, over what it hangs on; then what stands behind all. No program in sight. -/
import Derived.Test.YtmaconeeonkdgaaSx
namespace Go.Proofs.Ytmaconeeonkdgaa
open Go.RowKit

/-- Q, but nothing panics -/
def NP (Q : Exit → Act → World → Prop) : Exit → Act → World → Prop
  | .panic _, _, _ => False
  | e, a, w => Q e a w
theorem NP.imp {Q : Exit → Act → World → Prop} : ∀ e a w, NP Q e a w → Q e a w := fun e a w h => by
  cases e <;> first | exact h | exact h.elim
theorem eo_np {Q : Exit → Act → World → Prop} {n : Nat} {l : Fr} {w : World} (h : eo Q .normal n l w) : eo (NP Q) .normal n l w := h
theorem wl_np {P : Program} {ops : Array Oper} {Q : Exit → Act → World → Prop} {n : Nat} {l : Fr} {w : World} {y : Code} (h : cw P Q n y l w) : wl P ops (NP (Exit.then (fun a w => y.wp P Q a w) Q)) n [] l w := wl_nil (eo_np (eo_then h))

def Rat (Rs : List (Value → World → Prop)) (i : Nat) : Value → World → Prop := (Rs[i]?).getD fun _ _ => True
def slotv (a : Act) : Option Tmp → Value
  | some d => a.tmps.getD d undef
  | none => undef
def putl (d : Option Tmp) (v : Value) (l : Fr) : Fr :=
  match d with
  | some d => (d, v) :: l
  | none => l
def dstOf (ol : List Oper) (j : Nat) : Option Tmp := (ol[j]?).bind (·.dst)
def hasEdge (o : Oper) (j : Nat) : Bool := o.after.toList.any fun e => Region.binds .any e && e.on == j
theorem hasEdge_spec {o : Oper} {j : Nat} (h : hasEdge o j = true) : ∃ e ∈ o.after, Region.binds .any e = true ∧ e.on = j := by
  simp only [hasEdge, List.any_eq_true, Bool.and_eq_true, beq_iff_eq] at h
  obtain ⟨e, he, h1, h2⟩ := h
  exact ⟨e, by simpa using he, h1, h2⟩

/-- the values of the operations ds, each as it is known -/
def Deps (ol : List Oper) (Rs : List (Value → World → Prop)) (w0 w1 : World) (k : Fr → Prop) : List Nat → Fr → Prop
  | [], acc => k acc
  | j :: ds, acc => ∀ v wj, Rat Rs j v wj → Ext w0 wj → Ext wj w1 → Deps ol Rs w0 w1 k ds (putl (dstOf ol j) v acc)
theorem deps_nil {ol : List Oper} {Rs : List (Value → World → Prop)} {w0 w1 : World} {k : Fr → Prop} {acc : Fr} (h : k acc) : Deps ol Rs w0 w1 k [] acc := h
theorem deps_cons {ol : List Oper} {Rs : List (Value → World → Prop)} {w0 w1 : World} {k : Fr → Prop} {acc : Fr} {j : Nat} {ds : List Nat} {R : Value → World → Prop} {d : Nat}
    (hR : Rs[j]? = some R) (hd : dstOf ol j = some d) (h : ∀ v wj, R v wj → Ext w0 wj → Ext wj w1 → Deps ol Rs w0 w1 k ds ((d, v) :: acc)) : Deps ol Rs w0 w1 k (j :: ds) acc := by
  intro v wj hr e e'
  have e1 : Rat Rs j = R := by unfold Rat; rw [hR]; rfl
  have e2 : putl (dstOf ol j) v acc = (d, v) :: acc := by rw [hd]; rfl
  rw [e1] at hr
  rw [e2]
  exact h v wj hr e e'

def PiQ (w1 : World) (d : Option Tmp) (R : Value → World → Prop) : Exit → Act → World → Prop
  | .normal, a, w => Ext w1 w ∧ R (slotv a d) w ∧ a.defers = []
  | _, _, _ => False
theorem pi_done {P : Program} {ops : Array Oper} {n d : Nat} {l : Fr} {w1 w : World} {R : Value → World → Prop} {v : Value} (hv : look l d = some v) (hx : Ext w1 w) (hR : R v w) : wl P ops (PiQ w1 (some d) R) n [] l w :=
  wl_nil fun a ha => ⟨hx, by show R (a.tmps.getD d undef) w; rw [ha.val d v hv]; exact hR, ha.nod⟩

/-- a pointer to a block that was not there in w; to one that was -/
def NewIn (w : World) (v : Value) : Prop := ∃ g, v = .pointer (some ⟨g, 0, none⟩) ∧ w.heap.size ≤ g
def OldIn (w : World) (v : Value) : Prop := ∃ g, v = .pointer (some ⟨g, 0, none⟩) ∧ g < w.heap.size
def Olds (Rs : List (Value → World → Prop)) : List Nat → Prop
  | [] => True
  | i :: r => (∀ v w, Rat Rs i v w → OldIn w v) ∧ Olds Rs r
theorem olds_get {Rs : List (Value → World → Prop)} : ∀ {al : List Nat}, Olds Rs al → ∀ i ∈ al, ∀ v w, Rat Rs i v w → OldIn w v
  | [], _, i, h => by cases h
  | j :: r, h, i, hi => by
    rcases List.mem_cons.1 hi with e | e
    · subst e; exact h.1
    · exact olds_get h.2 i e
/-- what the operations al have made is apart -/
def Dist (ol : List Oper) (al : List Nat) (acc : Fr) : Prop := ∀ i ∈ al, ∀ j ∈ al, i ≠ j → ∀ di dj, dstOf ol i = some di → dstOf ol j = some dj → ∀ u, look acc di = some u → look acc dj = some u → False
section
variable (P : Program) (n : Nat) (ol : List Oper) (m : Nat) (fl al : List Nat) (Rs : List (Value → World → Prop)) (l : Fr) (w0 : World)

/-- what is to be shown of the operation with the number i -/
def HOb (i : Nat) (o : Oper) (ds : List Nat) : Prop :=
  ∀ w1, Ext w0 w1 → Deps ol Rs w0 w1 (fun acc => wl P ol.toArray (PiQ w1 o.dst (fun v w => Rat Rs i v w ∧ (al.contains i = true → NewIn w1 v))) n [o] acc w1) ds l
/-- the same of one that may be taken whenever it is ready -/
def FOb (i : Nat) (o : Oper) (ds : List Nat) : Prop :=
  ∀ w1, Ext w0 w1 → Deps ol Rs w0 w1 (fun acc => ∃ v, known acc o.op = true ∧ guardB ol.toArray acc o.guard = some true ∧ (∀ w, (execOp (rho acc) o).run P w = .ok (.value v) w) ∧ Rat Rs i v w1) ds l
def Obs : List (List Nat) → Nat → Prop
  | [], _ => True
  | ds :: dss, i => (match ol[i]? with | some o => if fl.contains i then FOb P ol Rs l w0 i o ds else HOb P n ol al Rs l w0 i o ds | none => True) ∧ Obs dss (i + 1)
end

def rch (rl : List (List Nat)) (i : Nat) : List Nat := (rl[i]?).getD []
def drawOk (n : Nat) (ol : List Oper) (m : Nat) (fl : List Nat) (l : Fr) (dss rl : List (List Nat)) : Bool :=
  decide (m ≤ ol.length) && dss.length == m && fl.all (fun i => decide (i < m)) &&
  (ol.zipIdx.all fun (o, i) => noSel o.op && (o.after.toList.all fun e => !Region.binds .any e || decide (e.on < i)) && ((rch rl i).all fun j => o.after.toList.any fun e => Region.binds .any e && (e.on == j || (rch rl e.on).contains j)) &&
    (if i < m then
      (match o.dst with
       | some d => decide (d < n) && l.all (fun p => p.1 != d) && ol.zipIdx.all (fun (o', j) => j == i || decide (m ≤ j) || o'.dst != some d)
       | none => false) &&
      ((dss[i]?).getD []).all (fun j => (rch rl i).contains j) &&
      (!fl.contains i || ol.zipIdx.all (fun (o', j) => j == i || (rch rl i).contains j || hasEdge o' i || o.apart ol.toArray o'))
     else (List.range i).all (fun j => fl.contains j || (rch rl i).contains j)))
structure DrawOk (n : Nat) (ol : List Oper) (m : Nat) (fl : List Nat) (l : Fr) (dss rl : List (List Nat)) : Prop where
  mle : m ≤ ol.length
  dlen : dss.length = m
  flt : ∀ i ∈ fl, i < m
  sel : ∀ (i : Nat) (o : Oper), ol[i]? = some o → noSel o.op = true
  back : ∀ (i : Nat) (o : Oper), ol[i]? = some o → ∀ e ∈ o.after, Region.binds .any e = true → e.on < i
  dst : ∀ (i : Nat) (o : Oper), ol[i]? = some o → i < m → ∃ d, o.dst = some d ∧ d < n ∧ (∀ p ∈ l, p.1 ≠ d) ∧ ∀ (j : Nat) (o' : Oper), ol[j]? = some o' → j ≠ i → j < m → o'.dst ≠ some d
  reach : ∀ (i : Nat) (o : Oper), ol[i]? = some o → ∀ j ∈ rch rl i, ∃ e ∈ o.after, Region.binds .any e = true ∧ (e.on = j ∨ j ∈ rch rl e.on)
  deps : ∀ (i : Nat) (o : Oper), ol[i]? = some o → i < m → ∀ j ∈ (dss[i]?).getD [], j ∈ rch rl i
  free : ∀ (i : Nat) (o : Oper), ol[i]? = some o → i ∈ fl → ∀ (j : Nat) (o' : Oper), ol[j]? = some o' → j ≠ i → j ∉ rch rl i → hasEdge o' i = true ∨ o.apart ol.toArray o' = true
  tail : ∀ (i : Nat) (o : Oper), ol[i]? = some o → m ≤ i → ∀ j, j < i → j ∈ fl ∨ j ∈ rch rl i
theorem all_zipIdx {α : Type} {l : List α} {p : α × Nat → Bool} (h : l.zipIdx.all p = true) (i : Nat) (x : α) (hx : l[i]? = some x) : p (x, i) = true := by
  rw [List.all_eq_true] at h
  exact h (x, i) (by rw [List.mem_zipIdx_iff_getElem?]; simpa using hx)
theorem drawOk_spec {n : Nat} {ol : List Oper} {m : Nat} {fl : List Nat} {l : Fr} {dss rl : List (List Nat)} (h : drawOk n ol m fl l dss rl = true) : DrawOk n ol m fl l dss rl := by
  simp only [drawOk, Bool.and_eq_true, decide_eq_true_eq, beq_iff_eq] at h
  obtain ⟨⟨⟨h1, h2⟩, h3⟩, h4⟩ := h
  have key := fun (i : Nat) (o : Oper) (ho : ol[i]? = some o) => all_zipIdx h4 i o ho
  simp only [Bool.and_eq_true] at key
  refine ⟨h1, h2, fun i hi => by rw [List.all_eq_true] at h3; simpa using h3 i hi, fun i o ho => (key i o ho).1.1.1, fun i o ho e he hb => ?_, fun i o ho hi => ?_, fun i o ho j hj => ?_, fun i o ho hi j hj => ?_, fun i o ho hi j o' ho' hne hnr => ?_, fun i o ho hi j hj => ?_⟩
  · have := (key i o ho).1.1.2
    rw [List.all_eq_true] at this
    have := this e (by simpa using he)
    simpa [hb] using this
  · have := (key i o ho).2
    rw [if_pos hi] at this
    simp only [Bool.and_eq_true] at this
    obtain ⟨⟨h5, _⟩, _⟩ := this
    cases hd : o.dst with
    | none => rw [hd] at h5; cases h5
    | some d =>
      rw [hd] at h5
      simp only [Bool.and_eq_true, decide_eq_true_eq] at h5
      obtain ⟨⟨h6, h7⟩, h8⟩ := h5
      refine ⟨d, rfl, h6, fun p hp => ?_, fun j o' ho' hne hjm e => ?_⟩
      · rw [List.all_eq_true] at h7
        simpa using h7 p hp
      · have := all_zipIdx h8 j o' ho'
        simp only [Bool.or_eq_true, beq_iff_eq, decide_eq_true_eq, bne_iff_ne] at this
        rcases this with (h | h) | h
        · exact hne h
        · omega
        · exact h e
  · have h5 := (key i o ho).1.2
    rw [List.all_eq_true] at h5
    have := h5 j hj
    rw [List.any_eq_true] at this
    obtain ⟨e, he, h6⟩ := this
    simp only [Bool.and_eq_true, Bool.or_eq_true, beq_iff_eq, List.contains_iff_mem] at h6
    exact ⟨e, by simpa using he, h6.1, h6.2⟩
  · have := (key i o ho).2
    rw [if_pos hi] at this
    simp only [Bool.and_eq_true] at this
    have h5 := this.1.2
    rw [List.all_eq_true] at h5
    simpa using h5 j hj
  · have him : i < m := by rw [List.all_eq_true] at h3; simpa using h3 i hi
    have := (key i o ho).2
    rw [if_pos him] at this
    simp only [Bool.and_eq_true, Bool.or_eq_true, Bool.not_eq_true'] at this
    rcases this.2 with h5 | h5
    · simp [hi] at h5
    · have := all_zipIdx h5 j o' ho'
      simp only [Bool.or_eq_true, beq_iff_eq, List.contains_iff_mem] at this
      rcases this with ((h | h) | h) | h
      · exact absurd h hne
      · exact absurd h hnr
      · exact Or.inl h
      · exact Or.inr h
  · have := (key i o ho).2
    rw [if_neg (by omega), List.all_eq_true] at this
    have := this j (by simpa using hj)
    simpa using this

section
variable {P : Program} {Q : Exit → Act → World → Prop} {n : Nat} {ol : List Oper} {m : Nat} {fl al : List Nat} {Rs : List (Value → World → Prop)} {l : Fr} {w0 : World} {dss rl : List (List Nat)}

def Fact (ol : List Oper) (Rs : List (Value → World → Prop)) (w0 : World) (i : Nat) (a : Act) (w : World) : Prop := ∃ w1, Ext w0 w1 ∧ Ext w1 w ∧ Rat Rs i (slotv a (dstOf ol i)) w1
theorem Deps.weak {w1 : World} {k k' : Fr → Prop} (hi : ∀ acc, k acc → k' acc) : ∀ (ds : List Nat) (acc : Fr), Deps ol Rs w0 w1 k ds acc → Deps ol Rs w0 w1 k' ds acc
  | [], acc, h => hi acc h
  | _ :: ds, _, h => fun v wj h1 h2 h3 => Deps.weak hi ds _ (h v wj h1 h2 h3)
theorem Rp.cons {acc : Fr} {a : Act} (h : Rp n acc a) {d : Nat} {v : Value} (hv : a.tmps.getD d undef = v) : Rp n ((d, v) :: acc) a :=
  ⟨h.size, h.nod, fun i u hi => by
    simp only [look] at hi
    cases hb : Nat.beq d i with
    | true =>
      rw [hb] at hi
      have e := Nat.eq_of_beq_eq_true hb
      subst e
      cases hi
      exact hv
    | false => rw [hb] at hi; exact h.val i u hi⟩
theorem Deps.apply {w1 : World} {k : Fr → Prop} {a : Act} : ∀ (ds : List Nat) (acc : Fr), (∀ j ∈ ds, Fact ol Rs w0 j a w1) → Deps ol Rs w0 w1 k ds acc → Rp n acc a → ∃ acc', Rp n acc' a ∧ k acc'
  | [], acc, _, h, hr => ⟨acc, hr, h⟩
  | j :: ds, acc, hf, h, hr => by
    obtain ⟨wj, e1, e2, hR⟩ := hf j (by simp)
    refine Deps.apply ds _ (fun i hi => hf i (by simp [hi])) (h _ wj hR e1 e2) ?_
    cases hd : dstOf ol j with
    | none => exact hr
    | some d => exact hr.cons rfl
theorem obs_get : ∀ {dss : List (List Nat)} {k : Nat}, Obs P n ol fl al Rs l w0 dss k → ∀ (i : Nat) (o : Oper), ol[k + i]? = some o → i < dss.length →
    (if fl.contains (k + i) then FOb P ol Rs l w0 (k + i) o ((dss[i]?).getD []) else HOb P n ol al Rs l w0 (k + i) o ((dss[i]?).getD []))
  | [], _, _, i, _, _, hi => by simp at hi
  | ds :: dss, k, h, 0, o, ho, _ => by
    have := h.1
    rw [show ol[k]? = some o from ho] at this
    simpa using this
  | ds :: dss, k, h, i + 1, o, ho, hi => by
    have e : k + (i + 1) = k + 1 + i := by omega
    have := obs_get h.2 i o (by rw [← e]; exact ho) (by simpa using hi)
    rw [e]
    simpa using this

theorem wp_conv {o : Oper} {a : Act} {w : World} {K K2 : Act → World → Prop} {Q1 Q2 : Exit → Act → World → Prop} (h : o.wp P a w K Q1) (hp : ∀ c a w, ¬ Q1 (.panic c) a w) (hl : ¬ LetsOut Q1)
    (hd : ∀ a w, K a w → a.defers = []) (hk : ∀ v w', K (a.put o.dst v) w' → K2 (a.put o.dst v) w') : o.wp P a w K2 Q2 := by
  unfold Oper.wp at *
  generalize (execOp a.eval o).run P w = r at *
  cases r with
  | ok x w' =>
    cases x <;> simp only [Oper.upon] at h ⊢ <;> first | exact h.elim | skip
    case value v => exact hk _ _ h
    case skip => exact hk _ _ h
    case defer d =>
      have := hd _ _ h
      exfalso
      revert this
      cases o.dst <;> simp [Act.put]
    case enter f args =>
      refine h.mono fun e w'' he => ?_
      cases e with
      | returned v => exact hk _ _ he
      | panicked c => exact (hp _ _ _ he).elim
      | outgrown => exact (hl he).elim
    case row row args => exact h.mono fun v w'' he => hk _ _ he
  | halt x w' =>
    cases x <;> simp only [Oper.upon] at h ⊢ <;> first | exact h.elim | exact (hp _ _ _ h).elim

theorem arr_get (ol : List Oper) (i : Nat) : ol.toArray[i]? = ol[i]? := by simp
theorem ready_iff {listed : Array Bool} {j : Nat} : j ∈ Region.ready .any ol.toArray listed ↔
    listed.getD j true = false ∧ ∃ o, ol[j]? = some o ∧ ∀ e ∈ o.after, Region.binds .any e = true → listed.getD e.on false = true := by
  rw [mem_ready, arr_get]
theorem getD_tf {listed : Array Bool} {j : Nat} (h : j < listed.size) : listed.getD j true = listed.getD j false := by simp [h]
theorem noSel_ops (h : DrawOk n ol m fl l dss rl) (j : Nat) (o : Oper) (cs : Array SelectCase) (b : Bool) (ho : ol.toArray[j]? = some o) : o.op ≠ .select cs b := by
  intro e
  have := h.sel j o (by rw [← arr_get]; exact ho)
  rw [e] at this
  cases this

/-- how many are not listed -/
def unl (N : Nat) (listed : Array Bool) : Nat := (List.range N).countP fun i => !listed.getD i false
theorem countP_lt {p q : Nat → Bool} {i : Nat} : ∀ {L : List Nat}, i ∈ L → (∀ j, q j = true → p j = true) → p i = true → q i = false → L.countP q < L.countP p
  | [], h, _, _, _ => by cases h
  | j :: L, h, hpq, hp, hq => by
    have hle : L.countP q ≤ L.countP p := List.countP_mono_left fun j _ => hpq j
    by_cases e : i = j
    · subst e
      rw [List.countP_cons, List.countP_cons, hp, hq]
      simp; omega
    · have hi : i ∈ L := by
        rcases List.mem_cons.1 h with h | h
        · exact absurd h e
        · exact h
      have := countP_lt hi hpq hp hq
      rw [List.countP_cons, List.countP_cons]
      cases hqj : q j with
      | true => rw [hpq j hqj]; simp; omega
      | false => simp only [Bool.false_eq_true, if_false]; omega
theorem unl_set {N : Nat} {listed : Array Bool} {i : Nat} (hi : i < N) (hs : listed.size = N) (h : listed.getD i false = false) : unl N (listed.setIfInBounds i true) < unl N listed := by
  refine countP_lt (i := i) (List.mem_range.2 hi) (fun j hj => ?_) (by simp only [h]; rfl) ?_
  · by_cases e : i = j
    · subst e; simp [hs, hi] at hj
    · rw [getD_set_ne false e] at hj; exact hj
  · simp [hs, hi]

/-- what is listed is so with all that it hangs on -/
def Closed (ol : List Oper) (listed : Array Bool) : Prop := ∀ (i : Nat) (o : Oper), ol[i]? = some o → listed.getD i false = true → ∀ e ∈ o.after, Region.binds .any e = true → listed.getD e.on false = true
theorem Closed.set {listed : Array Bool} (h : Closed ol listed) {i : Nat} {o : Oper} (ho : ol[i]? = some o) (hall : ∀ e ∈ o.after, Region.binds .any e = true → listed.getD e.on false = true) : Closed ol (listed.setIfInBounds i true) := by
  intro k ok hok hl e he hb
  refine getD_set_true ?_
  by_cases hik : i = k
  · subst hik
    rw [ho] at hok
    cases hok
    exact hall e he hb
  · rw [getD_set_ne false hik] at hl
    exact h k ok hok hl e he hb
theorem Closed.reach {listed : Array Bool} (h : Closed ol listed) (hk : DrawOk n ol m fl l dss rl) : ∀ (i : Nat) (o : Oper), ol[i]? = some o → (∀ e ∈ o.after, Region.binds .any e = true → listed.getD e.on false = true) → ∀ j ∈ rch rl i, listed.getD j false = true := by
  intro i
  induction i using Nat.strongRecOn with
  | ind i ih =>
    intro o ho hall j hj
    obtain ⟨e, he, hb, h1⟩ := hk.reach i o ho j hj
    have hlt := hk.back i o ho e he hb
    rcases h1 with h1 | h1
    · rw [← h1]; exact hall e he hb
    · have hN : e.on < ol.length := Nat.lt_trans hlt (List.getElem?_eq_some_iff.1 ho).1
      exact ih e.on hlt _ (List.getElem?_eq_getElem hN) (h e.on _ (List.getElem?_eq_getElem hN) (hall e he hb)) j h1

/-- behind the head: one after the other -/
theorem tail_any (hk : DrawOk n ol m fl l dss rl) : ∀ (fuel k : Nat) (listed : Array Bool) (a : Act) (w : World), m ≤ k → k ≤ ol.length → unl ol.length listed ≤ fuel → listed.size = ol.length → Closed ol listed → (∀ i, i < ol.length → listed.getD i false = decide (i < k)) →
    wpList P ol.toArray Q (ol.drop k) a w → wpAny P .any ol.toArray Q fuel listed a w := by
  intro fuel
  induction fuel with
  | zero =>
    intro k listed a w hm hkl hf hs _ hl h
    have e : k = ol.length := by
      rcases Nat.lt_or_ge k ol.length with h1 | h1
      · have h2 : listed.getD k false = false := by rw [hl k h1]; simp
        have := unl_set h1 hs h2; omega
      · omega
    subst e
    rw [List.drop_length] at h
    refine wpAny_done ?_ h 0
    refine List.eq_nil_iff_forall_not_mem.2 fun j hj => ?_
    obtain ⟨h1, o, ho, _⟩ := ready_iff.1 hj
    have hjl : j < ol.length := (List.getElem?_eq_some_iff.1 ho).1
    rw [getD_tf (by omega), hl j hjl] at h1
    simp [hjl] at h1
  | succ fuel ih =>
    intro k listed a w hm hkl hf hs hcl hl h
    rcases Nat.lt_or_ge k ol.length with hlt | hge
    · obtain ⟨o, ho⟩ : ∃ o, ol[k]? = some o := ⟨_, List.getElem?_eq_getElem hlt⟩
      have hrdy : k ∈ Region.ready .any ol.toArray listed := by
        refine ready_iff.2 ⟨?_, o, ho, fun e he hb => ?_⟩
        · rw [getD_tf (by omega), hl k hlt]; simp
        · have := hk.back k o ho e he hb
          rw [hl e.on (by omega)]; simpa using this
      refine ⟨fun h0 => (by rw [h0] at hrdy; cases hrdy), fun i hi => ?_⟩
      obtain ⟨h1, o', ho', hall⟩ := ready_iff.1 hi
      have hil : i < ol.length := (List.getElem?_eq_some_iff.1 ho').1
      rw [getD_tf (by omega), hl i hil] at h1
      have hik : k ≤ i := by simpa using h1
      have hie : i = k := by
        rcases Nat.lt_or_ge k i with h2 | h2
        · rcases hk.tail i o' ho' (by omega) k h2 with h3 | h3
          · have := hk.flt k h3; omega
          · have := hcl.reach hk i o' ho' hall k h3
            rw [hl k hlt] at this
            simp at this
        · omega
      subst hie
      have hd : ol.drop i = o :: ol.drop (i + 1) := by
        rw [List.drop_eq_getElem_cons hlt]
        congr 1
        rw [List.getElem?_eq_getElem hlt] at ho
        exact Option.some.inj ho
      rw [hd] at h
      have hw : wpOp P ol.toArray Q i (wpList P ol.toArray Q (ol.drop (i + 1))) a w := by
        unfold wpOp
        rw [arr_get, ho]
        unfold wpList at h
        exact h
      refine wpOp_mono (fun a' w' h' => ?_) hw
      refine ih (i + 1) _ a' w' (by omega) (by omega) (by have := unl_set hil hs (by rw [hl i hil]; simp); omega) (by simpa using hs) (hcl.set ho (by rw [ho] at ho'; cases ho'; exact hall)) (fun j hj => ?_) h'
      by_cases hij : i = j
      · subst hij
        simp [hs, hil]
      · rw [getD_set_ne false hij, hl j hj]
        congr 1
        simp only [eq_iff_iff]
        omega
    · have e : k = ol.length := by omega
      subst e
      rw [List.drop_length] at h
      refine wpAny_done ?_ h _
      refine List.eq_nil_iff_forall_not_mem.2 fun j hj => ?_
      obtain ⟨h1, o, ho, _⟩ := ready_iff.1 hj
      have hjl : j < ol.length := (List.getElem?_eq_some_iff.1 ho).1
      rw [getD_tf (by omega), hl j hjl] at h1
      simp [hjl] at h1

theorem Rp.put_far {a : Act} (h : Rp n l a) {d : Nat} (hd : ∀ p ∈ l, p.1 ≠ d) (v : Value) : Rp n l (a.put (some d) v) := by
  refine ⟨by simp [Act.put, h.size], by simp [Act.put, h.nod], fun i u hi => ?_⟩
  have hne : d ≠ i := fun e => by
    have key : ∀ (l : Fr), look l i = some u → ∃ p ∈ l, p.1 = i := by
      intro l
      induction l with
      | nil => intro h; cases h
      | cons p r ih =>
        intro h
        obtain ⟨j, x⟩ := p
        simp only [look] at h
        cases hb : Nat.beq j i with
        | true => exact ⟨(j, x), by simp, Nat.eq_of_beq_eq_true hb⟩
        | false =>
          rw [hb] at h
          obtain ⟨p, hp, he⟩ := ih h
          exact ⟨p, by simp [hp], he⟩
    obtain ⟨p, hp, he⟩ := key l hi
    exact hd p hp (he.trans e.symm)
  have := h.val i u hi
  simp only [Act.put, Array.getD_eq_getD_getElem?] at this ⊢
  rwa [Array.getElem?_setIfInBounds_ne hne]
theorem slotv_put {a : Act} {d : Nat} {n : Nat} (hs : a.tmps.size = n) (hd : d < n) (v : Value) : slotv (a.put (some d) v) (some d) = v := by
  simp [slotv, Act.put, hs, hd]
theorem slotv_far {a : Act} {d : Nat} {e : Option Tmp} (h : e ≠ some d) (v : Value) : slotv (a.put (some d) v) e = slotv a e := by
  cases e with
  | none => rfl
  | some e =>
    have hne : d ≠ e := fun he => h (by rw [he])
    simp only [slotv, Act.put, Array.getD_eq_getD_getElem?]
    rw [Array.getElem?_setIfInBounds_ne hne]
/-- one more is listed -/
theorem step_facts (hk : DrawOk n ol m fl l dss rl) {listed : Array Bool} {a : Act} {w w' : World} {i : Nat} {o : Oper} (ho : ol[i]? = some o) (him : i < m)
    (hm : ∀ i, m ≤ i → i < ol.length → listed.getD i false = false) (hr : Rp n l a) (hfact : ∀ i, i < ol.length → listed.getD i false = true → Fact ol Rs w0 i a w)
    (hx : Ext w0 w) (e : Ext w w') {v : Value} (hR : Rat Rs i v w') :
    Rp n l (a.put o.dst v) ∧ ∀ j, j < ol.length → (listed.setIfInBounds i true).getD j false = true → Fact ol Rs w0 j (a.put o.dst v) w' := by
  obtain ⟨d, hd, hdn, hfar, hother⟩ := hk.dst i o ho him
  rw [hd]
  refine ⟨hr.put_far hfar v, fun j hj hlj => ?_⟩
  by_cases hij : i = j
  · subst hij
    refine ⟨w', hx.trans e, Ext.refl _, ?_⟩
    have e1 : dstOf ol i = some d := by unfold dstOf; rw [ho]; exact hd
    rw [e1, slotv_put hr.size hdn]
    exact hR
  · rw [getD_set_ne false hij] at hlj
    have hjm : j < m := by
      rcases Nat.lt_or_ge j m with h | h
      · exact h
      · rw [hm j h hj] at hlj; cases hlj
    obtain ⟨w1, e1, e2, h1⟩ := hfact j hj hlj
    refine ⟨w1, e1, e2.trans e, ?_⟩
    rw [slotv_far]
    · exact h1
    · obtain ⟨oj, hoj⟩ : ∃ oj, ol[j]? = some oj := ⟨_, List.getElem?_eq_getElem hj⟩
      unfold dstOf
      rw [hoj]
      exact hother j oj hoj (Ne.symm hij) hjm

theorem slot_stays (hk : DrawOk n ol m fl l dss rl) {a : Act} {i j : Nat} {o : Oper} (hoi : ol[i]? = some o) (him : i < m) (v : Value) (hne : i ≠ j) (hjm : j < m) : slotv (a.put o.dst v) (dstOf ol j) = slotv a (dstOf ol j) := by
  obtain ⟨d, hd, _, _, hoth⟩ := hk.dst i o hoi him
  rw [hd]
  refine slotv_far ?_ v
  unfold dstOf
  obtain ⟨oj, hoj⟩ : ∃ oj, ol[j]? = some oj := ⟨_, List.getElem?_eq_getElem (by have := hk.mle; omega)⟩
  rw [hoj]
  exact hoth j oj hoj (Ne.symm hne) hjm
theorem dist_of {listed : Array Bool} {a : Act} {acc : Fr} (hal : ∀ i ∈ al, i < m ∧ i ∉ fl) (hacc : Rp n acc a) (hdi : ∀ i ∈ al, ∀ j ∈ al, i ≠ j → listed.getD i false = true → listed.getD j false = true → slotv a (dstOf ol i) ≠ slotv a (dstOf ol j)) (hl : ∀ i ∈ al, listed.getD i false = true) : Dist ol al acc := by
  intro i hi j hj hne di dj hdi' hdj' u h1 h2
  refine hdi i hi j hj hne (hl i hi) (hl j hj) ?_
  rw [hdi', hdj']
  show a.tmps.getD di undef = a.tmps.getD dj undef
  rw [hacc.val di u h1, hacc.val dj u h2]
theorem head_any (hk : DrawOk n ol m fl l dss rl) (hal : ∀ i ∈ al, i < m ∧ i ∉ fl) (hold : Olds Rs al) (ho : Obs P n ol fl al Rs l w0 dss 0)
    (hfin : ∀ w1, Ext w0 w1 → Deps ol Rs w0 w1 (fun acc => Dist ol al acc → wl P ol.toArray (NP Q) n (ol.drop m) acc w1) (List.range m) l) :
    ∀ (fuel : Nat) (listed : Array Bool) (a : Act) (w : World), unl ol.length listed ≤ fuel → listed.size = ol.length → Closed ol listed → (∀ i, m ≤ i → i < ol.length → listed.getD i false = false) → Rp n l a → Ext w0 w →
      (∀ i, i < ol.length → listed.getD i false = true → Fact ol Rs w0 i a w) → (∀ i ∈ al, ∀ j ∈ al, i ≠ j → listed.getD i false = true → listed.getD j false = true → slotv a (dstOf ol i) ≠ slotv a (dstOf ol j)) → wpAny P .any ol.toArray (NP Q) fuel listed a w := by
  intro fuel
  induction fuel with
  | zero =>
    intro listed a w hf hs hcl hm hr hx hfact hdi
    have hall : ∀ i, i < ol.length → listed.getD i false = true := by
      intro i hi
      cases h : listed.getD i false with
      | true => rfl
      | false => have := unl_set hi hs h; omega
    have hml : m = ol.length := by
      rcases Nat.lt_or_ge m ol.length with h | h
      · have h1 := hm m (Nat.le_refl _) h
        rw [hall m h] at h1; cases h1
      · have := hk.mle; omega
    obtain ⟨acc, hacc, hwl⟩ := Deps.apply (n := n) (List.range m) l (fun j hj => hfact j (by have := List.mem_range.1 hj; omega) (hall j (by have := List.mem_range.1 hj; omega))) (hfin w hx) hr
    exact tail_any hk 0 m listed a w (Nat.le_refl _) (by omega) hf hs hcl (fun i hi => by rw [hall i hi]; simp; omega) (hwl (dist_of hal hacc hdi (fun i hi => hall i (by have := (hal i hi).1; omega))) a hacc)
  | succ fuel ih =>
    intro listed a w hf hs hcl hm hr hx hfact hdi
    by_cases hdone : ∀ i, i < m → listed.getD i false = true
    · obtain ⟨acc, hacc, hwl⟩ := Deps.apply (n := n) (List.range m) l (fun j hj => hfact j (by have := List.mem_range.1 hj; have := hk.mle; omega) (hdone j (List.mem_range.1 hj))) (hfin w hx) hr
      exact tail_any hk (fuel + 1) m listed a w (Nat.le_refl _) hk.mle hf hs hcl (fun i hi => by
        rcases Nat.lt_or_ge i m with h | h
        · rw [hdone i h]; simpa using h
        · rw [hm i h hi]; simp; omega) (hwl (dist_of hal hacc hdi (fun i hi => hdone i (hal i hi).1)) a hacc)
    · -- the least that is not listed
      obtain ⟨j, hjm, hjl, hleast⟩ : ∃ j, j < m ∧ listed.getD j false = false ∧ ∀ i, i < j → listed.getD i false = true := by
        have key : ∀ k, (∃ j, j < m ∧ j < k ∧ listed.getD j false = false) → ∃ j, j < m ∧ listed.getD j false = false ∧ ∀ i, i < j → listed.getD i false = true := by
          intro k
          induction k with
          | zero => rintro ⟨j, _, h, _⟩; omega
          | succ k ihk =>
            rintro ⟨j, h1, h2, h3⟩
            by_cases hs' : ∃ j, j < m ∧ j < k ∧ listed.getD j false = false
            · exact ihk hs'
            · refine ⟨j, h1, h3, fun i hi => ?_⟩
              cases hb : listed.getD i false with
              | true => rfl
              | false => exact absurd ⟨i, by omega, by omega, hb⟩ hs'
        refine key m (Classical.byContradiction fun hno => hdone fun i hi => ?_)
        cases hb : listed.getD i false with
        | true => rfl
        | false => exact absurd ⟨i, hi, hi, hb⟩ hno
      have hml := hk.mle
      obtain ⟨oj, hoj⟩ : ∃ oj, ol[j]? = some oj := ⟨_, List.getElem?_eq_getElem (by omega)⟩
      have hjr : j ∈ Region.ready .any ol.toArray listed := ready_iff.2 ⟨by rw [getD_tf (by omega)]; exact hjl, oj, hoj, fun e he hb => hleast _ (hk.back j oj hoj e he hb)⟩
      have facts_of : ∀ (i : Nat) (o : Oper), ol[i]? = some o → i < m → i ∈ Region.ready .any ol.toArray listed → ∀ k ∈ (dss[i]?).getD [], Fact ol Rs w0 k a w := by
        intro i o hoi him hir k hkd
        have h1 := hk.deps i o hoi him k hkd
        obtain ⟨_, o', ho', hall⟩ := ready_iff.1 hir
        rw [hoi] at ho'
        cases ho'
        have h2 := hcl.reach hk i o hoi hall k h1
        have h3 : k < listed.size := by
          rcases Nat.lt_or_ge k listed.size with h' | h'
          · exact h'
          · simp [Array.getElem?_eq_none h'] at h2
        exact hfact k (by omega) h2
      by_cases hfl : ∃ i ∈ fl, i ∈ Region.ready .any ol.toArray listed
      · obtain ⟨i, hif, hir⟩ := hfl
        have him := hk.flt i hif
        obtain ⟨hun, o, hoi, hall⟩ := ready_iff.1 hir
        have hob := obs_get (k := 0) ho i o (by simpa using hoi) (by rw [hk.dlen]; exact him)
        rw [Nat.zero_add, if_pos (by simpa using hif)] at hob
        obtain ⟨acc, hacc, v, hkn, hgd, hrun, hR⟩ := Deps.apply (n := n) _ l (facts_of i o hoi him hir) (hob w hx) hr
        have hy : Yields P ol.toArray o v a := Or.inl ⟨by obtain ⟨d, op, ty, pos, af, gd⟩ := o; exact wanted_of hgd hacc, fun w => by
          obtain ⟨d, op, ty, pos, af, gd⟩ := o
          rw [exec_known hkn hacc]; exact hrun w⟩
        have hun' : listed.getD i false = false := by rw [← getD_tf (by omega)]; exact hun
        obtain ⟨h1, h2⟩ := step_facts hk hoi him hm hr hfact hx (Ext.refl w) hR
        refine wpAny_first (by rw [arr_get]; exact hoi) (noSel_ops hk) (fun c a w h => h.elim) fuel listed a w (fun k ok hok hki hkun hno => ?_) hir hy ?_
        · have hnr : k ∉ rch rl i := fun hm => by
            have h1 := hcl.reach hk i o hoi hall k hm
            have h2 : k < ol.length := (List.getElem?_eq_some_iff.1 (show ol[k]? = some ok by rw [← arr_get]; exact hok)).1
            rw [getD_tf (by omega), h1] at hkun; cases hkun
          rcases hk.free i o hoi hif k ok (by rw [← arr_get]; exact hok) hki hnr with h | h
          · obtain ⟨e, he, hb, heq⟩ := hasEdge_spec h
            exact absurd heq (hno e he hb)
          · exact h
        · refine ih _ _ w (by have := unl_set (by omega) hs hun'; omega) (by simpa using hs) (hcl.set hoi hall) (fun k hmk hk' => ?_) h1 hx h2 (fun i' hi' j' hj' hne hli hlj => ?_)
          · rw [getD_set_ne false (by omega)]; exact hm k hmk hk'
          · have e1 : i ≠ i' := fun e => (hal i' hi').2 (e ▸ hif)
            have e2 : i ≠ j' := fun e => (hal j' hj').2 (e ▸ hif)
            rw [getD_set_ne false e1] at hli
            rw [getD_set_ne false e2] at hlj
            rw [slot_stays hk hoi him v e1 (hal i' hi').1, slot_stays hk hoi him v e2 (hal j' hj').1]
            exact hdi i' hi' j' hj' hne hli hlj
      · have hjf : j ∉ fl := fun h => hfl ⟨j, h, hjr⟩
        refine ⟨fun h0 => (by rw [h0] at hjr; cases hjr), fun i hir => ?_⟩
        obtain ⟨hun, o, hoi, hall⟩ := ready_iff.1 hir
        have hil : i < ol.length := (List.getElem?_eq_some_iff.1 hoi).1
        have him : i < m := by
          rcases Nat.lt_or_ge i m with h | h
          · exact h
          · rcases hk.tail i o hoi h j (by omega) with h1 | h1
            · exact absurd h1 hjf
            · have := hcl.reach hk i o hoi hall j h1
              rw [hjl] at this; cases this
        have hif : i ∉ fl := fun h => hfl ⟨i, h, hir⟩
        have hun' : listed.getD i false = false := by rw [← getD_tf (by omega)]; exact hun
        have hob := obs_get (k := 0) ho i o (by simpa using hoi) (by rw [hk.dlen]; exact him)
        rw [Nat.zero_add, if_neg (by simpa using hif)] at hob
        obtain ⟨acc, hacc, hwl⟩ := Deps.apply (n := n) _ l (facts_of i o hoi him hir) (hob w hx) hr
        have hl := hwl a hacc
        have next : ∀ v w', PiQ w o.dst (fun v w' => Rat Rs i v w' ∧ (al.contains i = true → NewIn w v)) .normal (a.put o.dst v) w' → wpAny P .any ol.toArray (NP Q) fuel (listed.setIfInBounds i true) (a.put o.dst v) w' := by
          intro v w' hpi
          obtain ⟨e, hR, _⟩ := hpi
          have hv : Rat Rs i v w' ∧ (al.contains i = true → NewIn w v) := by
            obtain ⟨d, hd, hdn, _⟩ := hk.dst i o hoi him
            rw [hd, slotv_put hr.size hdn] at hR
            exact hR
          obtain ⟨h1, h2⟩ := step_facts hk hoi him hm hr hfact hx e hv.1
          have hself : slotv (a.put o.dst v) (dstOf ol i) = v := by
            obtain ⟨d, hd, hdn, _⟩ := hk.dst i o hoi him
            have e1 : dstOf ol i = some d := by unfold dstOf; rw [hoi]; exact hd
            rw [e1, hd, slotv_put hr.size hdn]
          -- a new block is none that is there
          have fresh : ∀ j ∈ al, j ≠ i → listed.getD j false = true → al.contains i = true → slotv a (dstOf ol j) ≠ v := by
            intro j hj hji hlj hci heq
            obtain ⟨wj, _, f2, hRj⟩ := hfact j (by have := (hal j hj).1; omega) hlj
            obtain ⟨g, hg, hlt⟩ := olds_get hold j hj _ _ hRj
            obtain ⟨g', hg', hge⟩ := hv.2 hci
            rw [heq, hg'] at hg
            injection hg with hg
            injection hg with hg
            injection hg with hg
            have := f2.size
            omega
          refine ih _ _ w' (by have := unl_set hil hs hun'; omega) (by simpa using hs) (hcl.set hoi hall) (fun k hmk hk' => ?_) h1 (hx.trans e) h2 (fun i' hi' j' hj' hne hli hlj => ?_)
          · rw [getD_set_ne false (by omega)]; exact hm k hmk hk'
          · by_cases e1 : i = i'
            · subst e1
              rw [getD_set_ne false hne] at hlj
              rw [hself, slot_stays hk hoi him v hne (hal j' hj').1]
              exact fun h => fresh j' hj' (Ne.symm hne) hlj (by simpa using hi') h.symm
            · rw [getD_set_ne false e1] at hli
              by_cases e2 : i = j'
              · subst e2
                rw [hself, slot_stays hk hoi him v e1 (hal i' hi').1]
                exact fresh i' hi' (Ne.symm e1) hli (by simpa using hj')
              · rw [getD_set_ne false e2] at hlj
                rw [slot_stays hk hoi him v e1 (hal i' hi').1, slot_stays hk hoi him v e2 (hal j' hj').1]
                exact hdi i' hi' j' hj' hne hli hlj
        have nolets : ¬ LetsOut (PiQ w o.dst (fun v w' => Rat Rs i v w' ∧ (al.contains i = true → NewIn w v))) := fun ⟨_, _, h⟩ => h
        unfold wpOp
        rw [arr_get, hoi]
        unfold wpList at hl
        simp only at hl ⊢
        split at hl
        · rename_i hw
          rw [if_pos hw]
          rcases hl with hl | hl
          · exact Or.inl (wp_conv hl (fun _ _ _ h => h) nolets (fun a w h => h.2.2) (fun v w' h => next v w' h))
          · exact absurd hl.2 nolets
        · rename_i hw
          rw [if_neg hw]
          exact next _ _ hl
/-- a region that draws its order; al: the operations that make variables, if they are to be apart -/
theorem cw_drawA {id : Nat} (hmix : P.follows .mixedOrders = true) (m : Nat) (fl al : List Nat) (Rs : List (Value → World → Prop)) (dss : List (List Nat)) {w : World} (rl : List (List Nat)) (hk : drawOk n ol m fl l dss rl = true) (hal : al.all (fun i => decide (i < m) && !fl.contains i) = true) (hold : Olds Rs al)
    (ho : Obs P n ol fl al Rs l w dss 0) (hfin : ∀ w1, Ext w w1 → Deps ol Rs w w1 (fun acc => Dist ol al acc → wl P ol.toArray (NP Q) n (ol.drop m) acc w1) (List.range m) l) : cw P Q n (.region id ol.toArray true) l w := fun a ha => by
  refine Code.wp_mono NP.imp (wp_region_any hmix ?_)
  have hsz : (Array.replicate ol.toArray.size false).size = ol.length := by simp
  have hfalse : ∀ i, (Array.replicate ol.toArray.size false).getD i false = false := by
    intro i
    simp only [Array.getD_eq_getD_getElem?, Array.getElem?_replicate]
    split <;> rfl
  have hal' : ∀ i ∈ al, i < m ∧ i ∉ fl := by
    intro i hi
    rw [List.all_eq_true] at hal
    simpa using hal i hi
  refine head_any (drawOk_spec hk) hal' hold ho hfin ol.toArray.size _ a _ ?_ hsz (fun i o ho h => by rw [hfalse i] at h; cases h) (fun i _ hi => hfalse i) ha (Ext.refl w).drew (fun i hi h => by rw [hfalse i] at h; cases h) (fun i _ j _ _ h => by rw [hfalse i] at h; cases h)
  refine Nat.le_trans List.countP_le_length ?_
  simp
theorem cw_draw {id : Nat} (hmix : P.follows .mixedOrders = true) (m : Nat) (fl : List Nat) (Rs : List (Value → World → Prop)) (dss : List (List Nat)) {w : World} (rl : List (List Nat)) (hk : drawOk n ol m fl l dss rl = true)
    (ho : Obs P n ol fl [] Rs l w dss 0) (hfin : ∀ w1, Ext w w1 → Deps ol Rs w w1 (fun acc => wl P ol.toArray (NP Q) n (ol.drop m) acc w1) (List.range m) l) : cw P Q n (.region id ol.toArray true) l w :=
  cw_drawA hmix m fl [] Rs dss rl hk rfl trivial ho (fun w1 h => Deps.weak (k := fun acc => wl P ol.toArray (NP Q) n (ol.drop m) acc w1) (k' := fun acc => Dist ol [] acc → wl P ol.toArray (NP Q) n (ol.drop m) acc w1) (fun _ h1 _ => h1) _ _ (hfin w1 h))
theorem obs_nil {k : Nat} {w : World} : Obs P n ol fl al Rs l w [] k := trivial
theorem obs_cons {k : Nat} {w : World} {ds : List Nat} {dss : List (List Nat)} {o : Oper} (ho : ol[k]? = some o) (hf : fl.contains k = false) (h : HOb P n ol al Rs l w k o ds) (h' : Obs P n ol fl al Rs l w dss (k + 1)) : Obs P n ol fl al Rs l w (ds :: dss) k :=
  ⟨by rw [ho]; simp only; rw [hf]; exact h, h'⟩
theorem obs_float {k : Nat} {w : World} {ds : List Nat} {dss : List (List Nat)} {o : Oper} (ho : ol[k]? = some o) (hf : fl.contains k = true) (h : FOb P ol Rs l w k o ds) (h' : Obs P n ol fl al Rs l w dss (k + 1)) : Obs P n ol fl al Rs l w (ds :: dss) k :=
  ⟨by rw [ho]; simp only; rw [hf]; exact h, h'⟩
/-- the obligation of one operation -/
theorem hob {w : World} {k : Nat} {o : Oper} {ds : List Nat} {R : Value → World → Prop} (hR : Rs[k]? = some R) (hn : al.contains k = false) (h : ∀ w1, Ext w w1 → Deps ol Rs w w1 (fun acc => wl P ol.toArray (PiQ w1 o.dst R) n [o] acc w1) ds l) : HOb P n ol al Rs l w k o ds := by
  have e : Rat Rs k = R := by unfold Rat; rw [hR]; rfl
  intro w1 hw
  rw [e]
  refine Deps.weak (fun acc h1 a ha => ?_) _ _ (h w1 hw)
  have h2 := h1 a ha
  unfold wpList at h2 ⊢
  have imp : ∀ a' w', PiQ w1 o.dst R .normal a' w' → PiQ w1 o.dst (fun v w => R v w ∧ (al.contains k = true → NewIn w1 v)) .normal a' w' := fun a' w' h3 => ⟨h3.1, ⟨h3.2.1, fun hc => by rw [hn] at hc; cases hc⟩, h3.2.2⟩
  split at h2
  · rename_i hwant
    rw [if_pos hwant]
    rcases h2 with h2 | h2
    · exact Or.inl (wp_conv h2 (fun _ _ _ h => h) (fun ⟨_, _, h⟩ => h) (fun a w h => h.2.2) (fun v w' h => imp _ _ h))
    · exact absurd h2.2 (fun ⟨_, _, h⟩ => h)
  · rename_i hwant
    rw [if_neg hwant]
    exact imp _ _ h2
/-- .. that makes a variable -/
theorem hobA {w : World} {k : Nat} {o : Oper} {ds : List Nat} {R : Value → World → Prop} (hR : Rs[k]? = some R) (h : ∀ w1, Ext w w1 → Deps ol Rs w w1 (fun acc => wl P ol.toArray (PiQ w1 o.dst (fun v w => R v w ∧ NewIn w1 v)) n [o] acc w1) ds l) : HOb P n ol al Rs l w k o ds := by
  have e : Rat Rs k = R := by unfold Rat; rw [hR]; rfl
  intro w1 hw
  rw [e]
  refine Deps.weak (fun acc h1 a ha => ?_) _ _ (h w1 hw)
  have h2 := h1 a ha
  unfold wpList at h2 ⊢
  have imp : ∀ a' w', PiQ w1 o.dst (fun v w => R v w ∧ NewIn w1 v) .normal a' w' → PiQ w1 o.dst (fun v w => R v w ∧ (al.contains k = true → NewIn w1 v)) .normal a' w' := fun a' w' h3 => ⟨h3.1, ⟨h3.2.1.1, fun _ => h3.2.1.2⟩, h3.2.2⟩
  split at h2
  · rename_i hwant
    rw [if_pos hwant]
    rcases h2 with h2 | h2
    · exact Or.inl (wp_conv h2 (fun _ _ _ h => h) (fun ⟨_, _, h⟩ => h) (fun a w h => h.2.2) (fun v w' h => imp _ _ h))
    · exact absurd h2.2 (fun ⟨_, _, h⟩ => h)
  · rename_i hwant
    rw [if_neg hwant]
    exact imp _ _ h2
theorem fob {w : World} {k : Nat} {o : Oper} {ds : List Nat} {R : Value → World → Prop} (hR : Rs[k]? = some R) (h : ∀ w1, Ext w w1 → Deps ol Rs w w1 (fun acc => ∃ v, known acc o.op = true ∧ guardB ol.toArray acc o.guard = some true ∧ (∀ w, (execOp (rho acc) o).run P w = .ok (.value v) w) ∧ R v w1) ds l) : FOb P ol Rs l w k o ds := by
  have e : Rat Rs k = R := by unfold Rat; rw [hR]; rfl
  intro w1 hw
  rw [e]
  exact h w1 hw
end
end Go.Proofs.Ytmaconeeonkdgaa
