/- Rules for going through a function's text: frames as lists of slots, one rule for each kind of operation, regions in whatever order. No program in sight. -/
import Derived.Test.YtmaconeeonkdgaaMem
namespace Go.Proofs.Ytmaconeeonkdgaa
open Go.RowKit

/-- what is known of a frame: slots and what they hold -/
abbrev Fr := List (Nat × Value)
def look : Fr → Nat → Option Value
  | [], _ => none
  | (j, v) :: l, i => bif Nat.beq j i then some v else look l i
structure Rp (n : Nat) (l : Fr) (a : Act) : Prop where
  size : a.tmps.size = n
  nod : a.defers = []
  val : ∀ i v, look l i = some v → a.tmps.getD i undef = v
def evo (l : Fr) : Operand → Option Value
  | .tmp i => look l i
  | .const v => some v
  | .global g => some (.pointer (some ⟨g, 0, none⟩))
  | .func f => some (.func (.func f) #[] #[])
/-- the same, undef where nothing is known -/
def rho (l : Fr) (x : Operand) : Value := (evo l x).getD undef
theorem Rp.ev {n : Nat} {l : Fr} {a : Act} (h : Rp n l a) {x : Operand} {v : Value} (hx : evo l x = some v) : a.eval x = v := by
  cases x with
  | tmp i => exact h.val i v hx
  | const u => exact Option.some.inj hx
  | global g => exact Option.some.inj hx
  | func f => exact Option.some.inj hx
theorem Rp.rho {n : Nat} {l : Fr} {a : Act} (h : Rp n l a) {x : Operand} (hx : (evo l x).isSome = true) : a.eval x = rho l x := by
  obtain ⟨v, hv⟩ := Option.isSome_iff_exists.1 hx
  rw [h.ev hv, Go.Proofs.Ytmaconeeonkdgaa.rho, hv]; rfl
theorem Rp.put {n d : Nat} {l : Fr} {a : Act} (h : Rp n l a) (hd : d < n) (v : Value) : Rp n ((d, v) :: l) (a.put (some d) v) := by
  refine ⟨by simp [Act.put, h.size], by simp [Act.put, h.nod], fun i u hi => ?_⟩
  simp only [look] at hi
  have hs : d < a.tmps.size := by rw [h.size]; exact hd
  by_cases e : d = i
  · subst e
    rw [Nat.beq_refl] at hi
    cases hi
    simp [Act.put, hs]
  · have hb : Nat.beq d i = false := by
      cases hh : Nat.beq d i with
      | false => rfl
      | true => exact absurd (Nat.eq_of_beq_eq_true hh) e
    rw [hb] at hi
    have := h.val i u hi
    simp only [Act.put, Array.getD_eq_getD_getElem?] at this ⊢
    rwa [Array.getElem?_setIfInBounds_ne e]
theorem Rp.put' {n : Nat} {l : Fr} {a : Act} (h : Rp n l a) {d : Option Tmp} {i : Nat} (hd : d = some i) (hi : i < n) (v : Value) : Rp n ((i, v) :: l) (a.put d v) := by
  subst hd; exact h.put hi v
/-- the slots of l' are among those of l -/
def Keeps (l : Fr) : Fr → Prop
  | [] => True
  | (i, v) :: r => look l i = some v ∧ Keeps l r
theorem Keeps.look {l : Fr} : ∀ {l' : Fr}, Keeps l l' → ∀ i v, look l' i = some v → look l i = some v
  | [], _, i, v, h => by cases h
  | (j, u) :: r, hk, i, v, h => by
    simp only [Go.Proofs.Ytmaconeeonkdgaa.look] at h
    cases hb : Nat.beq j i with
    | true =>
      rw [hb] at h
      have e := Nat.eq_of_beq_eq_true hb
      subst e
      cases h
      exact hk.1
    | false =>
      rw [hb] at h
      exact hk.2.look i v h
theorem Rp.keep {n : Nat} {l l' : Fr} {a : Act} (h : Rp n l a) (hk : Keeps l l') : Rp n l' a := ⟨h.size, h.nod, fun i v hi => h.val i v (hk.look i v hi)⟩

section
variable {P : Program} {Q : Exit → Act → World → Prop} {n : Nat} {l : Fr} {w : World}

/-- code, from a frame of which l is known -/
def cw (P : Program) (Q : Exit → Act → World → Prop) (n : Nat) (c : Code) (l : Fr) (w : World) : Prop := ∀ a, Rp n l a → c.wp P Q a w
/-- a list of operations, the same -/
def wl (P : Program) (ops : Array Oper) (Q : Exit → Act → World → Prop) (n : Nat) (rest : List Oper) (l : Fr) (w : World) : Prop := ∀ a, Rp n l a → wpList P ops Q rest a w
/-- an end, the same -/
def eo (Q : Exit → Act → World → Prop) (e : Exit) (n : Nat) (l : Fr) (w : World) : Prop := ∀ a, Rp n l a → Q e a w

theorem cw_keep {c : Code} (l' : Fr) (hk : Keeps l l') (h : cw P Q n c l' w) : cw P Q n c l w := fun a ha => h a (ha.keep hk)
theorem wl_keep {ops : Array Oper} {rest : List Oper} (l' : Fr) (hk : Keeps l l') (h : wl P ops Q n rest l' w) : wl P ops Q n rest l w := fun a ha => h a (ha.keep hk)
theorem eo_keep {e : Exit} (l' : Fr) (hk : Keeps l l') (h : eo Q e n l' w) : eo Q e n l w := fun a ha => h a (ha.keep hk)
theorem cw_seq {x y : Code} (h : cw P (Exit.then (fun a w => y.wp P Q a w) Q) n x l w) : cw P Q n (.seq x y) l w := fun a ha => wp_seq (h a ha)
theorem cw_region {id : Nat} {ol : List Oper} (h : wl P ol.toArray Q n ol l w) : cw P Q n (.region id ol.toArray false) l w := fun a ha => wp_region_lit (h a ha)
theorem wl_nil {ops : Array Oper} (h : eo Q .normal n l w) : wl P ops Q n [] l w := fun a ha => wpList_nil (h a ha)
theorem eo_then {y : Code} (h : cw P Q n y l w) : eo (Exit.then (fun a w => y.wp P Q a w) Q) .normal n l w := h
theorem wl_then {ops : Array Oper} {y : Code} (h : cw P Q n y l w) : wl P ops (Exit.then (fun a w => y.wp P Q a w) Q) n [] l w := wl_nil (eo_then h)
theorem cw_skip (h : eo Q .normal n l w) : cw P Q n .skip l w := fun a ha => wp_skip (h a ha)
theorem cw_label {i : Nat} (h : eo Q .normal n l w) : cw P Q n (.label i) l w := fun a ha => wp_label (h a ha)
theorem cw_exit {i : Nat} (h : eo Q (.exit i) n l w) : cw P Q n (.exit i) l w := fun a ha => wp_exit (h a ha)
theorem cw_ret (h : eo Q .ret n l w) : cw P Q n .ret l w := fun a ha => wp_ret (h a ha)
theorem cw_block {i : Nat} {c : Code} (h : cw P (Exit.inBlock i Q) n c l w) : cw P Q n (.block i c) l w := fun a ha => wp_block (h a ha)
theorem cw_true {c : Operand} {x y : Code} (hc : evo l c = some (.bool true)) (h : cw P Q n x l w) : cw P Q n (.cond c x y) l w := fun a ha => wp_cond_true (ha.ev hc) (h a ha)
theorem cw_false {c : Operand} {x y : Code} (hc : evo l c = some (.bool false)) (h : cw P Q n y l w) : cw P Q n (.cond c x y) l w := fun a ha => wp_cond_false (ha.ev hc) (h a ha)
theorem cw_cond {c : Operand} {x y : Code} {b : Bool} (hc : evo l c = some (.bool b)) (h : b = true → cw P Q n x l w) (h' : b = false → cw P Q n y l w) : cw P Q n (.cond c x y) l w :=
  fun a ha => wp_cond_split (ha.ev hc) (fun e => h e a ha) (fun e => h' e a ha)
theorem eo_then_exit {K : Act → World → Prop} {e : Exit} (he : e ≠ .normal) (h : eo Q e n l w) : eo (Exit.then K Q) e n l w := fun a ha => by
  cases e <;> first | exact absurd rfl he | exact h a ha
theorem eo_block_here {i : Nat} (h : eo Q .normal n l w) : eo (Exit.inBlock i Q) (.exit i) n l w := fun a ha => by simp only [Exit.inBlock, if_true]; exact h a ha
theorem eo_block_far {i j : Nat} (hne : j ≠ i) (h : eo Q (.exit j) n l w) : eo (Exit.inBlock i Q) (.exit j) n l w := fun a ha => by simp only [Exit.inBlock, if_neg hne]; exact h a ha
theorem eo_block_ret {i : Nat} (h : eo Q .ret n l w) : eo (Exit.inBlock i Q) .ret n l w := h
theorem eo_block_normal {i : Nat} (h : eo Q .normal n l w) : eo (Exit.inBlock i Q) .normal n l w := h

/-- where ways meet again: what is known there, for values t -/
def MidQ {T : Type} (n : Nat) (F : T → Fr) (W : T → World) (H : T → Prop) (Q : Exit → Act → World → Prop) : Exit → Act → World → Prop
  | .normal, a, w => ∃ t, H t ∧ W t = w ∧ Rp n (F t) a
  | e, a, w => Q e a w
theorem eo_mid {T : Type} {F : T → Fr} {W : T → World} {H : T → Prop} (t : T) (hH : H t) (hW : W t = w) (hk : Keeps l (F t)) : eo (MidQ n F W H Q) .normal n l w := fun _ ha => ⟨t, hH, hW, ha.keep hk⟩
theorem eo_mid_exit {T : Type} {F : T → Fr} {W : T → World} {H : T → Prop} {e : Exit} (he : e ≠ .normal) (h : eo Q e n l w) : eo (MidQ n F W H Q) e n l w := fun a ha => by
  cases e <;> first | exact absurd rfl he | exact h a ha
theorem cw_mid {T : Type} (F : T → Fr) (W : T → World) (H : T → Prop) {x y : Code} (hx : cw P (MidQ n F W H Q) n x l w) (hy : ∀ t, H t → cw P Q n y (F t) (W t)) : cw P Q n (.seq x y) l w :=
  cw_seq fun a ha => Code.wp_mono (fun e a' w' h => by
    cases e with
    | normal => obtain ⟨t, hH, rfl, hr⟩ := h; exact hy t hH a' hr
    | _ => exact h) (hx a ha)
theorem cw_imp {c : Code} {Q' : Exit → Act → World → Prop} (h : cw P Q' n c l w) (hq : ∀ e a w, Q' e a w → Q e a w) : cw P Q n c l w := fun a ha => Code.wp_mono hq (h a ha)
/-- a loop -/
def LoopQ {T : Type} (n : Nat) (F : T → Fr) (W : T → World) (H : T → Prop) (m : T → Nat) (k : Nat) (Q : Exit → Act → World → Prop) : Exit → Act → World → Prop
  | .normal, a, w => ∃ t, H t ∧ m t < k ∧ W t = w ∧ Rp n (F t) a
  | e, a, w => Q e a w
theorem eo_round {T : Type} {F : T → Fr} {W : T → World} {H : T → Prop} {m : T → Nat} {k : Nat} (t : T) (hH : H t) (hm : m t < k) (hW : W t = w) (hk : Keeps l (F t)) : eo (LoopQ n F W H m k Q) .normal n l w := fun _ ha => ⟨t, hH, hm, hW, ha.keep hk⟩
theorem eo_loop_exit {T : Type} {F : T → Fr} {W : T → World} {H : T → Prop} {m : T → Nat} {k : Nat} {e : Exit} (he : e ≠ .normal) (h : eo Q e n l w) : eo (LoopQ n F W H m k Q) e n l w := fun a ha => by
  cases e <;> first | exact absurd rfl he | exact h a ha
theorem cw_loop {T : Type} (F : T → Fr) (W : T → World) (H : T → Prop) (m : T → Nat) {c : Code} (t0 : T) (h0 : H t0) (hW : W t0 = w) (hk : Keeps l (F t0))
    (round : ∀ t, H t → cw P (LoopQ n F W H m (m t) Q) n c (F t) (W t)) : cw P Q n (.loop c) l w := by
  classical
  intro a ha
  let S : Act → World → Nat → Prop := fun a w k => ∃ t, H t ∧ m t = k ∧ W t = w ∧ Rp n (F t) a
  let I : Act → World → Prop := fun a w => ∃ k, S a w k
  have hmin : ∀ a w, I a w → ∃ k, S a w k ∧ ∀ j, S a w j → k ≤ j := by
    intro a w ⟨k, hk⟩
    induction k using Nat.strongRecOn with
    | ind k ih =>
      by_cases hs : ∃ j, S a w j ∧ j < k
      · obtain ⟨j, hj, hlt⟩ := hs
        exact ih j hlt hj
      · exact ⟨k, hk, fun j hj => Nat.le_of_not_lt fun hlt => hs ⟨j, hj, hlt⟩⟩
  let μ : Act → World → Nat := fun a w => if h : I a w then Classical.choose (hmin a w h) else 0
  refine wp_loop I μ ⟨m t0, t0, h0, rfl, hW, ha.keep hk⟩ ?_
  intro a w hI
  have hμ : μ a w = Classical.choose (hmin a w hI) := dif_pos hI
  obtain ⟨hS, hle⟩ := Classical.choose_spec (hmin a w hI)
  rw [← hμ] at hS hle
  obtain ⟨t, hH, hm, rfl, hr⟩ := hS
  refine Code.wp_mono ?_ (round t hH a hr)
  intro e a' w' h
  cases e with
  | normal =>
    obtain ⟨t', hH', hm', hW', hr'⟩ := h
    have hI' : I a' w' := ⟨m t', t', hH', rfl, hW', hr'⟩
    refine ⟨hI', ?_⟩
    have hμ' : μ a' w' = Classical.choose (hmin a' w' hI') := dif_pos hI'
    have := (Classical.choose_spec (hmin a' w' hI')).2 (m t') ⟨t', hH', rfl, hW', hr'⟩
    omega
  | _ => exact h

theorem eo_thenR {K : Act → World → Prop} (h : eo Q .ret n l w) : eo (Exit.then K Q) .ret n l w := h
theorem eo_thenX {K : Act → World → Prop} {i : Nat} (h : eo Q (.exit i) n l w) : eo (Exit.then K Q) (.exit i) n l w := h
theorem eo_midR {T : Type} {F : T → Fr} {W : T → World} {H : T → Prop} (h : eo Q .ret n l w) : eo (MidQ n F W H Q) .ret n l w := h
theorem eo_midX {T : Type} {F : T → Fr} {W : T → World} {H : T → Prop} {i : Nat} (h : eo Q (.exit i) n l w) : eo (MidQ n F W H Q) (.exit i) n l w := h
theorem eo_loopR {T : Type} {F : T → Fr} {W : T → World} {H : T → Prop} {m : T → Nat} {k : Nat} (h : eo Q .ret n l w) : eo (LoopQ n F W H m k Q) .ret n l w := h
theorem eo_loopX {T : Type} {F : T → Fr} {W : T → World} {H : T → Prop} {m : T → Nat} {k i : Nat} (h : eo Q (.exit i) n l w) : eo (LoopQ n F W H m k Q) (.exit i) n l w := h
/-- the state in other words -/
theorem cw_re {c : Code} (l' : Fr) (w' : World) (hw : w = w') (hk : Keeps l l') (h : cw P Q n c l' w') : cw P Q n c l w := by subst hw; exact cw_keep l' hk h
theorem eo_re {e : Exit} (l' : Fr) (w' : World) (hw : w = w') (hk : Keeps l l') (h : eo Q e n l' w') : eo Q e n l w := by subst hw; exact eo_keep l' hk h

/-- entering a function: the arguments' slots -/
def argFr : List Value → Nat → Fr
  | [], _ => []
  | v :: r, i => (i, v) :: argFr r (i + 1)
theorem look_argFr : ∀ (args : List Value) (k i : Nat) (v : Value), look (argFr args k) i = some v → k ≤ i ∧ args[i - k]? = some v
  | [], k, i, v, h => by cases h
  | u :: r, k, i, v, h => by
    simp only [argFr, look] at h
    cases hb : Nat.beq k i with
    | true =>
      rw [hb] at h
      have e := Nat.eq_of_beq_eq_true hb
      subst e
      cases h
      simp
    | false =>
      rw [hb] at h
      obtain ⟨h1, h2⟩ := look_argFr r (k + 1) i v h
      refine ⟨by omega, ?_⟩
      have : i - k = (i - (k + 1)) + 1 := by omega
      rw [this]; simpa using h2
theorem sx_enter {f : FuncId} {fn : Func} {c : Code} {args : List Value} {R : Ending → World → Prop} (hf : P.funcs[f]? = some fn) (hb : fn.body = some c) (hn : fn.ntmps = n) (hle : args.length ≤ n)
    (h : cw P (bodyPost P fn R) n c (argFr args 0) w) : Calls P f args.toArray w R := by
  refine calls_of_wp hf hb (h _ ⟨?_, rfl, fun i v hi => ?_⟩)
  · simp [hn]; omega
  · obtain ⟨_, h2⟩ := look_argFr args 0 i v hi
    rw [Nat.sub_zero] at h2
    have hlt : i < args.length := (List.getElem?_eq_some_iff.1 h2).1
    simp only [Array.getD_eq_getD_getElem?]
    rw [Array.getElem?_append_left (by simpa using hlt)]
    simp [h2]
/-- the results' variables -/
def resVals (P : Program) (w : World) (l : Fr) : List ResultVar → List Value → Prop
  | [], [] => True
  | .tmp t :: r, v :: vs => look l t = some v ∧ resVals P w l r vs
  | .cell s t :: r, v :: vs => (∃ a, look l s = some (.pointer (some a)) ∧ (loadVar t a).run P w = .ok v w) ∧ resVals P w l r vs
  | _, _ => False
def resOne (tmps : Array Value) : ResultVar → Sem Value
  | .tmp t => pure (tmps.getD t undef)
  | .cell s t => do loadVar t (← asAddr (tmps.getD s undef))
theorem run_resOne {a : Act} (ha : Rp n l a) : ∀ (rl : List ResultVar) (vs : List Value), resVals P w l rl vs → (rl.mapM (resOne a.tmps)).run P w = .ok vs w
  | [], [], _ => rfl
  | [], _ :: _, h => by cases h
  | .tmp _ :: _, [], h => by cases h
  | .cell _ _ :: _, [], h => by cases h
  | .tmp t :: rl, v :: vs, h => by
    obtain ⟨h1, h2⟩ := h
    have h3 : (resOne a.tmps (.tmp t)).run P w = .ok v w := by
      show (Sem.pure (a.tmps.getD t undef)).run P w = _
      rw [ha.val t v h1]; rfl
    rw [List.mapM_cons]
    simp only [Sem.run_bind, h3, Result.andThen_ok, run_resOne ha rl vs h2, Sem.run_pure]
  | .cell s t :: rl, v :: vs, h => by
    obtain ⟨⟨p, h1, h4⟩, h2⟩ := h
    have h3 : (resOne a.tmps (.cell s t)).run P w = .ok v w := by
      have e : (do loadVar t (← asAddr (a.tmps.getD s undef)) : Sem Value).run P w = .ok v w := by
        rw [ha.val s _ h1]; simpa [asAddr] using h4
      exact e
    rw [List.mapM_cons]
    simp only [Sem.run_bind, h3, Result.andThen_ok, run_resOne ha rl vs h2, Sem.run_pure]
def resPack : List Value → Value
  | [v] => v
  | vs => .tuple vs.toArray
theorem run_results {fn : Func} {rl : List ResultVar} {vs : List Value} (hr : fn.results = rl.toArray) {a : Act} (ha : Rp n l a) (h : resVals P w l rl vs) :
    (results fn a.tmps).run P w = .ok (resPack vs) w := by
  have h1 := run_resOne ha rl vs h
  have e : results fn a.tmps = (do let vs ← fn.results.mapM (resOne a.tmps); pure (if h : vs.size = 1 then vs[0] else .tuple vs)) := rfl
  have e2 : (fn.results.mapM (resOne a.tmps)).run P w = .ok vs.toArray w := by
    rw [hr, List.mapM_toArray]
    have e3 : (List.toArray <$> rl.mapM (resOne a.tmps) : Sem (Array Value)) = (rl.mapM (resOne a.tmps) >>= fun x => pure x.toArray) := by rw [bind_pure_comp]
    rw [e3]
    simp only [Sem.run_bind, h1, Result.andThen_ok, Sem.run_pure]
  rw [e]
  simp only [Sem.run_bind, e2, Result.andThen_ok, Sem.run_pure]
  match vs with
  | [] => rfl
  | [v] => rfl
  | u :: v :: r => rfl
/-- the function's end -/
theorem eo_ret {fn : Func} {R : Ending → World → Prop} {rl : List ResultVar} (vs : List Value) (hr : fn.results = rl.toArray) (h : resVals P w l rl vs) (hR : R (.returned (resPack vs)) w) : eo (bodyPost P fn R) .ret n l w :=
  fun _ ha => bodyPost_ret (run_results hr ha h) ha.nod hR
theorem eo_end {fn : Func} {R : Ending → World → Prop} {rl : List ResultVar} (vs : List Value) (hr : fn.results = rl.toArray) (h : resVals P w l rl vs) (hR : R (.returned (resPack vs)) w) : eo (bodyPost P fn R) .normal n l w :=
  fun _ ha => bodyPost_end (run_results hr ha h) ha.nod hR

/-! operations, in the text's order -/
section ops
variable {ops : Array Oper} {rest : List Oper} {d : Nat} {op : Op} {ty : TypeId} {pos : String} {af : Array Edge}

/-- is the operation wanted? none: not known -/
def guardB (ops : Array Oper) (l : Fr) : Option (Nat × Bool) → Option Bool
  | none => some true
  | some (g, b) =>
    match (ops[g]?).bind (·.dst) with
    | some c =>
      match look l c with
      | some (.bool x) => some (x == b)
      | some (.tuple _) => some false
      | _ => none
    | none => none
theorem wanted_of {dst : Option Tmp} {gd : Option (Nat × Bool)} {r : Bool} (h : guardB ops l gd = some r) {a : Act} (ha : Rp n l a) : Region.wanted ⟨dst, op, ty, pos, af, gd⟩ (yielded ops a.tmps) = r := by
  cases gd with
  | none => exact Option.some.inj h
  | some p =>
    obtain ⟨g, b⟩ := p
    simp only [guardB] at h
    simp only [Region.wanted]
    cases hc : (ops[g]?).bind (·.dst) with
    | none => rw [hc] at h; cases h
    | some c =>
      rw [hc] at h
      simp only at h
      have hy : yielded ops a.tmps g = match a.tmps[c]? with | some (.bool b) => some b | _ => none := by
        unfold yielded; rw [hc]; rfl
      cases hl : look l c with
      | none => rw [hl] at h; cases h
      | some u =>
        rw [hl] at h
        have hu := ha.val c u hl
        rw [Array.getD_eq_getD_getElem?] at hu
        cases u with
        | bool x =>
          simp only [Option.some.injEq] at h
          cases hx : a.tmps[c]? with
          | none => rw [hx] at hu; cases hu
          | some v =>
            rw [hx] at hu
            simp only [Option.getD_some] at hu
            subst hu
            rw [hy, hx, ← h]
            cases x <;> cases b <;> rfl
        | tuple vs =>
          simp only [Option.some.injEq] at h
          cases hx : a.tmps[c]? with
          | none => rw [hy, hx, ← h]; rfl
          | some v =>
            rw [hx] at hu
            simp only [Option.getD_some] at hu
            subst hu
            rw [hy, hx, ← h]; rfl
        | _ => cases h
variable {gd : Option (Nat × Bool)}
theorem wl_plain {dst : Option Tmp} (hw : guardB ops l gd = some true) {a : Act} (ha : Rp n l a)
    (h : ∀ K : Act → World → Prop, (∀ a w, wpList P ops Q rest a w → K a w) → Oper.wp P ⟨dst, op, ty, pos, af, gd⟩ a w K Q) : wpList P ops Q (⟨dst, op, ty, pos, af, gd⟩ :: rest) a w :=
  wpList_step fun K hK => by rw [wanted_of hw ha]; exact h K hK
/-- an operation that is not wanted -/
theorem wl_off (hw : guardB ops l gd = some false) (hn : d < n) (h : wl P ops Q n rest ((d, undef) :: l) w) : wl P ops Q n (⟨some d, op, ty, pos, af, gd⟩ :: rest) l w := fun a ha =>
  wpList_step fun K hK => by
    rw [wanted_of hw ha]
    exact hK _ _ (h _ (ha.put hn undef))
theorem wl_val {v : Value} {w' : World} (hw : guardB ops l gd = some true) (hn : d < n) (hr : ∀ a, Rp n l a → (execOp a.eval ⟨some d, op, ty, pos, af, gd⟩).run P w = .ok (.value v) w')
    (h : wl P ops Q n rest ((d, v) :: l) w') : wl P ops Q n (⟨some d, op, ty, pos, af, gd⟩ :: rest) l w := fun a ha => by
  refine wl_plain hw ha fun K hK => ?_
  unfold Oper.wp
  rw [hr a ha]
  exact hK _ _ (h _ (ha.put hn v))
theorem wl_unit {w' : World} (hw : guardB ops l gd = some true) (hr : ∀ a, Rp n l a → (execOp a.eval ⟨none, op, ty, pos, af, gd⟩).run P w = .ok .skip w')
    (h : wl P ops Q n rest l w') : wl P ops Q n (⟨none, op, ty, pos, af, gd⟩ :: rest) l w := fun a ha => by
  refine wl_plain hw ha fun K hK => ?_
  unfold Oper.wp
  rw [hr a ha]
  exact hK _ _ (h _ ha)
/-- is it no select? -/
def noSel : Op → Bool
  | .select .. => false
  | _ => true
def known (l : Fr) (op : Op) : Bool := noSel op && op.operands.toList.all fun x => (evo l x).isSome
theorem exec_known {dst : Option Tmp} {g : Option (Nat × Bool)} (hk : known l op = true) {a : Act} (ha : Rp n l a) :
    execOp a.eval ⟨dst, op, ty, pos, af, g⟩ = execOp (rho l) ⟨dst, op, ty, pos, af, g⟩ := by
  simp only [known, Bool.and_eq_true, List.all_eq_true] at hk
  refine execOp_congr _ (fun cs b e => ?_) (fun x hx => ha.rho (hk.2 x (by simpa using hx)))
  simp only at e
  rw [e] at hk
  exact absurd hk.1 (by simp [noSel])
/-- an operation that asks nothing of the memory -/
theorem wl_pure {v : Value} (hw : guardB ops l gd = some true) (hk : known l op = true) (hn : d < n) (hr : (execOp (rho l) ⟨some d, op, ty, pos, af, gd⟩).run P w = .ok (.value v) w)
    (h : wl P ops Q n rest ((d, v) :: l) w) : wl P ops Q n (⟨some d, op, ty, pos, af, gd⟩ :: rest) l w :=
  wl_val hw hn (fun a ha => by rw [exec_known hk ha]; exact hr) h
theorem wl_move {x : Operand} {v : Value} (hw : guardB ops l gd = some true) (hx : evo l x = some v) (hn : d < n) (h : wl P ops Q n rest ((d, v) :: l) w) : wl P ops Q n (⟨some d, .move x, ty, pos, af, gd⟩ :: rest) l w :=
  wl_val hw hn (fun a ha => by simp only [execOp, ha.ev hx]; rfl) h
theorem wl_assign {x : Operand} {v : Value} (hw : guardB ops l gd = some true) (hx : evo l x = some v) (hn : d < n) (h : wl P ops Q n rest ((d, v) :: l) w) : wl P ops Q n (⟨some d, .assign x, ty, pos, af, gd⟩ :: rest) l w :=
  wl_val hw hn (fun a ha => by simp only [execOp, ha.ev hx]; rfl) h
theorem wl_load {x : Operand} {t : TypeId} {p : Addr} {v : Value} (hw : guardB ops l gd = some true) (hx : evo l x = some (.pointer (some p))) (hl : (loadVar t p).run P w = .ok v w) (hn : d < n)
    (h : wl P ops Q n rest ((d, v) :: l) w) : wl P ops Q n (⟨some d, .load t x, ty, pos, af, gd⟩ :: rest) l w :=
  wl_val hw hn (fun a ha => by
    have e : (Instr.loadAt t (a.eval x)).run P w = .ok v w := by rw [ha.ev hx]; exact hl
    show ((Instr.loadAt t (a.eval x) >>= fun r => pure (Next.value r) : Sem Next)).run P w = _
    rw [Sem.run_bind, e]; rfl) h
theorem wl_store {x y : Operand} {t : TypeId} {p : Addr} {v : Value} {w' : World} (hw : guardB ops l gd = some true) (hx : evo l x = some (.pointer (some p))) (hy : evo l y = some v) (hs : (storeVar t p v).run P w = .ok () w')
    (h : wl P ops Q n rest l w') : wl P ops Q n (⟨none, .store t x y, ty, pos, af, gd⟩ :: rest) l w :=
  wl_unit hw (fun a ha => by
    have e : (Instr.storeAt t (a.eval x) (a.eval y)).run P w = .ok () w' := by rw [ha.ev hx, ha.ev hy]; exact hs
    show ((Instr.storeAt t (a.eval x) (a.eval y) >>= fun _ => pure Next.skip : Sem Next)).run P w = _
    rw [Sem.run_bind, e]; rfl) h
/-- a test of integers -/
def cmpB : BinOp → Int → Int → Option Bool
  | .eql, a, b => some (a == b)
  | .neq, a, b => some (a != b)
  | .lss, a, b => some (decide (a < b))
  | .leq, a, b => some (decide (a ≤ b))
  | .gtr, a, b => some (decide (a > b))
  | .geq, a, b => some (decide (a ≥ b))
  | _, _, _ => none
theorem run_cmp {o : BinOp} {t : TypeId} {k : IntKind} {a b : Int} {c : Bool} (hc : cmpB o a b = some c) {x y : Operand} : ((do eqGuard o t x y (.int k a) (.int k b); binOp o t (.int k a) (.int k b)) : Sem Value).run P w = .ok (.bool c) w := by
  cases o <;> simp only [cmpB, Option.some.injEq, reduceCtorEq] at hc <;> subst hc <;> simp [eqGuard, binOp, Op.intCmp, Sem.run_bind]
theorem wl_cmp (hw : guardB ops l gd = some true) {o : BinOp} {t t' : TypeId} {x y : Operand} {k : IntKind} {a b : Int} (hx : evo l x = some (.int k a)) (hy : evo l y = some (.int k b)) (c : Bool) (hc : cmpB o a b = some c) (hn : d < n)
    (h : wl P ops Q n rest ((d, .bool c) :: l) w) : wl P ops Q n (⟨some d, .binOp o t x y t', ty, pos, af, gd⟩ :: rest) l w :=
  wl_val hw hn (fun a' ha => by
    have e : ((do eqGuard o t x y (a'.eval x) (a'.eval y); binOp o t (a'.eval x) (a'.eval y)) : Sem Value).run P w = .ok (.bool c) w := by
      rw [ha.ev hx, ha.ev hy]; exact run_cmp hc
    show ((((do eqGuard o t x y (a'.eval x) (a'.eval y); binOp o t (a'.eval x) (a'.eval y)) : Sem Value) >>= fun r => pure (Next.value r)) : Sem Next).run P w = _
    rw [Sem.run_bind, e]; rfl) h
/-- an operation on integers, its result in other words -/
def arB : BinOp → IntKind → Int → Int → Option Int
  | .add, k, a, b => some (k.wrap (a + b))
  | .sub, k, a, b => some (k.wrap (a - b))
  | .mul, k, a, b => some (k.wrap (a * b))
  | .quo, k, a, b => if b = 0 then none else some (k.wrap (a.tdiv b))
  | .rem, _, a, b => if b = 0 then none else some (a.tmod b)
  | _, _, _, _ => none
theorem run_ar {o : BinOp} {t : TypeId} {k : IntKind} {a b c : Int} (hc : arB o k a b = some c) {x y : Operand} : ((do eqGuard o t x y (.int k a) (.int k b); binOp o t (.int k a) (.int k b)) : Sem Value).run P w = .ok (.int k c) w := by
  cases o <;> simp only [arB, Option.some.injEq, reduceCtorEq] at hc
  case add => subst hc; simp [eqGuard, binOp, Op.intArith, Sem.run_bind]
  case sub => subst hc; simp [eqGuard, binOp, Op.intArith, Sem.run_bind]
  case mul => subst hc; simp [eqGuard, binOp, Op.intArith, Sem.run_bind]
  case quo =>
    by_cases hb : b = 0
    · rw [if_pos hb] at hc; cases hc
    · rw [if_neg hb] at hc; cases hc; simp [eqGuard, binOp, Op.intDiv, Sem.run_bind, hb]
  case rem =>
    by_cases hb : b = 0
    · rw [if_pos hb] at hc; cases hc
    · rw [if_neg hb] at hc; cases hc; simp [eqGuard, binOp, Op.intDiv, Sem.run_bind, hb]
theorem wl_ar (hw : guardB ops l gd = some true) {o : BinOp} {t t' : TypeId} {x y : Operand} {k : IntKind} {a b : Int} (hx : evo l x = some (.int k a)) (hy : evo l y = some (.int k b)) (c : Int) (hc : arB o k a b = some c) (hn : d < n)
    (h : wl P ops Q n rest ((d, .int k c) :: l) w) : wl P ops Q n (⟨some d, .binOp o t x y t', ty, pos, af, gd⟩ :: rest) l w :=
  wl_val hw hn (fun a' ha => by
    have e : ((do eqGuard o t x y (a'.eval x) (a'.eval y); binOp o t (a'.eval x) (a'.eval y)) : Sem Value).run P w = .ok (.int k c) w := by
      rw [ha.ev hx, ha.ev hy]; exact run_ar hc
    show ((((do eqGuard o t x y (a'.eval x) (a'.eval y); binOp o t (a'.eval x) (a'.eval y)) : Sem Value) >>= fun r => pure (Next.value r)) : Sem Next).run P w = _
    rw [Sem.run_bind, e]; rfl) h
/-- a new variable -/
structure NewBk (w w' : World) (g : Nat) (t : TypeId) (vs : List Value) : Prop where
  at_ : w.heap.size = g
  size : w'.heap.size = g + 1
  bk : Bk w' g t vs
  ext : Ext w w'
theorem NewBk.mk' (w : World) (t : TypeId) (vs : List Value) : NewBk w (w.alloc (.cells vs.toArray t)) w.heap.size t vs := ⟨rfl, by simp, Bk.new w t vs, (Ext.refl w).alloc _⟩
theorem run_newVar {t : TypeId} {v : Value} {vs : List Value} (hv : v.cells = vs.toArray) : (newVar t v).run P w = .ok ⟨w.heap.size, 0, none⟩ (w.alloc (.cells vs.toArray t)) := by
  unfold newVar newRow newObj
  rw [hv]
  rfl
theorem wl_box {x : Operand} {t : TypeId} {v : Value} {vs : List Value} (hw : guardB ops l gd = some true) (hx : evo l x = some v) (hv : v.cells = vs.toArray) (hn : d < n)
    (h : ∀ g w', NewBk w w' g t vs → wl P ops Q n rest ((d, .pointer (some ⟨g, 0, none⟩)) :: l) w') : wl P ops Q n (⟨some d, .box t x, ty, pos, af, gd⟩ :: rest) l w :=
  wl_val hw hn (fun a ha => by
    have e : (Instr.box t (a.eval x)).run P w = .ok (.pointer (some ⟨w.heap.size, 0, none⟩)) (w.alloc (.cells vs.toArray t)) := by
      rw [ha.ev hx]
      show ((newVar t v >>= fun r => pure (Value.pointer (some r)) : Sem Value)).run P w = _
      rw [Sem.run_bind, run_newVar hv]; rfl
    show ((Instr.box t (a.eval x) >>= fun r => pure (Next.value r) : Sem Next)).run P w = _
    rw [Sem.run_bind, e]; rfl) (h _ _ (NewBk.mk' w t vs))
theorem wl_alloc {t : TypeId} {z : Value} {vs : List Value} (hw : guardB ops l gd = some true) (hz : ∀ w, (zeroValue t).run P w = .ok z w) (hv : z.cells = vs.toArray) (hn : d < n)
    (h : ∀ g w', NewBk w w' g t vs → wl P ops Q n rest ((d, .pointer (some ⟨g, 0, none⟩)) :: l) w') : wl P ops Q n (⟨some d, .alloc t, ty, pos, af, gd⟩ :: rest) l w :=
  wl_val hw hn (fun a _ => by
    have e : (Instr.alloc t true (.tuple #[])).run P w = .ok (.pointer (some ⟨w.heap.size, 0, none⟩)) (w.alloc (.cells vs.toArray t)) := by
      show ((zeroValue t >>= fun z => (newVar t z >>= fun r => pure (Value.pointer (some r))) : Sem Value)).run P w = _
      rw [Sem.run_bind, hz w]
      show ((newVar t z >>= fun r => pure (Value.pointer (some r)) : Sem Value)).run P w = _
      rw [Sem.run_bind, run_newVar hv]; rfl
    show ((Instr.alloc t true (.tuple #[]) >>= fun r => pure (Next.value r) : Sem Next)).run P w = _
    rw [Sem.run_bind, e]; rfl) (h _ _ (NewBk.mk' w t vs))
/-- what a call answers -/
def Ret (p : Value → Prop) : Ending → Prop
  | .returned v => p v
  | _ => False
theorem ret_intro {p : Value → Prop} {v : Value} (h : p v) : Ret p (.returned v) := h
def callee? : Op → Option (FuncId × Array Operand)
  | .call { callee := .value (.func f), args, .. } => some (f, args)
  | _ => none
theorem wl_call {f : FuncId} {xs : Array Operand} {ts : Array TypeId} {vs : List Value} {R : Ending → World → Prop} (hw : guardB ops l gd = some true)
    (hk : known l (.call { callee := .value (.func f), args := xs, argTypes := ts }) = true) (hr : (execOp (rho l) ⟨some d, .call { callee := .value (.func f), args := xs, argTypes := ts }, ty, pos, af, gd⟩).run P w = .ok (.enter f vs.toArray) w) (hn : d < n)
    (hc : Calls P f vs.toArray w R) (h : ∀ e w', R e w' → Ret (fun v => wl P ops Q n rest ((d, v) :: l) w') e) :
    wl P ops Q n (⟨some d, .call { callee := .value (.func f), args := xs, argTypes := ts }, ty, pos, af, gd⟩ :: rest) l w := fun a ha => by
  refine wl_plain hw ha fun K hK => ?_
  unfold Oper.wp
  rw [exec_known hk ha, hr]
  refine hc.mono fun e w' hR => ?_
  have := h e w' hR
  cases e with
  | returned v => exact hK _ _ (this _ (ha.put hn v))
  | panicked c => exact this.elim
  | outgrown => exact this.elim
end ops
end
end Go.Proofs.Ytmaconeeonkdgaa
