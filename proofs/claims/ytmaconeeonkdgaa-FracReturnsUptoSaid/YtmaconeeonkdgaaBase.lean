/- Plain arithmetic of lists of 64-bit words: what a list stands for, its least form. No program in sight. -/
namespace Go.Proofs.Ytmaconeeonkdgaa

/-- 2^64 -/
def WB : Nat := 18446744073709551616
theorem WB_pos : 0 < WB := by decide
theorem WB_def : WB = 18446744073709551616 := rfl
theorem WB_two : 2 ≤ WB := by decide

/-- what a list of words stands for -/
def nv : List Nat → Nat
  | [] => 0
  | x :: r => x + WB * nv r
/-- all are words -/
def Wf (xs : List Nat) : Prop := ∀ x ∈ xs, x < WB

theorem nv_nil : nv [] = 0 := rfl
theorem nv_cons (x : Nat) (r : List Nat) : nv (x :: r) = x + WB * nv r := rfl
theorem nv_append (xs ys : List Nat) : nv (xs ++ ys) = nv xs + WB ^ xs.length * nv ys := by
  induction xs with
  | nil => simp [nv]
  | cons x r ih =>
    simp only [List.cons_append, nv, ih, List.length_cons, Nat.pow_succ]
    rw [Nat.mul_add, ← Nat.mul_assoc, Nat.mul_comm WB (WB ^ r.length), Nat.add_assoc]
theorem nv_lt {xs : List Nat} (h : Wf xs) : nv xs < WB ^ xs.length := by
  induction xs with
  | nil => simp [nv]
  | cons x r ih =>
    have hx : x < WB := h x (by simp)
    have hr := ih (fun y hy => h y (by simp [hy]))
    simp only [nv, List.length_cons, Nat.pow_succ]
    have : WB * nv r + WB ≤ WB * WB ^ r.length := by
      have := Nat.mul_le_mul_left WB (Nat.succ_le_of_lt hr)
      rw [Nat.mul_succ] at this; exact this
    rw [Nat.mul_comm (WB ^ r.length)]
    omega
theorem nv_zeros (n : Nat) : nv (List.replicate n 0) = 0 := by
  induction n with
  | zero => rfl
  | succ n ih => simp [List.replicate_succ, nv, ih]
theorem nv_snoc (xs : List Nat) (x : Nat) : nv (xs ++ [x]) = nv xs + WB ^ xs.length * x := by
  rw [nv_append]; simp [nv]

/-- least form, with fuel -/
def wdF : Nat → Nat → List Nat
  | 0, _ => []
  | f + 1, n => if n = 0 then [] else n % WB :: wdF f (n / WB)
/-- the least form of a number -/
def wd (n : Nat) : List Nat := wdF n n

theorem wdF_any (f : Nat) : ∀ (g n : Nat), n ≤ f → n ≤ g → wdF f n = wdF g n := by
  induction f with
  | zero =>
    intro g n h _
    have : n = 0 := by omega
    subst this
    cases g <;> simp [wdF]
  | succ f ih =>
    intro g n h hg
    by_cases h0 : n = 0
    · subst h0; cases g <;> simp [wdF]
    · cases g with
      | zero => omega
      | succ g =>
        have hlt : n / WB < n := Nat.div_lt_self (by omega) (by decide)
        simp only [wdF, h0, if_false]
        rw [ih g (n / WB) (by omega) (by omega)]
theorem wd_zero : wd 0 = [] := rfl
theorem wd_pos {n : Nat} (h : n ≠ 0) : wd n = n % WB :: wd (n / WB) := by
  have hlt : n / WB < n := Nat.div_lt_self (by omega) (by decide)
  unfold wd
  conv => lhs; rw [wdF_any n (n + 1) n (Nat.le_refl _) (by omega)]
  simp only [wdF, h, if_false]
  rw [wdF_any n (n / WB) (n / WB) (by omega) (Nat.le_refl _)]
theorem wd_ind {p : Nat → Prop} (h0 : p 0) (hs : ∀ n, n ≠ 0 → p (n / WB) → p n) (n : Nat) : p n := by
  induction n using Nat.strongRecOn with
  | ind n ih =>
    by_cases h : n = 0
    · subst h; exact h0
    · exact hs n h (ih _ (Nat.div_lt_self (by omega) (by decide)))
theorem nv_wd (n : Nat) : nv (wd n) = n := by
  induction n using wd_ind with
  | h0 => rfl
  | hs n h ih => rw [wd_pos h, nv_cons, ih]; exact Nat.mod_add_div n WB
theorem Wf_wd (n : Nat) : Wf (wd n) := by
  induction n using wd_ind with
  | h0 => intro x hx; cases hx
  | hs n h ih =>
    rw [wd_pos h]
    intro x hx
    cases List.mem_cons.1 hx with
    | inl e => subst e; exact Nat.mod_lt _ WB_pos
    | inr e => exact ih x e
theorem wd_inj {a b : Nat} (h : wd a = wd b) : a = b := by rw [← nv_wd a, h, nv_wd]
theorem wd_eq_nil {n : Nat} : wd n = [] ↔ n = 0 := by
  constructor
  · intro h; rw [← nv_wd n, h]; rfl
  · rintro rfl; rfl
theorem len_wd_zero {n : Nat} : (wd n).length = 0 ↔ n = 0 := by
  rw [List.length_eq_zero_iff]; exact wd_eq_nil

/-- a list whose top word is not zero is the least form -/
theorem wd_of_top : ∀ {xs : List Nat}, Wf xs → (∀ h : xs ≠ [], xs.getLast h ≠ 0) → wd (nv xs) = xs
  | [], _, _ => rfl
  | [x], hw, ht => by
    have hx : x < WB := hw x (by simp)
    have h0 : x ≠ 0 := ht (by simp)
    simp only [nv, Nat.mul_zero, Nat.add_zero]
    rw [wd_pos h0, Nat.mod_eq_of_lt hx, Nat.div_eq_of_lt hx, wd_zero]
  | x :: y :: r, hw, ht => by
    have hx : x < WB := hw x (by simp)
    have ih := wd_of_top (xs := y :: r) (fun z hz => hw z (by simp [hz])) (fun h => by have := ht (by simp); simpa [List.getLast_cons] using this)
    have hpos : nv (y :: r) ≠ 0 := by
      intro e
      rw [e, wd_zero] at ih
      cases ih
    have hn : nv (x :: y :: r) ≠ 0 := by
      rw [nv_cons]
      have : 0 < WB * nv (y :: r) := Nat.mul_pos WB_pos (by omega)
      omega
    rw [wd_pos hn, nv_cons, Nat.add_mul_mod_self_left, Nat.mod_eq_of_lt hx, Nat.add_mul_div_left _ _ WB_pos, Nat.div_eq_of_lt hx, Nat.zero_add, ih]
theorem wd_of_top' {xs : List Nat} (hw : Wf xs) (ht : xs.length = 0 ∨ xs.getD (xs.length - 1) 0 ≠ 0) : wd (nv xs) = xs := by
  refine wd_of_top hw (fun h => ?_)
  have hl : xs.length ≠ 0 := by simpa using h
  rcases ht with h' | h'
  · exact absurd h' hl
  · rw [List.getLast_eq_getElem]
    have : xs.length - 1 < xs.length := by omega
    rwa [List.getD_eq_getElem?_getD, List.getElem?_eq_getElem this, Option.getD_some] at h'

theorem Wf_take {xs : List Nat} (h : Wf xs) (k : Nat) : Wf (xs.take k) := fun x hx => h x (List.mem_of_mem_take hx)
theorem Wf_drop {xs : List Nat} (h : Wf xs) (k : Nat) : Wf (xs.drop k) := fun x hx => h x (List.mem_of_mem_drop hx)
theorem Wf_append {xs ys : List Nat} (h : Wf xs) (k : Wf ys) : Wf (xs ++ ys) := fun x hx => by
  rcases List.mem_append.1 hx with e | e
  · exact h x e
  · exact k x e
theorem Wf_getD {xs : List Nat} (h : Wf xs) (i : Nat) : xs.getD i 0 < WB := by
  by_cases hi : i < xs.length
  · rw [List.getD_eq_getElem?_getD, List.getElem?_eq_getElem hi]; exact h _ (List.getElem_mem hi)
  · rw [List.getD_eq_getElem?_getD, List.getElem?_eq_none (by omega)]; exact WB_pos
theorem Wf_nil : Wf [] := fun x hx => by cases hx
theorem Wf_zeros (n : Nat) : Wf (List.replicate n 0) := fun x hx => by rw [(List.mem_replicate.1 hx).2]; exact WB_pos
theorem Wf_one {x : Nat} (h : x < WB) : Wf [x] := fun y hy => by rw [List.mem_singleton.1 hy]; exact h
theorem Wf_set {xs : List Nat} (h : Wf xs) (i : Nat) {x : Nat} (hx : x < WB) : Wf (xs.set i x) := fun y hy => by
  rcases List.mem_or_eq_of_mem_set hy with e | e
  · exact h y e
  · rw [e]; exact hx

theorem take_snoc {α : Type} (xs : List α) (k : Nat) (h : k < xs.length) (d : α) : xs.take (k + 1) = xs.take k ++ [xs.getD k d] := by
  rw [List.take_succ_eq_append_getElem h, List.getD_eq_getElem?_getD, List.getElem?_eq_getElem h]; rfl
theorem nv_take_snoc (xs : List Nat) (k : Nat) (h : k < xs.length) : nv (xs.take (k + 1)) = nv (xs.take k) + WB ^ k * xs.getD k 0 := by
  rw [take_snoc xs k h 0, nv_snoc, List.length_take, Nat.min_eq_left (by omega)]
theorem nv_split (xs : List Nat) (k : Nat) (h : k ≤ xs.length) : nv xs = nv (xs.take k) + WB ^ k * nv (xs.drop k) := by
  have := nv_append (xs.take k) (xs.drop k)
  rw [List.take_append_drop, List.length_take, Nat.min_eq_left h] at this
  exact this
theorem nv_take_zero (xs : List Nat) (k : Nat) (h : k < xs.length) (h0 : xs.getD k 0 = 0) : nv (xs.take (k + 1)) = nv (xs.take k) := by
  rw [nv_take_snoc xs k h, h0]; simp
theorem nv_take_lt {xs : List Nat} (h : Wf xs) (k : Nat) : nv (xs.take k) < WB ^ k := by
  have h1 := nv_lt (Wf_take h k)
  have h2 : WB ^ (xs.take k).length ≤ WB ^ k := Nat.pow_le_pow_right WB_pos (by rw [List.length_take]; omega)
  omega

/-- the least form is what stands below its length -/
theorem wd_take {xs : List Nat} (hw : Wf xs) {k : Nat} (hk : k ≤ xs.length) (hv : nv (xs.take k) = nv xs) (ht : k = 0 ∨ xs.getD (k - 1) 0 ≠ 0) : wd (nv xs) = xs.take k := by
  have hl : (xs.take k).length = k := by rw [List.length_take]; omega
  rw [← hv]
  refine wd_of_top' (Wf_take hw k) ?_
  rw [hl]
  rcases ht with h | h
  · exact Or.inl h
  · by_cases h0 : k = 0
    · exact Or.inl h0
    · refine Or.inr ?_
      rw [List.getD_eq_getElem?_getD, List.getElem?_take, if_pos (by omega), ← List.getD_eq_getElem?_getD]
      exact h

/-- lengths of least forms -/
theorem len_wd_le {n k : Nat} (h : n < WB ^ k) : (wd n).length ≤ k := by
  induction k generalizing n with
  | zero => have : n = 0 := by simp at h; omega
            subst this; simp [wd_zero]
  | succ k ih =>
    by_cases h0 : n = 0
    · subst h0; simp [wd_zero]
    · rw [wd_pos h0, List.length_cons]
      have : n / WB < WB ^ k := by rw [Nat.div_lt_iff_lt_mul WB_pos]; rwa [← Nat.pow_succ]
      have := ih this
      omega
theorem lt_pow_len (n : Nat) : n < WB ^ (wd n).length := by
  have := nv_lt (Wf_wd n)
  rwa [nv_wd] at this
theorem pow_len_le {n : Nat} (h : n ≠ 0) : WB ^ ((wd n).length - 1) ≤ n := by
  refine Nat.le_of_not_lt (fun hlt => ?_)
  have h1 := len_wd_le hlt
  have h2 : (wd n).length ≠ 0 := fun e => h (len_wd_zero.1 e)
  omega
theorem len_wd_nv {xs : List Nat} (h : Wf xs) : (wd (nv xs)).length ≤ xs.length := len_wd_le (nv_lt h)
theorem len_wd_mono {a b : Nat} (h : a ≤ b) : (wd a).length ≤ (wd b).length := len_wd_le (Nat.lt_of_le_of_lt h (lt_pow_len b))
theorem len_wd_add (a b : Nat) : (wd (a + b)).length ≤ max (wd a).length (wd b).length + 1 := by
  refine len_wd_le ?_
  have ha := lt_pow_len a
  have hb := lt_pow_len b
  have h1 : WB ^ (wd a).length ≤ WB ^ max (wd a).length (wd b).length := Nat.pow_le_pow_right WB_pos (Nat.le_max_left _ _)
  have h2 : WB ^ (wd b).length ≤ WB ^ max (wd a).length (wd b).length := Nat.pow_le_pow_right WB_pos (Nat.le_max_right _ _)
  rw [Nat.pow_succ]
  have h3 : WB ^ max (wd a).length (wd b).length * 2 ≤ WB ^ max (wd a).length (wd b).length * WB := Nat.mul_le_mul_left _ WB_two
  omega
theorem len_wd_mul (a b : Nat) : (wd (a * b)).length ≤ (wd a).length + (wd b).length := by
  refine len_wd_le ?_
  rw [Nat.pow_add]
  by_cases ha : a = 0
  · subst ha; simp only [Nat.zero_mul]; exact Nat.mul_pos (Nat.pow_pos WB_pos) (Nat.pow_pos WB_pos)
  · exact Nat.mul_lt_mul'' (lt_pow_len a) (lt_pow_len b)
theorem wd_small {x : Nat} (h : x < WB) (h0 : x ≠ 0) : wd x = [x] := by
  rw [wd_pos h0, Nat.mod_eq_of_lt h, Nat.div_eq_of_lt h, wd_zero]
/-- the least form is a beginning of the list -/
theorem wd_take_len : ∀ {xs : List Nat} {m : Nat}, Wf xs → m = (wd (nv xs)).length → wd (nv xs) = xs.take m
  | [], m, _, h => by simp [nv, wd_zero]
  | x :: r, m, hw, h => by
    have hx : x < WB := hw x (by simp)
    by_cases h0 : nv (x :: r) = 0
    · rw [h0, wd_zero] at h ⊢
      subst h; rfl
    · have hd : nv (x :: r) / WB = nv r := by rw [nv_cons, Nat.add_mul_div_left _ _ WB_pos, Nat.div_eq_of_lt hx, Nat.zero_add]
      have hm : nv (x :: r) % WB = x := by rw [nv_cons, Nat.add_mul_mod_self_left, Nat.mod_eq_of_lt hx]
      rw [wd_pos h0, hd, hm] at h ⊢
      obtain ⟨k, rfl⟩ : ∃ k, m = k + 1 := ⟨m - 1, by rw [h, List.length_cons]; rfl⟩
      rw [List.length_cons] at h
      rw [List.take_succ_cons, ← wd_take_len (fun y hy => hw y (by simp [hy])) (by omega)]
/-- -1, 0, 1 as a lies below b, is b, lies above b -/
def cmp3 (a b : Nat) : Int := if a < b then -1 else if a = b then 0 else 1
theorem cmp3_lt {a b : Nat} (h : a < b) : cmp3 a b = -1 := by simp [cmp3, h]
theorem cmp3_eq (a : Nat) : cmp3 a a = 0 := by simp [cmp3]
theorem cmp3_gt {a b : Nat} (h : b < a) : cmp3 a b = 1 := by
  unfold cmp3; rw [if_neg (by omega), if_neg (by omega)]
theorem cmp3_bd (a b : Nat) : -1 ≤ cmp3 a b ∧ cmp3 a b ≤ 1 := by
  unfold cmp3; split
  · omega
  · split <;> omega
theorem cmp3_neg {a b : Nat} : cmp3 a b < 0 ↔ a < b := by
  unfold cmp3; split
  · simp_all
  · split <;> simp_all
theorem cmp3_zero {a b : Nat} : cmp3 a b = 0 ↔ a = b := by
  unfold cmp3; split
  · simp_all; omega
  · split <;> simp_all
theorem cmp3_pos {a b : Nat} : 0 < cmp3 a b ↔ b < a := by
  unfold cmp3; split
  · simp_all; omega
  · split <;> simp_all; omega
theorem lt_of_len_lt {a b : Nat} (h : (wd a).length < (wd b).length) : a < b := by
  refine Nat.lt_of_not_le (fun hle => ?_)
  have := len_wd_mono hle
  omega
theorem nv_take_succ_lt {xs ys : List Nat} {k : Nat} (hx : Wf xs) (hkx : k < xs.length) (hky : k < ys.length) (h : xs.getD k 0 < ys.getD k 0) : nv (xs.take (k + 1)) < nv (ys.take (k + 1)) := by
  rw [nv_take_snoc xs k hkx, nv_take_snoc ys k hky]
  have h1 := nv_take_lt hx k
  have h2 : WB ^ k * xs.getD k 0 + WB ^ k ≤ WB ^ k * ys.getD k 0 := by
    have := Nat.mul_le_mul_left (WB ^ k) (Nat.succ_le_of_lt h)
    rwa [Nat.mul_succ] at this
  omega
theorem cmp3_take_eq {xs ys : List Nat} {k : Nat} (hkx : k < xs.length) (hky : k < ys.length) (h : xs.getD k 0 = ys.getD k 0) :
    cmp3 (nv (xs.take (k + 1))) (nv (ys.take (k + 1))) = cmp3 (nv (xs.take k)) (nv (ys.take k)) := by
  rw [nv_take_snoc xs k hkx, nv_take_snoc ys k hky, h]
  unfold cmp3
  simp only [Nat.add_lt_add_iff_right, Nat.add_right_cancel_iff]
/-- the word at the top of the least form -/
theorem nv_take_len {xs : List Nat} {m : Nat} (hw : Wf xs) (h : m = (wd (nv xs)).length) : nv (xs.take m) = nv xs := by
  rw [← wd_take_len hw h, nv_wd]
theorem nv_one (x : Nat) : nv [x] = x := by simp [nv]
end Go.Proofs.Ytmaconeeonkdgaa
