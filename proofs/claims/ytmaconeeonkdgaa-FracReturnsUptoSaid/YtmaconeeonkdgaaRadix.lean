/- Plain arithmetic of lists of digits to any base, the lowest first. No program in sight. -/
import Derived.Test.YtmaconeeonkdgaaBase
namespace Go.Proofs.Ytmaconeeonkdgaa

/-- what a list of digits to the base b stands for -/
def nb (b : Nat) : List Nat → Nat
  | [] => 0
  | x :: r => x + b * nb b r
def Wfb (b : Nat) (xs : List Nat) : Prop := ∀ x ∈ xs, x < b
theorem nb_nil (b : Nat) : nb b [] = 0 := rfl
theorem nb_cons (b x : Nat) (r : List Nat) : nb b (x :: r) = x + b * nb b r := rfl
theorem nv_nb (xs : List Nat) : nv xs = nb WB xs := by
  induction xs with
  | nil => rfl
  | cons x r ih => rw [nv_cons, nb_cons, ih]
theorem nb_append (b : Nat) (xs ys : List Nat) : nb b (xs ++ ys) = nb b xs + b ^ xs.length * nb b ys := by
  induction xs with
  | nil => simp [nb]
  | cons x r ih =>
    simp only [List.cons_append, nb, ih, List.length_cons, Nat.pow_succ]
    rw [Nat.mul_add, ← Nat.mul_assoc, Nat.mul_comm b (b ^ r.length), Nat.add_assoc]
theorem nb_lt {b : Nat} {xs : List Nat} (h : Wfb b xs) : nb b xs < b ^ xs.length := by
  induction xs with
  | nil => simp [nb]
  | cons x r ih =>
    have hx : x < b := h x (by simp)
    have hr := ih (fun y hy => h y (by simp [hy]))
    simp only [nb, List.length_cons, Nat.pow_succ]
    have : b * nb b r + b ≤ b * b ^ r.length := by
      have := Nat.mul_le_mul_left b (Nat.succ_le_of_lt hr)
      rw [Nat.mul_succ] at this; exact this
    rw [Nat.mul_comm (b ^ r.length)]
    omega
theorem nb_zeros (b n : Nat) : nb b (List.replicate n 0) = 0 := by
  induction n with
  | zero => rfl
  | succ n ih => simp [List.replicate_succ, nb, ih]
theorem nb_snoc (b : Nat) (xs : List Nat) (x : Nat) : nb b (xs ++ [x]) = nb b xs + b ^ xs.length * x := by
  rw [nb_append]; simp [nb]

/-- digits without zeros at the high end -/
def dbF (b : Nat) : Nat → Nat → List Nat
  | 0, _ => []
  | f + 1, n => if n = 0 then [] else n % b :: dbF b f (n / b)
def db (b n : Nat) : List Nat := dbF b n n
theorem dbF_any {b : Nat} (hb : 2 ≤ b) (f : Nat) : ∀ (g n : Nat), n ≤ f → n ≤ g → dbF b f n = dbF b g n := by
  induction f with
  | zero =>
    intro g n h _
    have : n = 0 := by omega
    subst this
    cases g <;> simp [dbF]
  | succ f ih =>
    intro g n h hg
    by_cases h0 : n = 0
    · subst h0; cases g <;> simp [dbF]
    · cases g with
      | zero => omega
      | succ g =>
        have hlt : n / b < n := Nat.div_lt_self (by omega) (by omega)
        simp only [dbF, h0, if_false]
        rw [ih g (n / b) (by omega) (by omega)]
theorem db_zero (b : Nat) : db b 0 = [] := rfl
theorem db_pos {b : Nat} (hb : 2 ≤ b) {n : Nat} (h : n ≠ 0) : db b n = n % b :: db b (n / b) := by
  have hlt : n / b < n := Nat.div_lt_self (by omega) (by omega)
  unfold db
  conv => lhs; rw [dbF_any hb n (n + 1) n (Nat.le_refl _) (by omega)]
  simp only [dbF, h, if_false]
  rw [dbF_any hb n (n / b) (n / b) (by omega) (Nat.le_refl _)]
theorem db_ind {b : Nat} (hb : 2 ≤ b) {p : Nat → Prop} (h0 : p 0) (hs : ∀ n, n ≠ 0 → p (n / b) → p n) (n : Nat) : p n := by
  induction n using Nat.strongRecOn with
  | ind n ih =>
    by_cases h : n = 0
    · subst h; exact h0
    · exact hs n h (ih _ (Nat.div_lt_self (by omega) (by omega)))
theorem nb_db {b : Nat} (hb : 2 ≤ b) (n : Nat) : nb b (db b n) = n := by
  induction n using db_ind hb with
  | h0 => rfl
  | hs n h ih => rw [db_pos hb h, nb_cons, ih]; exact Nat.mod_add_div n b
theorem Wfb_db {b : Nat} (hb : 2 ≤ b) (n : Nat) : Wfb b (db b n) := by
  induction n using db_ind hb with
  | h0 => intro x hx; cases hx
  | hs n h ih =>
    rw [db_pos hb h]
    intro x hx
    cases List.mem_cons.1 hx with
    | inl e => subst e; exact Nat.mod_lt _ (by omega)
    | inr e => exact ih x e
theorem db_eq_nil {b : Nat} (hb : 2 ≤ b) {n : Nat} : db b n = [] ↔ n = 0 := by
  constructor
  · intro h; rw [← nb_db hb n, h]; rfl
  · rintro rfl; rfl
theorem len_db_zero {b : Nat} (hb : 2 ≤ b) {n : Nat} : (db b n).length = 0 ↔ n = 0 := by
  rw [List.length_eq_zero_iff]; exact db_eq_nil hb
theorem wd_db (n : Nat) : wd n = db WB n := by
  induction n using wd_ind with
  | h0 => rfl
  | hs n h ih => rw [wd_pos h, db_pos WB_two h, ih]

theorem db_of_top {b : Nat} (hb : 2 ≤ b) : ∀ {xs : List Nat}, Wfb b xs → (∀ h : xs ≠ [], xs.getLast h ≠ 0) → db b (nb b xs) = xs
  | [], _, _ => rfl
  | [x], hw, ht => by
    have hx : x < b := hw x (by simp)
    have h0 : x ≠ 0 := ht (by simp)
    simp only [nb, Nat.mul_zero, Nat.add_zero]
    rw [db_pos hb h0, Nat.mod_eq_of_lt hx, Nat.div_eq_of_lt hx, db_zero]
  | x :: y :: r, hw, ht => by
    have hb0 : 0 < b := by omega
    have hx : x < b := hw x (by simp)
    have ih := db_of_top hb (xs := y :: r) (fun z hz => hw z (by simp [hz])) (fun h => by have := ht (by simp); simpa [List.getLast_cons] using this)
    have hpos : nb b (y :: r) ≠ 0 := by
      intro e
      rw [e, db_zero] at ih
      cases ih
    have hn : nb b (x :: y :: r) ≠ 0 := by
      rw [nb_cons]
      have : 0 < b * nb b (y :: r) := Nat.mul_pos hb0 (by omega)
      omega
    rw [db_pos hb hn, nb_cons, Nat.add_mul_mod_self_left, Nat.mod_eq_of_lt hx, Nat.add_mul_div_left _ _ hb0, Nat.div_eq_of_lt hx, Nat.zero_add, ih]
theorem db_of_top' {b : Nat} (hb : 2 ≤ b) {xs : List Nat} (hw : Wfb b xs) (ht : xs.length = 0 ∨ xs.getD (xs.length - 1) 0 ≠ 0) : db b (nb b xs) = xs := by
  refine db_of_top hb hw (fun h => ?_)
  have hl : xs.length ≠ 0 := by simpa using h
  rcases ht with h' | h'
  · exact absurd h' hl
  · rw [List.getLast_eq_getElem]
    have : xs.length - 1 < xs.length := by omega
    rwa [List.getD_eq_getElem?_getD, List.getElem?_eq_getElem this, Option.getD_some] at h'
/-- a least form's top digit is not zero -/
theorem db_top {b : Nat} (hb : 2 ≤ b) (n : Nat) : (db b n).length = 0 ∨ (db b n).getD ((db b n).length - 1) 0 ≠ 0 := by
  induction n using db_ind hb with
  | h0 => exact Or.inl rfl
  | hs n h ih =>
    right
    rw [db_pos hb h]
    rcases ih with h' | h'
    · have h2 : n / b = 0 := (len_db_zero hb).1 h'
      have h3 : n < b := (Nat.div_eq_zero_iff.1 h2).resolve_left (by omega)
      rw [h2, db_zero]
      simp only [List.length_singleton, Nat.sub_self]
      show n % b ≠ 0
      rw [Nat.mod_eq_of_lt h3]; exact h
    · have hl : (db b (n / b)).length ≠ 0 := fun e => by
        rw [List.length_eq_zero_iff.1 e] at h'; simp at h'
      obtain ⟨k, hk⟩ : ∃ k, (db b (n / b)).length = k + 1 := ⟨_, (Nat.succ_pred_eq_of_ne_zero hl).symm⟩
      have e : (db b (n / b)).length - 1 = k := by omega
      rw [e] at h'
      rw [List.length_cons, hk, Nat.add_sub_cancel]
      simpa using h'

theorem Wfb_take {b : Nat} {xs : List Nat} (h : Wfb b xs) (k : Nat) : Wfb b (xs.take k) := fun x hx => h x (List.mem_of_mem_take hx)
theorem Wfb_drop {b : Nat} {xs : List Nat} (h : Wfb b xs) (k : Nat) : Wfb b (xs.drop k) := fun x hx => h x (List.mem_of_mem_drop hx)
theorem Wfb_append {b : Nat} {xs ys : List Nat} (h : Wfb b xs) (k : Wfb b ys) : Wfb b (xs ++ ys) := fun x hx => by
  rcases List.mem_append.1 hx with e | e
  · exact h x e
  · exact k x e
theorem Wfb_getD {b : Nat} (hb : 0 < b) {xs : List Nat} (h : Wfb b xs) (i : Nat) : xs.getD i 0 < b := by
  by_cases hi : i < xs.length
  · rw [List.getD_eq_getElem?_getD, List.getElem?_eq_getElem hi]; exact h _ (List.getElem_mem hi)
  · rw [List.getD_eq_getElem?_getD, List.getElem?_eq_none (by omega)]; exact hb
theorem Wfb_nil (b : Nat) : Wfb b [] := fun x hx => by cases hx
theorem Wfb_zeros {b : Nat} (hb : 0 < b) (n : Nat) : Wfb b (List.replicate n 0) := fun x hx => by rw [(List.mem_replicate.1 hx).2]; exact hb
theorem Wfb_one {b : Nat} {x : Nat} (h : x < b) : Wfb b [x] := fun y hy => by rw [List.mem_singleton.1 hy]; exact h
theorem Wfb_set {b : Nat} {xs : List Nat} (h : Wfb b xs) (i : Nat) {x : Nat} (hx : x < b) : Wfb b (xs.set i x) := fun y hy => by
  rcases List.mem_or_eq_of_mem_set hy with e | e
  · exact h y e
  · rw [e]; exact hx
theorem nb_take_snoc (b : Nat) (xs : List Nat) (k : Nat) (h : k < xs.length) : nb b (xs.take (k + 1)) = nb b (xs.take k) + b ^ k * xs.getD k 0 := by
  rw [take_snoc xs k h 0, nb_snoc, List.length_take, Nat.min_eq_left (by omega)]
theorem nb_split (b : Nat) (xs : List Nat) (k : Nat) (h : k ≤ xs.length) : nb b xs = nb b (xs.take k) + b ^ k * nb b (xs.drop k) := by
  have := nb_append b (xs.take k) (xs.drop k)
  rw [List.take_append_drop, List.length_take, Nat.min_eq_left h] at this
  exact this
theorem nb_take_zero (b : Nat) (xs : List Nat) (k : Nat) (h : k < xs.length) (h0 : xs.getD k 0 = 0) : nb b (xs.take (k + 1)) = nb b (xs.take k) := by
  rw [nb_take_snoc b xs k h, h0]; simp
theorem nb_take_lt {b : Nat} (hb : 0 < b) {xs : List Nat} (h : Wfb b xs) (k : Nat) : nb b (xs.take k) < b ^ k := by
  have h1 := nb_lt (Wfb_take h k)
  have h2 : b ^ (xs.take k).length ≤ b ^ k := Nat.pow_le_pow_right hb (by rw [List.length_take]; omega)
  omega
theorem db_take {b : Nat} (hb : 2 ≤ b) {xs : List Nat} (hw : Wfb b xs) {k : Nat} (hk : k ≤ xs.length) (hv : nb b (xs.take k) = nb b xs) (ht : k = 0 ∨ xs.getD (k - 1) 0 ≠ 0) : db b (nb b xs) = xs.take k := by
  have hl : (xs.take k).length = k := by rw [List.length_take]; omega
  rw [← hv]
  refine db_of_top' hb (Wfb_take hw k) ?_
  rw [hl]
  rcases ht with h | h
  · exact Or.inl h
  · by_cases h0 : k = 0
    · exact Or.inl h0
    · refine Or.inr ?_
      rw [List.getD_eq_getElem?_getD, List.getElem?_take, if_pos (by omega), ← List.getD_eq_getElem?_getD]
      exact h
theorem len_db_le {b : Nat} (hb : 2 ≤ b) {n k : Nat} (h : n < b ^ k) : (db b n).length ≤ k := by
  induction k generalizing n with
  | zero => have : n = 0 := by simp at h; omega
            subst this; simp [db_zero]
  | succ k ih =>
    by_cases h0 : n = 0
    · subst h0; simp [db_zero]
    · rw [db_pos hb h0, List.length_cons]
      have : n / b < b ^ k := by rw [Nat.div_lt_iff_lt_mul (by omega)]; rwa [← Nat.pow_succ]
      have := ih this
      omega
theorem lt_pow_len_db {b : Nat} (hb : 2 ≤ b) (n : Nat) : n < b ^ (db b n).length := by
  have := nb_lt (Wfb_db hb n)
  rwa [nb_db hb] at this
theorem pow_len_db_le {b : Nat} (hb : 2 ≤ b) {n : Nat} (h : n ≠ 0) : b ^ ((db b n).length - 1) ≤ n := by
  refine Nat.le_of_not_lt (fun hlt => ?_)
  have h1 := len_db_le hb hlt
  have h2 : (db b n).length ≠ 0 := fun e => h ((len_db_zero hb).1 e)
  omega
theorem len_db_mono {b : Nat} (hb : 2 ≤ b) {x y : Nat} (h : x ≤ y) : (db b x).length ≤ (db b y).length := len_db_le hb (Nat.lt_of_le_of_lt h (lt_pow_len_db hb y))
theorem db_take_len {b : Nat} (hb : 2 ≤ b) : ∀ {xs : List Nat} {m : Nat}, Wfb b xs → m = (db b (nb b xs)).length → db b (nb b xs) = xs.take m
  | [], m, _, h => by simp [nb, db_zero]
  | x :: r, m, hw, h => by
    have hx : x < b := hw x (by simp)
    by_cases h0 : nb b (x :: r) = 0
    · rw [h0, db_zero] at h ⊢
      subst h; rfl
    · have hd : nb b (x :: r) / b = nb b r := by rw [nb_cons, Nat.add_mul_div_left _ _ (by omega), Nat.div_eq_of_lt hx, Nat.zero_add]
      have hm : nb b (x :: r) % b = x := by rw [nb_cons, Nat.add_mul_mod_self_left, Nat.mod_eq_of_lt hx]
      rw [db_pos hb h0, hd, hm] at h ⊢
      obtain ⟨k, rfl⟩ : ∃ k, m = k + 1 := ⟨m - 1, by rw [h, List.length_cons]; rfl⟩
      rw [List.length_cons] at h
      rw [List.take_succ_cons, ← db_take_len hb (fun y hy => hw y (by simp [hy])) (by omega)]
theorem nb_take_len {b : Nat} (hb : 2 ≤ b) {xs : List Nat} {m : Nat} (hw : Wfb b xs) (h : m = (db b (nb b xs)).length) : nb b (xs.take m) = nb b xs := by
  rw [← db_take_len hb hw h, nb_db hb]
theorem nb_take_succ_lt {b : Nat} (hb : 0 < b) {xs ys : List Nat} {k : Nat} (hx : Wfb b xs) (hkx : k < xs.length) (hky : k < ys.length) (h : xs.getD k 0 < ys.getD k 0) : nb b (xs.take (k + 1)) < nb b (ys.take (k + 1)) := by
  rw [nb_take_snoc b xs k hkx, nb_take_snoc b ys k hky]
  have h1 := nb_take_lt hb hx k
  have h2 : b ^ k * xs.getD k 0 + b ^ k ≤ b ^ k * ys.getD k 0 := by
    have := Nat.mul_le_mul_left (b ^ k) (Nat.succ_le_of_lt h)
    rwa [Nat.mul_succ] at this
  omega
theorem cmp3_takeb_eq {b : Nat} {xs ys : List Nat} {k : Nat} (hkx : k < xs.length) (hky : k < ys.length) (h : xs.getD k 0 = ys.getD k 0) :
    cmp3 (nb b (xs.take (k + 1))) (nb b (ys.take (k + 1))) = cmp3 (nb b (xs.take k)) (nb b (ys.take k)) := by
  rw [nb_take_snoc b xs k hkx, nb_take_snoc b ys k hky, h]
  unfold cmp3
  simp only [Nat.add_lt_add_iff_right, Nat.add_right_cancel_iff]
theorem lt_of_len_db_lt {b : Nat} (hb : 2 ≤ b) {x y : Nat} (h : (db b x).length < (db b y).length) : x < y := by
  refine Nat.lt_of_not_le (fun hle => ?_)
  have := len_db_mono hb hle
  omega
/-- zeros laid on do not count -/
theorem nb_append_zeros (b : Nat) (xs : List Nat) (n : Nat) : nb b (xs ++ List.replicate n 0) = nb b xs := by
  rw [nb_append, nb_zeros, Nat.mul_zero, Nat.add_zero]
/-- a list that is as long as its number wants is the least form -/
theorem wd_of_ge {xs : List Nat} (hw : Wf xs) (h : xs.length = 0 ∨ WB ^ (xs.length - 1) ≤ nv xs) : wd (nv xs) = xs := by
  have h1 : (wd (nv xs)).length = xs.length := by
    have h2 := len_wd_nv hw
    rcases h with h | h
    · omega
    · have h3 : WB ^ (xs.length - 1) < WB ^ (wd (nv xs)).length := Nat.lt_of_le_of_lt h (lt_pow_len _)
      have := (Nat.pow_lt_pow_iff_right (by decide : 1 < WB)).1 h3
      omega
  rw [wd_take_len hw h1.symm, List.take_length]
theorem nb_drop_take (b : Nat) (es : List Nat) (p m : Nat) : nb b ((es.drop p).take (m + 1)) = es.getD p 0 + b * nb b ((es.drop (p + 1)).take m) := by
  by_cases h : p < es.length
  · rw [List.drop_eq_getElem_cons h, List.take_succ_cons, nb_cons, List.getD_eq_getElem?_getD, List.getElem?_eq_getElem h]; rfl
  · rw [List.drop_eq_nil_of_le (by omega), List.drop_eq_nil_of_le (by omega), List.getD_eq_getElem?_getD, List.getElem?_eq_none (by omega)]
    simp [nb]
theorem nb_take_add (b : Nat) (es : List Nat) (p m : Nat) (h : p ≤ es.length) : nb b (es.take (p + m)) = nb b (es.take p) + b ^ p * nb b ((es.drop p).take m) := by
  have e : es.take (p + m) = es.take p ++ (es.drop p).take m := by rw [List.take_add]
  rw [e, nb_append, List.length_take, Nat.min_eq_left h]
theorem getD_take {xs : List Nat} {i k : Nat} (h : i < k) : (xs.take k).getD i 0 = xs.getD i 0 := by
  simp only [List.getD_eq_getElem?_getD, List.getElem?_take, if_pos h]
theorem getD_set_eq {l : List Nat} {i : Nat} (h : i < l.length) (x : Nat) : (l.set i x).getD i 0 = x := by simp [List.getD_eq_getElem?_getD, h]
theorem getD_set_ne {l : List Nat} {i j : Nat} (h : i ≠ j) (x : Nat) : (l.set i x).getD j 0 = l.getD j 0 := by simp [List.getD_eq_getElem?_getD, List.getElem?_set_ne h]
theorem nb_set_snoc (b : Nat) {l : List Nat} {i : Nat} (h : i < l.length) (x : Nat) : nb b ((l.set i x).take (i + 1)) = nb b (l.take i) + b ^ i * x := by
  rw [nb_take_snoc b _ i (by rw [List.length_set]; exact h), getD_set_eq h, List.take_set_of_le (Nat.le_refl i)]
/-- one digit for another -/
theorem nb_set (b : Nat) : ∀ {l : List Nat} {k : Nat}, k < l.length → ∀ x, nb b (l.set k x) + b ^ k * l.getD k 0 = nb b l + b ^ k * x
  | y :: r, 0, _, x => by simp [nb]; omega
  | y :: r, k + 1, h, x => by
    have ih := nb_set b (l := r) (k := k) (by simpa using h) x
    simp only [List.set_cons_succ, nb_cons, List.getD_cons_succ, Nat.pow_succ]
    have e : b * (nb b (r.set k x) + b ^ k * r.getD k 0) = b * (nb b r + b ^ k * x) := by rw [ih]
    simp only [Nat.mul_add, ← Nat.mul_assoc, Nat.mul_comm b (b ^ k)] at e
    omega
theorem nv_set {l : List Nat} {k : Nat} (h : k < l.length) (x : Nat) : nv (l.set k x) + WB ^ k * l.getD k 0 = nv l + WB ^ k * x := by
  rw [nv_nb, nv_nb]; exact nb_set WB h x
theorem nv_set_snoc {l : List Nat} {i : Nat} (h : i < l.length) (x : Nat) : nv ((l.set i x).take (i + 1)) = nv (l.take i) + WB ^ i * x := by
  rw [nv_take_snoc _ i (by rw [List.length_set]; exact h), getD_set_eq h, List.take_set_of_le (Nat.le_refl i)]
theorem take_set_lt {α : Type} (l : List α) {k m : Nat} (_h : k < m) (x : α) : (l.set k x).take m = (l.take m).set k x := by
  rw [List.take_set]
/-- words out of their digits -/
def wval (ds : List Nat) (i t : Nat) : Nat := nb 65536 ((ds.drop (max i (4 * t))).take (4 * t + 4 - max i (4 * t)))
theorem wval_step {ds : List Nat} {j : Nat} : wval ds j (j / 4) = ds.getD j 0 + 65536 * wval ds (j + 1) (j / 4) := by
  unfold wval
  have e1 : max j (4 * (j / 4)) = j := by omega
  have e2 : max (j + 1) (4 * (j / 4)) = j + 1 := by omega
  rw [e1, e2, show 4 * (j / 4) + 4 - j = (4 * (j / 4) + 4 - (j + 1)) + 1 from by omega, nb_drop_take]
theorem wval_other {ds : List Nat} {j t : Nat} (h : t ≠ j / 4) : wval ds j t = wval ds (j + 1) t := by
  unfold wval
  rcases Nat.lt_or_ge t (j / 4) with h1 | h1
  · rw [show 4 * t + 4 - max j (4 * t) = 0 from by omega, show 4 * t + 4 - max (j + 1) (4 * t) = 0 from by omega]; simp
  · rw [show max j (4 * t) = max (j + 1) (4 * t) from by omega]
theorem wval_lt {ds : List Nat} (hw : Wfb 65536 ds) (i t : Nat) : wval ds i t < WB := by
  unfold wval
  have h1 := nb_take_lt (by omega) (Wfb_drop hw (max i (4 * t))) (4 * t + 4 - max i (4 * t))
  have h2 : 65536 ^ (4 * t + 4 - max i (4 * t)) ≤ 65536 ^ 4 := Nat.pow_le_pow_right (by omega) (by omega)
  have h3 : WB = 65536 ^ 4 := by decide
  omega
theorem wval_end {ds l : List Nat} (hl : ∀ t, t < l.length → l.getD t 0 = wval ds 0 t) (hn : ds.length ≤ 4 * l.length) (hm : 4 * l.length < ds.length + 4) : nv l = nb 65536 ds := by
  have key : ∀ t, t ≤ l.length → nv (l.take t) = nb 65536 (ds.take (4 * t)) := by
    intro t
    induction t with
    | zero => intro _; rfl
    | succ t ih =>
      intro ht
      rw [nv_take_snoc l t (by omega), ih (by omega), hl t (by omega), show 4 * (t + 1) = 4 * t + 4 from by omega, nb_take_add 65536 ds (4 * t) 4 (by omega)]
      unfold wval
      rw [show max 0 (4 * t) = 4 * t from by omega, show 4 * t + 4 - 4 * t = 4 from by omega, show WB = 65536 ^ 4 from by decide, ← Nat.pow_mul]
  have h := key l.length (Nat.le_refl _)
  rwa [List.take_length, List.take_of_length_le hn] at h
/-- digits of b^k at a time -/
theorem nb_pow_cons (b k : Nat) (ds : List Nat) (hd : ds.length = k) (r : List Nat) : nb b (ds ++ r) = nb b ds + b ^ k * nb b r := by
  rw [nb_append, hd]
end Go.Proofs.Ytmaconeeonkdgaa
