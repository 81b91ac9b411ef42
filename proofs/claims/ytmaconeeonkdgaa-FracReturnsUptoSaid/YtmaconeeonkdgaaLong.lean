/- divnat.long -/
import Derived.Test.YtmaconeeonkdgaaShr
namespace Go.Proofs.Ytmaconeeonkdgaa
open Go.RowKit

/-- a quotient and a rest -/
def RetQR (w : World) (q r : Nat) (e : Ending) (w' : World) : Prop :=
  ∃ A n cap B m cap', e = .returned (.tuple #[.slice A n cap, .slice B m cap']) ∧ Hid (n = (wd q).length) ∧ Rd w' A n cap (wd q) ∧ Own w' w.heap.size 47 1 A n cap ((wd q).map W64) ∧
    Hid (m = (wd r).length) ∧ Rd w' B m cap' (wd r) ∧ Own w' w.heap.size 47 1 B m cap' ((wd r).map W64) ∧ Ext w w'

/-- the guess of a quotient's digit: right, or one too great -/
theorem guess_near {U V M Uh Vh d : Nat} (hM : 0 < M) (hUh : Uh = U / M) (hVh : Vh = V / M) (hbig : WB ≤ Vh) (hd : d < WB) (h1 : d * Vh ≤ Uh) (h2 : d = 18446744073709551615 ∨ Uh < (d + 1) * Vh) (hU : U < V * WB) : U / V ≤ d ∧ d ≤ U / V + 1 := by
  have hV : 0 < V := by
    rcases Nat.eq_zero_or_pos V with h | h
    · rw [h, Nat.zero_mul] at hU; omega
    · exact h
  constructor
  · rcases h2 with h | h
    · have : U / V < WB := Nat.div_lt_of_lt_mul hU
      rw [WB_def] at this
      omega
    · have h3 : U / V * Vh ≤ Uh := by
        rw [hUh, Nat.le_div_iff_mul_le hM]
        have h4 : Vh * M ≤ V := by rw [hVh]; exact Nat.div_mul_le_self _ _
        have h5 := Nat.mul_le_mul_left (U / V) h4
        have h6 := Nat.div_mul_le_self U V
        rw [← Nat.mul_assoc] at h5
        omega
      have h7 : U / V * Vh < (d + 1) * Vh := by omega
      have := Nat.lt_of_mul_lt_mul_right h7
      omega
  · refine Nat.le_of_not_lt (fun hlt => ?_)
    have h3 : d * Vh * M ≤ U := by
      have := Nat.mul_le_mul_right M h1
      have h4 : Uh * M ≤ U := by rw [hUh]; exact Nat.div_mul_le_self _ _
      omega
    have h4 : V < (Vh + 1) * M := by rw [hVh, Nat.mul_comm]; exact Nat.lt_mul_div_succ V hM
    have h5 : U < (U / V + 1) * V := by rw [Nat.mul_comm]; exact Nat.lt_mul_div_succ U hV
    have h6 : (U / V + 1) * V ≤ (d - 1) * V := Nat.mul_le_mul_right V (by omega)
    have h7 : (d - 1) * V ≤ (d - 1) * ((Vh + 1) * M) := Nat.mul_le_mul_left _ (Nat.le_of_lt h4)
    have h8 : d * Vh * M < (d - 1) * (Vh + 1) * M := by
      rw [Nat.mul_assoc (d - 1)]
      exact Nat.lt_of_le_of_lt h3 (Nat.lt_of_lt_of_le h5 (Nat.le_trans h6 h7))
    have h9 := Nat.lt_of_mul_lt_mul_right h8
    have hd0 : 0 < d := Nat.lt_of_le_of_lt (Nat.zero_le _) hlt
    clear hlt h3 h4 h5 h6 h7 h8
    obtain ⟨d, rfl⟩ : ∃ e, d = e + 1 := ⟨d - 1, by omega⟩
    rw [Nat.add_sub_cancel, Nat.succ_mul, Nat.mul_add, Nat.mul_one] at h9
    omega
theorem long_case {D L K L1 d c : Nat} (hD : 0 < D) (hd1 : L / D ≤ d) (hd2 : d ≤ L / D + 1) (_hK : L < K) (hL1 : L1 < K) (h : L1 + d * D = L + K * c) (hc : c ≤ 1) :
    (c = 0 → d = L / D ∧ L1 = L % D) ∧ (c = 1 → d = L / D + 1 ∧ ∀ L2 c2, c2 ≤ 1 → L2 < K → L2 + K * c2 = L1 + D → L2 = L % D) := by
  have e1 := Nat.div_add_mod L D
  have e2 := Nat.mod_lt L hD
  generalize L / D = q at *
  generalize L % D = r at *
  have hdd : d = q ∨ d = q + 1 := by omega
  have e3 : d * D = D * q ∨ d * D = D * q + D ∧ d = q + 1 := by
    rcases hdd with rfl | rfl
    · left; exact Nat.mul_comm _ _
    · right; exact ⟨by rw [Nat.succ_mul, Nat.mul_comm], rfl⟩
  have e4 : d * D = D * q + D ∨ d * D = D * q ∧ d = q := by
    rcases hdd with rfl | rfl
    · right; exact ⟨Nat.mul_comm _ _, rfl⟩
    · left; rw [Nat.succ_mul, Nat.mul_comm]
  generalize d * D = a at *
  generalize D * q = b at *
  constructor
  · rintro rfl
    rw [Nat.mul_zero, Nat.add_zero] at h
    rcases e4 with e4 | ⟨e4, e5⟩
    · omega
    · exact ⟨e5, by omega⟩
  · rintro rfl
    rw [Nat.mul_one] at h
    rcases e3 with e3 | ⟨e3, e5⟩
    · omega
    · refine ⟨e5, fun L2 c2 hc2 hL2 h2 => ?_⟩
      rcases (show c2 = 0 ∨ c2 = 1 by omega) with rfl | rfl <;> omega
/-- what the loop holds, k digits before its end -/
structure Lg (V U0 k : Nat) (l ql : List Nat) : Prop where
  eq : U0 = WB ^ k * nv (ql.drop k) * V + nv l
  lt : nv l < V * WB ^ k
theorem Lg.step {V U0 j q : Nat} {l l2 ql : List Nat} (h : Lg V U0 (j + 1) l ql) (hj : j < ql.length) (hV : 0 < V) (hq : q = nv l / (WB ^ j * V)) (hl2 : nv l2 = nv l % (WB ^ j * V)) : Lg V U0 j l2 (ql.set j q) := by
  have hD : 0 < WB ^ j * V := Nat.mul_pos (Nat.pow_pos WB_pos) hV
  have e2 : (ql.set j q).drop j = q :: ql.drop (j + 1) := by
    rw [List.drop_eq_getElem_cons (by rw [List.length_set]; exact hj)]
    congr 1
    · simp
    · rw [List.drop_set_of_lt (by omega)]
  refine ⟨?_, ?_⟩
  · have e3 := Nat.div_add_mod (nv l) (WB ^ j * V)
    rw [← hq, ← hl2] at e3
    rw [h.eq, e2, nv_cons, Nat.mul_add, Nat.add_mul, Nat.pow_succ, Nat.mul_assoc (WB ^ j) WB, ← e3]
    have e4 : WB ^ j * q * V = WB ^ j * V * q := Nat.mul_right_comm _ _ _
    omega
  · rw [hl2, Nat.mul_comm V]; exact Nat.mod_lt _ hD
/-- the three words at the top of a list -/
theorem top_three {l : List Nat} {j n : Nat} (hn : 2 ≤ n) (hl : j + n + 1 ≤ l.length) (hw : Wf l) (hlt : nv l < WB ^ (j + n + 1)) :
    nv l / WB ^ (j + n - 2) = (l.getD (j + n) 0 * WB + l.getD (j + n - 1) 0) * WB + l.getD (j + n - 2) 0 := by
  obtain ⟨m, rfl⟩ : ∃ m, n = m + 2 := ⟨n - 2, by omega⟩
  have e0 := nv_split l (j + (m + 2) + 1) hl
  have e00 : nv l = nv (l.take (j + (m + 2) + 1)) := by
    rcases Nat.eq_zero_or_pos (nv (l.drop (j + (m + 2) + 1))) with h | h
    · rw [h, Nat.mul_zero, Nat.add_zero] at e0; exact e0
    · have := Nat.le_mul_of_pos_right (WB ^ (j + (m + 2) + 1)) h
      omega
  have e1 := nv_take_snoc l (j + (m + 2)) (by omega)
  have e2 := nv_take_snoc l (j + m + 1) (by omega)
  have e3 := nv_take_snoc l (j + m) (by omega)
  rw [show j + m + 1 + 1 = j + (m + 2) from by omega] at e2
  rw [show j + (m + 2) - 2 = j + m from by omega, show j + (m + 2) - 1 = j + m + 1 from by omega, e00, e1, e2, e3]
  have h4 := nv_take_lt hw (j + m)
  rw [show WB ^ (j + (m + 2)) = WB ^ (j + m) * (WB * WB) from by rw [show j + (m + 2) = j + m + 1 + 1 from by omega, Nat.pow_succ, Nat.pow_succ, Nat.mul_assoc], show WB ^ (j + m + 1) = WB ^ (j + m) * WB from Nat.pow_succ _ _]
  generalize l.getD (j + (m + 2)) 0 = u2
  generalize l.getD (j + m + 1) 0 = u1
  generalize l.getD (j + m) 0 = u0
  have e5 : nv (l.take (j + m)) + WB ^ (j + m) * u0 + WB ^ (j + m) * WB * u1 + WB ^ (j + m) * (WB * WB) * u2 = WB ^ (j + m) * ((u2 * WB + u1) * WB + u0) + nv (l.take (j + m)) := by
    have e6 : WB ^ (j + m) * WB * u1 = WB ^ (j + m) * (u1 * WB) := by rw [Nat.mul_assoc, Nat.mul_comm WB u1]
    have e7 : WB ^ (j + m) * (WB * WB) * u2 = WB ^ (j + m) * (u2 * WB * WB) := by rw [Nat.mul_assoc, Nat.mul_comm (WB * WB), ← Nat.mul_assoc u2]
    rw [e6, e7, Nat.add_mul, Nat.mul_add, Nat.mul_add]
    omega
  rw [e5, Nat.mul_add_div (Nat.pow_pos WB_pos), Nat.div_eq_of_lt h4, Nat.add_zero]
theorem top_two {l : List Nat} {n : Nat} (hn : 2 ≤ n) (hl : l.length = n) (hw : Wf l) : nv l / WB ^ (n - 2) = l.getD (n - 1) 0 * WB + l.getD (n - 2) 0 := by
  obtain ⟨m, rfl⟩ : ∃ m, n = m + 2 := ⟨n - 2, by omega⟩
  have e0 : nv l = nv (l.take (m + 1 + 1)) := by rw [List.take_of_length_le (by omega)]
  have e1 := nv_take_snoc l (m + 1) (by omega)
  have e2 := nv_take_snoc l m (by omega)
  have h4 := nv_take_lt hw m
  rw [show m + 2 - 2 = m from rfl, show m + 2 - 1 = m + 1 from rfl, e0, e1, e2, Nat.pow_succ]
  generalize l.getD (m + 1) 0 = u1
  generalize l.getD m 0 = u0
  have e5 : nv (l.take m) + WB ^ m * u0 + WB ^ m * WB * u1 = WB ^ m * (u1 * WB + u0) + nv (l.take m) := by
    rw [Nat.mul_assoc, Nat.mul_comm WB u1, Nat.mul_add]; omega
  rw [e5, Nat.mul_add_div (Nat.pow_pos WB_pos), Nat.div_eq_of_lt h4, Nat.add_zero]
/-- the guess, for the list under way -/
theorem long_guess {V U0 j n d : Nat} {l vs ql : List Nat} (h : Lg V U0 (j + 1) l ql) (hn : 2 ≤ n) (hl : j + n + 1 ≤ l.length) (hw : Wf l) (hvl : vs.length = n) (hvw : Wf vs) (hV : nv vs = V) (hv1 : 0 < vs.getD (n - 1) 0) :
    nv l < WB ^ (j + n + 1) ∧ l.getD (j + n) 0 ≤ vs.getD (n - 1) 0 ∧ (d ≤ 18446744073709551615 → d * (vs.getD (n - 1) 0 * WB + vs.getD (n - 2) 0) ≤ (l.getD (j + n) 0 * WB + l.getD (j + n - 1) 0) * WB + l.getD (j + n - 2) 0 →
      (d = 18446744073709551615 ∨ (l.getD (j + n) 0 * WB + l.getD (j + n - 1) 0) * WB + l.getD (j + n - 2) 0 < (d + 1) * (vs.getD (n - 1) 0 * WB + vs.getD (n - 2) 0)) → nv l / (WB ^ j * V) ≤ d ∧ d ≤ nv l / (WB ^ j * V) + 1) := by
  have hVlt : V < WB ^ n := by rw [← hV, ← hvl]; exact nv_lt hvw
  have hlt : nv l < WB ^ (j + n + 1) := by
    have h1 := h.lt
    have h2 : V * WB ^ (j + 1) ≤ WB ^ n * WB ^ (j + 1) := Nat.mul_le_mul_right _ (Nat.le_of_lt hVlt)
    rw [← Nat.pow_add, show n + (j + 1) = j + n + 1 from by omega] at h2
    omega
  have t3 := top_three hn hl hw hlt
  have t2 := top_two hn hvl hvw
  rw [hV] at t2
  refine ⟨hlt, ?_, ?_⟩
  · have h1 : WB ^ (j + n) * l.getD (j + n) 0 ≤ nv l := by
      have e0 := nv_split l (j + n + 1) hl
      have e1 := nv_take_snoc l (j + n) (by omega)
      omega
    have h2 : V < WB ^ (n - 1) * (vs.getD (n - 1) 0 + 1) := by
      have e1 := nv_take_snoc vs (n - 1) (by omega)
      rw [Nat.sub_add_cancel (by omega), List.take_of_length_le (by omega), hV] at e1
      have e2 := nv_take_lt hvw (n - 1)
      rw [e1, Nat.mul_add, Nat.mul_one]
      omega
    have h3 : V * WB ^ (j + 1) < WB ^ (n - 1) * (vs.getD (n - 1) 0 + 1) * WB ^ (j + 1) := Nat.mul_lt_mul_of_pos_right h2 (Nat.pow_pos WB_pos)
    rw [Nat.mul_right_comm, ← Nat.pow_add, show n - 1 + (j + 1) = j + n from by omega] at h3
    have h4 := h.lt
    have h5 : WB ^ (j + n) * l.getD (j + n) 0 < WB ^ (j + n) * (vs.getD (n - 1) 0 + 1) := by omega
    have := Nat.lt_of_mul_lt_mul_left h5
    omega
  · intro hd h1 h2
    rw [← t3] at h1 h2
    rw [← t2] at h1 h2
    have hVh : V / WB ^ (n - 2) = (WB ^ j * V) / WB ^ (j + n - 2) := by
      rw [show j + n - 2 = j + (n - 2) from by omega, Nat.pow_add, Nat.mul_div_mul_left _ _ (Nat.pow_pos WB_pos)]
    refine guess_near (M := WB ^ (j + n - 2)) (Nat.pow_pos WB_pos) rfl hVh ?_ (by rw [WB_def]; omega) h1 h2 ?_
    · rw [t2]
      have := Nat.le_mul_of_pos_left WB hv1
      omega
    · have := h.lt
      rw [Nat.pow_succ, ← Nat.mul_assoc, Nat.mul_comm V] at this
      exact this
theorem long_end {X Y s Q L : Nat} (hY : 0 < Y) (h : X * 2 ^ s = Q * (Y * 2 ^ s) + L) (hL : L < Y * 2 ^ s) : Q = X / Y ∧ L / 2 ^ s = X % Y := by
  have hp := Nat.two_pow_pos s
  have h1 : X * 2 ^ s / (Y * 2 ^ s) = Q := by rw [h, Nat.mul_comm Q, Nat.mul_add_div (Nat.mul_pos hY hp), Nat.div_eq_of_lt hL, Nat.add_zero]
  have h2 : X * 2 ^ s % (Y * 2 ^ s) = L := by rw [h, Nat.mul_comm Q, Nat.mul_add_mod, Nat.mod_eq_of_lt hL]
  rw [Nat.mul_div_mul_right _ _ hp] at h1
  rw [Nat.mul_mod_mul_right] at h2
  exact ⟨h1.symm, by rw [← h2, Nat.mul_div_cancel _ hp]⟩
/-- the lists that the division begins with -/
theorem long_start {xs ys : List Nat} {N n s y : Nat} (hx : Wf xs) (hy : Wf ys) (hxl : xs.length = N) (hyl : ys.length = n) (hn : 1 ≤ n) (hnN : n ≤ N) (hyk : ys.getD (n - 1) 0 = y) (hy0 : y ≠ 0) (hyb : y ≤ 18446744073709551615) (hs : s + blen y = 64) :
    s < 64 ∧ nv ys * 2 ^ s < WB ^ n ∧ nv xs * 2 ^ s < WB ^ (N + 1) ∧ 0 < nv ys * 2 ^ s ∧ WB ^ (n - 1) ≤ nv ys * 2 ^ s ∧ nv xs * 2 ^ s < nv ys * 2 ^ s * WB ^ (N + 1 - n) := by
  have hb : blen y ≠ 0 := fun h => hy0 (blen_eq_zero.1 h)
  have hp := Nat.two_pow_pos s
  have e1 := nv_take_snoc ys (n - 1) (by omega)
  rw [Nat.sub_add_cancel hn, List.take_of_length_le (by omega), hyk] at e1
  have h1 := nv_take_lt hy (n - 1)
  have h2 : WB ^ (n - 1) ≤ nv ys := by
    have := Nat.le_mul_of_pos_right (WB ^ (n - 1)) (show 0 < y by omega)
    omega
  have h3 : nv ys ≤ nv ys * 2 ^ s := Nat.le_mul_of_pos_right _ hp
  have h4 := lt_blen y
  have hX := nv_lt hx
  rw [hxl] at hX
  have hpw := Nat.pow_pos (n := n - 1) WB_pos
  refine ⟨by omega, ?_, ?_, by omega, by omega, ?_⟩
  · have h5 : nv ys < WB ^ (n - 1) * (y + 1) := by rw [Nat.mul_add, Nat.mul_one]; omega
    have h6 : WB ^ (n - 1) * (y + 1) ≤ WB ^ (n - 1) * 2 ^ blen y := Nat.mul_le_mul_left _ h4
    have h7 : nv ys * 2 ^ s < WB ^ (n - 1) * 2 ^ blen y * 2 ^ s := Nat.mul_lt_mul_of_pos_right (by omega) hp
    rw [Nat.mul_assoc, ← Nat.pow_add, Nat.add_comm (blen y), hs, ← WB_pow, ← Nat.pow_succ, Nat.succ_eq_add_one, Nat.sub_add_cancel hn] at h7
    exact h7
  · rw [Nat.pow_succ]
    have h5 : 2 ^ s ≤ WB := by rw [WB_pow]; exact Nat.pow_le_pow_right (by omega) (by omega)
    have h6 := Nat.mul_lt_mul_of_pos_right hX hp
    have h7 := Nat.mul_le_mul_left (WB ^ N) h5
    omega
  · have h5 : WB ^ N ≤ nv ys * WB ^ (N + 1 - n) := by
      have := Nat.mul_le_mul_right (WB ^ (N + 1 - n)) h2
      rw [← Nat.pow_add, show n - 1 + (N + 1 - n) = N from by omega] at this
      exact this
    rw [Nat.mul_right_comm]
    exact Nat.mul_lt_mul_of_pos_right (by omega) hp
end Go.Proofs.Ytmaconeeonkdgaa
