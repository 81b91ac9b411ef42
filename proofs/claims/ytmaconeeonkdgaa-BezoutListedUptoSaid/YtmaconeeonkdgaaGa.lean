/- bezout.GcdAll, ExtAll, printed by p_all.py -/
import Derived.Test.YtmaconeeonkdgaaLi
import Derived.Test.YtmaconeeonkdgaaK7
namespace Go.Proofs.Ytmaconeeonkdgaa
open Go.RowKit

theorem getD_snoc {α : Type} {l : List α} {k : Nat} {d : α} (h : k < l.length) : l.take (k + 1) = l.take k ++ [l.getD k d] := by
  rw [List.take_add_one, List.getD_eq_getElem?_getD, List.getElem?_eq_getElem h]; rfl
/-- the divisor of a list -/
def gcdL (zs : List Int) : Int := zs.foldl (fun g z => (Int.gcd g z : Int)) 0
theorem gcdL_snoc (zs : List Int) (z : Int) : gcdL (zs ++ [z]) = (Int.gcd (gcdL zs) z : Int) := by unfold gcdL; rw [List.foldl_append]; rfl
theorem gcdL_succ {zs : List Int} {k : Nat} (h : k < zs.length) : (Int.gcd (gcdL (zs.take k)) (zs.getD k 0) : Int) = gcdL (zs.take (k + 1)) := by rw [getD_snoc (d := 0) h, gcdL_snoc]
theorem ln_gcdL {zs : List Int} {N : Nat} (h : ∀ i, ln (zs.getD i 0) ≤ N) (k : Nat) : ln (gcdL (zs.take k)) ≤ N := by
  induction k with
  | zero => rw [List.take_zero]; exact Nat.zero_le _
  | succ k ih =>
    by_cases hk : k < zs.length
    · rw [← gcdL_succ hk]; exact Nat.le_trans (ln_gcd _ _) (Nat.max_le.2 ⟨ih, h k⟩)
    · rw [List.take_of_length_le (by omega)] at ih ⊢; exact ih
theorem ln_getD {zs : List Int} {N : Nat} {w : World} {A : Option Addr} {n cap : Nat} {ms : List Nat} (h : Zl w A n cap zs ms) (hm : ∀ i, ms.getD i 0 ≤ N) (i : Nat) : ln (zs.getD i 0) ≤ N := by
  by_cases hi : i < n
  · obtain ⟨p, s, B, c, _, _, hz⟩ := h.at hi
    exact Nat.le_trans hz.ln (hm i)
  · rw [List.getD_eq_getElem?_getD, List.getElem?_eq_none (by rw [h.len]; omega)]; exact Nat.zero_le _
theorem zl_full {zs : List Int} {w : World} {A : Option Addr} {n cap : Nat} {ms : List Nat} (h : Zl w A n cap zs ms) : zs.take n = zs := List.take_of_length_le (by rw [h.len]; exact Nat.le_refl _)

set_option maxHeartbeats 4000000 in
theorem g_bezout_GcdAll {w : World} {b : Nat} (hb : b ≤ w.heap.size) {A : Option Addr} {n cap : Nat} {zs : List Int} {ms : List Nat} (hl : Zl w A n cap zs ms) (hn : n ≤ 2097152) (hmb : ∀ i, ms.getD i 0 ≤ 16777216) :
    Calls Try.prog 47 #[.slice A n cap] w (Gv w (ZR b (gcdL zs))) := by
  have hln : ∀ i, ln (zs.getD i 0) ≤ 16777216 := ln_getD hl hmb
  refine sx_enter Try.func47 rfl (n := 17) rfl (Nat.le_of_ble_eq_true rfl) (args := [.slice A n cap]) ?_
  refine cw_keep [(0, .slice A n cap)] ⟨rfl, trivial⟩ ?_
  refine cw_seq ?_
  -- region 0
  refine cw_region ?_
  refine wl_alloc rfl (z := .agg #[.bool false, .slice none 0 0]) (vs := [.bool false, .slice none 0 0]) (fun _ => by kernel_rfl) rfl (by decide) fun g1 v2 nb => ?_
  have hb4 := nb.bk
  have ge5 : w.heap.size ≤ g1 := by rw [← nb.at_]; exact (Ext.refl w).size
  have e3 := nb.ext
  clear nb
  have hw1 : Ext w v2 := (Ext.refl w).trans e3
  refine wl_nil ?_
  refine eo_then ?_
  refine cw_seq ?_
  -- region 1
  refine cw_region ?_
  refine wl_alloc rfl (z := .agg #[.bool false, .slice none 0 0]) (vs := [.bool false, .slice none 0 0]) (fun _ => by kernel_rfl) rfl (by decide) fun g6 v7 nb => ?_
  have hb9 := nb.bk
  have ge10 : w.heap.size ≤ g6 := by rw [← nb.at_]; exact hw1.size
  have q11 : g1 < g6 := by rw [← nb.at_]; exact hb4.lt
  have e8 := nb.ext
  clear nb
  have hw2 : Ext w v7 := hw1.trans e8
  refine wl_nil ?_
  refine eo_then ?_
  refine cw_seq ?_
  refine cw_seq ?_
  -- region 2
  refine cw_region ?_
  refine wl_move rfl rfl (by decide) ?_
  refine wl_pure rfl rfl (v := .int .i64 ((n : Nat) : Int)) (by decide) (by kernel_rfl) ?_
  refine wl_move rfl rfl (by decide) ?_
  refine wl_nil ?_
  refine eo_then ?_
  refine cw_block ?_
  refine cw_loop (T := World × Nat × ZC)
    (fun ⟨wr, k, kg⟩ => [(2, .pointer (some ⟨g1, 0, none⟩)), (3, .pointer (some ⟨g6, 0, none⟩)), (6, .slice A n cap), (7, .int .i64 ((n : Nat) : Int)), (8, .int .i64 ((k : Nat) : Int))])
    (fun ⟨wr, k, kg⟩ => wr)
    (fun ⟨wr, k, kg⟩ => (Ext w wr) ∧ (k ≤ n) ∧ (Bk wr g1 27 [.bool false, .slice none 0 0]) ∧ (Bk wr g6 27 [.bool kg.s, .slice kg.A kg.n kg.c]) ∧ (Zr wr w.heap.size kg.s kg.A kg.n kg.c (gcdL (zs.take k))))
    (fun ⟨wr, k, kg⟩ => n - k)
    (⟨v7, 0, ⟨false, none, 0, 0⟩⟩ : World × Nat × ZC) ⟨hw2, Nat.zero_le _, (hb4.ext e8), hb9, Zr.zero⟩ rfl ⟨rfl, rfl, rfl, rfl, rfl, trivial⟩ ?_
  rintro ⟨wr, k, kg⟩ ⟨hw1, hk, b_2, b_3, zg⟩
  refine cw_re [(2, .pointer (some ⟨g1, 0, none⟩)), (3, .pointer (some ⟨g6, 0, none⟩)), (6, .slice A n cap), (7, .int .i64 ((n : Nat) : Int)), (8, .int .i64 ((k : Nat) : Int))] wr rfl ⟨rfl, rfl, rfl, rfl, rfl, trivial⟩ ?_
  refine cw_seq ?_
  by_cases hkn : k < n
  ·
    -- region 3
    refine cw_region ?_
    refine wl_cmp rfl rfl rfl true (cb_lt_t (a := k) (b := n) rfl rfl (by omega)) (by decide) ?_
    refine wl_nil ?_
    refine eo_then ?_
    refine cw_seq ?_
    refine cw_true rfl ?_
    refine cw_skip ?_
    refine eo_then ?_
    refine cw_seq ?_
    refine cw_block ?_
    refine cw_seq ?_
    -- region 4
    refine cw_region ?_
    obtain ⟨pz12, sz12, Bz12, cz12, hpz12, ldz12, ez12⟩ := hl.at (i := k) (by omega)
    refine wl_idx rfl rfl rfl elemI aggInt.size k rfl (by omega) pz12 hpz12 (by decide) ?_
    refine wl_load rfl rfl (ldz12 _ hw1 _ _ aggInt) (by decide) ?_
    refine wl_alloc rfl (z := .agg #[.bool false, .slice none 0 0]) (vs := [.bool false, .slice none 0 0]) (fun _ => by kernel_rfl) rfl (by decide) fun g13 v14 nb => ?_
    have hb16 := nb.bk
    have ge17 : w.heap.size ≤ g13 := by rw [← nb.at_]; exact hw1.size
    have q18 : g6 < g13 := by rw [← nb.at_]; exact b_3.lt
    have e15 := nb.ext
    clear nb
    have hw2 : Ext w v14 := hw1.trans e15
    have hb20 := hb16
    refine wl_stored rfl rfl rfl aggInt rfl hb20 (Nat.le_of_ble_eq_true rfl) rfl [.bool sz12, .slice Bz12 (ms.getD k 0) cz12] rfl fun v19 hb21 u22 hs23 => ?_
    have hw3 : Ext w v19 := u22.ext hw2 ge17
    refine wl_nil ?_
    refine eo_then ?_
    -- region 5
    refine cw_region ?_
    refine wl_load rfl rfl (load_agg aggInt ((b_3.ext e15).updN u22 (by omega)) [.bool kg.s, .slice kg.A kg.n kg.c] rfl (Nat.le_of_ble_eq_true rfl) rfl) (by decide) ?_
    refine wl_load rfl rfl (load_agg aggInt hb21 [.bool sz12, .slice Bz12 (ms.getD k 0) cz12] rfl (Nat.le_of_ble_eq_true rfl) rfl) (by decide) ?_
    have L24 : ln ((Int.gcd (gcdL (zs.take k)) (zs.getD k 0) : Int)) ≤ 16777216 := Nat.le_trans (ln_gcd _ _) (Nat.max_le.2 ⟨Nat.le_trans (ln_gcdL hln k) (by decide), Nat.le_trans (Nat.le_trans ez12.ln (hmb k)) (by decide)⟩)
    refine wl_call rfl rfl (vs := [.agg #[.bool kg.s, .slice kg.A kg.n kg.c], .agg #[.bool sz12, .slice Bz12 (ms.getD k 0) cz12]]) (by kernel_rfl) (by decide) (g_bezout_Gcd hw3.size ((zg.ext e15).updT hb20 u22).zi (zg.le (Nat.le_trans (ln_gcdL hln k) (by decide))) (ez12.ext hw3) (Nat.le_trans (hmb k) (by decide))) ?_
    rintro _ v25 ⟨xr27, rfl, r27, e26⟩
    refine ret_intro ?_
    have hw4 : Ext w v25 := hw3.trans e26
    obtain ⟨s28, A28, n28, c28, rfl, z28⟩ := r27
    have hb30 := (((b_3.ext e15).updN u22 (by omega)).ext e26)
    refine wl_stored rfl rfl rfl aggInt rfl hb30 (Nat.le_of_ble_eq_true rfl) rfl [.bool s28, .slice A28 n28 c28] rfl fun v29 hb31 u32 hs33 => ?_
    have hw5 : Ext w v29 := u32.ext hw4 ge10
    refine wl_nil ?_
    refine eo_block_normal ?_
    refine eo_then ?_
    -- region 6
    refine cw_region ?_
    refine wl_ar rfl rfl rfl ((k + 1 : Nat) : Int) (ai_add (a := k) (b := 1) rfl rfl (by omega)) (by decide) ?_
    refine wl_move rfl rfl (by decide) ?_
    refine wl_nil ?_
    refine eo_round (⟨v29, k + 1, ⟨s28, A28, n28, c28⟩⟩ : World × Nat × ZC) ⟨hw5, (by omega), ((((b_2.ext e15).updN u22 (by omega)).ext e26).updN u32 (by omega)), hb31, ((z28.updT hb30 u32)).cast (gcdL_succ (by rw [hl.len]; omega))⟩ (show n - (k + 1) < n - k by omega) rfl ⟨rfl, rfl, rfl, rfl, rfl, trivial⟩
  ·
    -- region 3
    refine cw_region ?_
    refine wl_cmp rfl rfl rfl false (cb_lt_f (a := k) (b := n) rfl rfl (by omega)) (by decide) ?_
    refine wl_nil ?_
    refine eo_then ?_
    refine cw_seq ?_
    refine cw_false rfl ?_
    refine cw_exit ?_
    refine eo_thenX ?_
    refine eo_loopX ?_
    refine eo_block_here ?_
    refine eo_then ?_
    refine cw_seq ?_
    -- region 7
    refine cw_region ?_
    refine wl_load rfl rfl (load_agg aggInt b_3 [.bool kg.s, .slice kg.A kg.n kg.c] rfl (Nat.le_of_ble_eq_true rfl) rfl) (by decide) ?_
    have hb35 := b_2
    refine wl_stored rfl rfl rfl aggInt rfl hb35 (Nat.le_of_ble_eq_true rfl) rfl [.bool kg.s, .slice kg.A kg.n kg.c] rfl fun v34 hb36 u37 hs38 => ?_
    have hw2 : Ext w v34 := u37.ext hw1 ge5
    refine wl_nil ?_
    refine eo_then ?_
    refine cw_ret ?_
    refine eo_ret [.agg #[.bool kg.s, .slice kg.A kg.n kg.c]] rfl ⟨⟨_, rfl, load_agg aggInt hb36 [.bool kg.s, .slice kg.A kg.n kg.c] rfl (Nat.le_of_ble_eq_true rfl) rfl⟩, trivial⟩ ?_
    have hkn2 : k = n := by omega
    exact ⟨_, rfl, ⟨_, _, _, _, rfl, (((zg.updT hb35 u37)).cast (show gcdL (zs.take k) = gcdL zs by rw [hkn2, zl_full hl])).mono hb⟩, hw2⟩

/-- the sum of products -/
def dotL : List Int → List Int → Int
  | z :: zs, c :: cs => z * c + dotL zs cs
  | _, _ => 0
theorem dotL_snoc : ∀ (zs cs : List Int) (z c : Int), zs.length = cs.length → dotL (zs ++ [z]) (cs ++ [c]) = dotL zs cs + z * c
  | [], [], z, c, _ => by simp [dotL]
  | a :: zs, b :: cs, z, c, h => by simp only [List.cons_append, dotL, dotL_snoc zs cs z c (by simpa using h)]; omega
  | [], b :: cs, z, c, h => by simp at h
  | a :: zs, [], z, c, h => by simp at h
theorem dotL_mul : ∀ (zs cs : List Int) (u : Int), dotL zs (cs.map (· * u)) = dotL zs cs * u
  | [], cs, u => by cases cs <;> simp [dotL]
  | a :: zs, [], u => by simp [dotL]
  | a :: zs, b :: cs, u => by simp only [List.map_cons, dotL, dotL_mul zs cs u, Int.add_mul, Int.mul_assoc]
/-- the first j numbers taken u times -/
def mulTo (cs : List Int) (u : Int) (j : Nat) : List Int := (cs.take j).map (· * u) ++ cs.drop j
theorem mulTo_zero (cs : List Int) (u : Int) : mulTo cs u 0 = cs := by simp [mulTo]
theorem mulTo_full {cs : List Int} {u : Int} {k : Nat} (h : cs.length = k) : mulTo cs u k = cs.map (· * u) := by subst h; simp [mulTo]
theorem mulTo_get {cs : List Int} {u : Int} {j : Nat} (h : j < cs.length) : (mulTo cs u j).getD j 0 = cs.getD j 0 := by
  have e : ((cs.take j).map (· * u)).length = j := by simp; omega
  unfold mulTo
  rw [List.getD_eq_getElem?_getD, List.getElem?_append_right (by omega), e, Nat.sub_self, List.getElem?_drop, List.getD_eq_getElem?_getD, Nat.add_zero]
theorem mulTo_succ {cs : List Int} {u : Int} {j : Nat} (h : j < cs.length) : (mulTo cs u j).set j ((mulTo cs u j).getD j 0 * u) = mulTo cs u (j + 1) := by
  rw [mulTo_get h]
  have e : ((cs.take j).map (· * u)).length = j := by simp; omega
  unfold mulTo
  rw [List.set_append_right _ _ (by omega), e, Nat.sub_self, getD_snoc (d := 0) h, List.map_append, List.append_assoc]
  congr 1
  rw [List.drop_eq_getElem_cons h, List.set_cons_zero, List.getD_eq_getElem?_getD, List.getElem?_eq_getElem h]
  rfl
/-- the room that a list's numbers take -/
def sl (zs : List Int) : Nat := (zs.map fun z => ln z + 1).sum
theorem sl_snoc (zs : List Int) (z : Int) : sl (zs ++ [z]) = sl zs + (ln z + 1) := by simp [sl]
theorem sl_eq : ∀ zs : List Int, sl zs = (zs.map ln).sum + zs.length
  | [] => rfl
  | a :: r => by
    have ih := sl_eq r
    simp only [sl, List.map_cons, List.sum_cons, List.length_cons] at ih ⊢; omega
theorem sl_le (zs : List Int) : ∀ k, sl (zs.take k) ≤ (zs.map ln).sum + zs.length := by
  intro k
  have h1 : sl (zs.take k) ≤ sl zs := by
    have e : sl zs = sl (zs.take k) + sl (zs.drop k) := by
      unfold sl; rw [← List.sum_append, ← List.map_append, List.take_append_drop]
    omega
  have h2 := sl_eq zs
  omega
theorem Bez.ln_u2 {x y u v : Int} (h : Bez x y u v) : ln u ≤ ln y + 1 := by
  by_cases hy : y = 0
  · rw [(h.zero hy).1]
    rcases Int.lt_trichotomy x 0 with hx | hx | hx
    · rw [Int.sign_eq_neg_one_of_neg hx]; exact Nat.le_trans (ln_w1 (by decide) (by decide)) (by omega)
    · subst hx; exact Nat.zero_le _
    · rw [Int.sign_eq_one_of_pos hx]; exact Nat.le_trans (ln_w1 (by decide) (by decide)) (by omega)
  · have h1 := h.lo hy
    have h2 := h.hi hy
    have h3 := Int.gcd_pos_of_ne_zero_right x hy
    refine Nat.le_trans (ln_mono (y := y) ?_) (Nat.le_succ _)
    have h4 : u * 1 ≤ u * (Int.gcd x y : Int) := Int.mul_le_mul_of_nonneg_left (by omega) h1
    omega
theorem mulTo_len {cs : List Int} {u : Int} {j : Nat} : (mulTo cs u j).length = cs.length := by simp [mulTo]; omega
theorem ext_step {zs cs : List Int} {k j : Nat} (hj : j = k) {u v : Int} (hk : k < zs.length) (hl : cs.length = k) (hd : dotL (zs.take k) cs = gcdL (zs.take k)) (h : Bez (gcdL (zs.take k)) (zs.getD k 0) u v) :
    dotL (zs.take (k + 1)) (mulTo cs u j ++ [v]) = gcdL (zs.take (k + 1)) := by
  rw [hj, mulTo_full hl, getD_snoc (d := 0) hk, dotL_snoc _ _ _ _ (by simp; omega), dotL_mul, hd, gcdL_snoc]
  exact h.eq
theorem getD_map0 {cs : List Int} {u : Int} (i : Nat) : (cs.map (· * u)).getD i 0 = cs.getD i 0 * u := by
  simp only [List.getD_eq_getElem?_getD, List.getElem?_map]
  cases cs[i]? <;> simp
theorem ext_bound {zs cs : List Int} {k j : Nat} (hj : j = k) {u v g : Int} {M : Nat} (hk : k < zs.length) (hl : cs.length = k) (hB : ∀ i, ln (cs.getD i 0) ≤ M + sl (zs.take k)) (h : Bez g (zs.getD k 0) u v) (hv : ln v ≤ M) :
    ∀ i, ln ((mulTo cs u j ++ [v]).getD i 0) ≤ M + sl (zs.take (k + 1)) := by
  intro i
  rw [hj, mulTo_full hl, getD_snoc (d := 0) hk, sl_snoc]
  by_cases hi : i < k
  · rw [getD_app_l (by simp; omega), getD_map0]
    have h1 := hB i
    have h2 := h.ln_u2
    exact Nat.le_trans (ln_mul h1 h2) (by omega)
  · by_cases hik : i = k
    · subst hik
      have e : ((cs.map (· * u)) ++ [v]).getD i 0 = v := by
        have e2 : (cs.map (· * u)).length = i := by simp [hl]
        rw [← e2]; exact getD_app_m
      rw [e]; omega
    · rw [List.getD_eq_getElem?_getD, List.getElem?_eq_none (by simp; omega)]; exact Nat.zero_le _
/-- a list of the call's own as an answer -/
def LR (K b lb n : Nat) (zs : List Int) (v : Value) (w : World) : Prop := ∃ A cap, v = .slice A n cap ∧ Lz none K b w lb A n cap zs
/-- multipliers of a list -/
structure ExtL (zs cs : List Int) (n : Nat) : Prop where
  len : cs.length = n
  dot : dotL zs cs = gcdL zs
  ln : ∀ i, Go.Proofs.Ytmaconeeonkdgaa.ln (cs.getD i 0) ≤ 3145730

set_option maxHeartbeats 4000000 in
theorem g_bezout_ExtAll {w : World} {b b2 : Nat} (hb : b ≤ w.heap.size) (hb2 : b2 ≤ w.heap.size) {A : Option Addr} {n cap : Nat} {zs : List Int} {ms : List Nat} (hl : Zl w A n cap zs ms) (hn : n ≤ 1048576) (hmb : ∀ i, ms.getD i 0 ≤ 1048576) (hsum : (zs.map ln).sum ≤ 1048576) :
    Calls Try.prog 46 #[.slice A n cap] w (fun e w' => ∃ cs, ExtL zs cs n ∧ Gv w (T2 (ZR b (gcdL zs)) (LR 8388608 b b2 n cs)) e w') := by
  have hln : ∀ i, ln (zs.getD i 0) ≤ 1048576 := ln_getD hl hmb
  have hsl : ∀ k, sl (zs.take k) ≤ 2097152 := fun k => Nat.le_trans (sl_le zs k) (by rw [hl.len]; omega)
  refine sx_enter Try.func46 rfl (n := 51) rfl (Nat.le_of_ble_eq_true rfl) (args := [.slice A n cap]) ?_
  refine cw_keep [(0, .slice A n cap)] ⟨rfl, trivial⟩ ?_
  refine cw_seq ?_
  -- region 0
  refine cw_region ?_
  refine wl_alloc rfl (z := .agg #[.bool false, .slice none 0 0]) (vs := [.bool false, .slice none 0 0]) (fun _ => by kernel_rfl) rfl (by decide) fun g1 v2 nb => ?_
  have hb4 := nb.bk
  have ge5 : w.heap.size ≤ g1 := by rw [← nb.at_]; exact (Ext.refl w).size
  have e3 := nb.ext
  clear nb
  have hw1 : Ext w v2 := (Ext.refl w).trans e3
  refine wl_assign rfl rfl (by decide) ?_
  refine wl_nil ?_
  refine eo_then ?_
  refine cw_seq ?_
  -- region 1
  refine cw_region ?_
  refine wl_alloc rfl (z := .agg #[.bool false, .slice none 0 0]) (vs := [.bool false, .slice none 0 0]) (fun _ => by kernel_rfl) rfl (by decide) fun g6 v7 nb => ?_
  have hb9 := nb.bk
  have ge10 : w.heap.size ≤ g6 := by rw [← nb.at_]; exact hw1.size
  have q11 : g1 < g6 := by rw [← nb.at_]; exact hb4.lt
  have e8 := nb.ext
  clear nb
  have hw2 : Ext w v7 := hw1.trans e8
  refine wl_nil ?_
  refine eo_then ?_
  refine cw_seq ?_
  -- region 2
  refine cw_region ?_
  refine wl_move rfl rfl (by decide) ?_
  refine wl_pure rfl rfl (v := .int .i64 ((n : Nat) : Int)) (by decide) (by kernel_rfl) ?_
  refine wl_makeI (k := n) none 8388608 w.heap.size rfl rfl rfl (by omega) (by decide) fun g12 v13 hg14 lz15 e16 => ?_
  have q17 : g1 < g12 := by rw [← hg14]; exact (hb4.ext e8).lt
  have q18 : g6 < g12 := by rw [← hg14]; exact hb9.lt
  have hlbg12 : g12 ≤ v13.heap.size := by have := (lz15.block _ rfl).2; exact Nat.le_of_lt this
  have hglg12 : w.heap.size ≤ g12 := by rw [← hg14]; exact hw2.size
  clear hg14
  have hw3 : Ext w v13 := hw2.trans e16
  have blk19 := lz15.block
  refine wl_assign rfl rfl (by decide) ?_
  refine wl_nil ?_
  refine eo_then ?_
  refine cw_seq ?_
  refine cw_seq ?_
  -- region 3
  refine cw_region ?_
  refine wl_move rfl rfl (by decide) ?_
  refine wl_pure rfl rfl (v := .int .i64 ((n : Nat) : Int)) (by decide) (by kernel_rfl) ?_
  refine wl_move rfl rfl (by decide) ?_
  refine wl_nil ?_
  refine eo_then ?_
  refine cw_block ?_
  refine cw_loop (T := World × Nat × ZC × Option Addr × Nat × List Int)
    (fun ⟨wr, k, kg, LA, lc, cs⟩ => [(2, .pointer (some ⟨g1, 0, none⟩)), (3, .slice none 0 0), (4, .pointer (some ⟨g6, 0, none⟩)), (5, .slice LA k lc), (15, .slice A n cap), (16, .int .i64 ((n : Nat) : Int)), (17, .int .i64 ((k : Nat) : Int))])
    (fun ⟨wr, k, kg, LA, lc, cs⟩ => wr)
    (fun ⟨wr, k, kg, LA, lc, cs⟩ => (Ext w wr) ∧ (k ≤ n) ∧ (cs.length = k) ∧ (∀ i, ln (cs.getD i 0) ≤ 1048578 + sl (zs.take k)) ∧ (dotL (zs.take k) cs = gcdL (zs.take k)) ∧ (g12 ≤ wr.heap.size) ∧ (Lz none 8388608 w.heap.size wr g12 LA k lc cs) ∧ (Bk wr g1 27 [.bool false, .slice none 0 0]) ∧ (Bk wr g6 27 [.bool kg.s, .slice kg.A kg.n kg.c]) ∧ (Zr wr w.heap.size kg.s kg.A kg.n kg.c (gcdL (zs.take k))))
    (fun ⟨wr, k, kg, LA, lc, cs⟩ => n - k)
    (⟨v13, 0, ⟨false, none, 0, 0⟩, (some ⟨g12, 0, none⟩), n, []⟩ : World × Nat × ZC × Option Addr × Nat × List Int) ⟨hw3, Nat.zero_le _, rfl, (fun i => Nat.zero_le _), rfl, hlbg12, lz15, (hb4.ext (e8.trans e16)), (hb9.ext e16), Zr.zero⟩ rfl ⟨rfl, rfl, rfl, rfl, rfl, rfl, rfl, trivial⟩ ?_
  rintro ⟨wr, k, kg, LA, lc, cs⟩ ⟨hw1, hk, hcl, hB, hdot, hlb, hlz, b_2, b_4, zg⟩
  refine cw_re [(2, .pointer (some ⟨g1, 0, none⟩)), (3, .slice none 0 0), (4, .pointer (some ⟨g6, 0, none⟩)), (5, .slice LA k lc), (15, .slice A n cap), (16, .int .i64 ((n : Nat) : Int)), (17, .int .i64 ((k : Nat) : Int))] wr rfl ⟨rfl, rfl, rfl, rfl, rfl, rfl, rfl, trivial⟩ ?_
  have blk20 := hlz.block
  refine cw_seq ?_
  by_cases hkn : k < n
  ·
    -- region 4
    refine cw_region ?_
    refine wl_cmp rfl rfl rfl true (cb_lt_t (a := k) (b := n) rfl rfl (by omega)) (by decide) ?_
    refine wl_nil ?_
    refine eo_then ?_
    refine cw_seq ?_
    refine cw_true rfl ?_
    refine cw_skip ?_
    refine eo_then ?_
    refine cw_seq ?_
    refine cw_block ?_
    refine cw_seq ?_
    -- region 5
    refine cw_region ?_
    obtain ⟨pz21, sz21, Bz21, cz21, hpz21, ldz21, ez21⟩ := hl.at (i := k) (by omega)
    refine wl_idx rfl rfl rfl elemI aggInt.size k rfl (by omega) pz21 hpz21 (by decide) ?_
    refine wl_load rfl rfl (ldz21 _ hw1 _ _ aggInt) (by decide) ?_
    refine wl_alloc rfl (z := .agg #[.bool false, .slice none 0 0]) (vs := [.bool false, .slice none 0 0]) (fun _ => by kernel_rfl) rfl (by decide) fun g22 v23 nb => ?_
    have hb25 := nb.bk
    have ge26 : w.heap.size ≤ g22 := by rw [← nb.at_]; exact hw1.size
    have q27 : g6 < g22 := by rw [← nb.at_]; exact b_4.lt
    have ne28 : ∀ p, LA = some p → p.block ≠ g22 := fun p hp => by have := (hlz).block p hp; have := nb.at_; omega
    have e24 := nb.ext
    clear nb
    have hw2 : Ext w v23 := hw1.trans e24
    have hb30 := hb25
    refine wl_stored rfl rfl rfl aggInt rfl hb30 (Nat.le_of_ble_eq_true rfl) rfl [.bool sz21, .slice Bz21 (ms.getD k 0) cz21] rfl fun v29 hb31 u32 hs33 => ?_
    have hw3 : Ext w v29 := u32.ext hw2 ge26
    refine wl_nil ?_
    refine eo_then ?_
    refine cw_seq ?_
    -- region 6
    refine cw_region ?_
    refine wl_load rfl rfl (load_agg aggInt ((b_4.ext e24).updN u32 (by omega)) [.bool kg.s, .slice kg.A kg.n kg.c] rfl (Nat.le_of_ble_eq_true rfl) rfl) (by decide) ?_
    refine wl_load rfl rfl (load_agg aggInt hb31 [.bool sz21, .slice Bz21 (ms.getD k 0) cz21] rfl (Nat.le_of_ble_eq_true rfl) rfl) (by decide) ?_
    refine wl_call rfl rfl (vs := [.agg #[.bool kg.s, .slice kg.A kg.n kg.c], .agg #[.bool sz21, .slice Bz21 (ms.getD k 0) cz21]]) (by kernel_rfl) (by decide) (g_bezout_Ext hw3.size ((zg.ext e24).updT hb30 u32).zi (zg.le (Nat.le_trans (ln_gcdL hln k) (by decide))) (ez21.ext hw3) (Nat.le_trans (hmb k) (by decide))) ?_
    rintro _ v34 ⟨u37, v38, p39, xr36, rfl, r36, e35⟩
    have L40 : ln ((Int.gcd (gcdL (zs.take k)) (zs.getD k 0) : Int)) ≤ 1048576 := Nat.le_trans (ln_gcd _ _) (Nat.max_le.2 ⟨Nat.le_trans (ln_gcdL hln k) (by decide), Nat.le_trans (Nat.le_trans ez21.ln (hmb k)) (by decide)⟩)
    have L41 : ln (u37) ≤ 1048577 := (p39.ln_u (ln_gcdL hln k) (Nat.le_trans ez21.ln (hmb k)))
    have L42 : ln (v38) ≤ 1048577 := (p39.ln_v (ln_gcdL hln k) (Nat.le_trans ez21.ln (hmb k)))
    refine ret_intro ?_
    have hw4 : Ext w v34 := hw3.trans e35
    obtain ⟨a43_0, a43_1, a43_2, rfl, r43_0, r43_1, r43_2⟩ := r36
    obtain ⟨s44, A44, n44, c44, rfl, z44⟩ := r43_0
    obtain ⟨s45, A45, n45, c45, rfl, z45⟩ := r43_1
    obtain ⟨s46, A46, n46, c46, rfl, z46⟩ := r43_2
    refine wl_move rfl rfl (by decide) ?_
    refine wl_pure rfl rfl (v := .agg #[.bool s44, .slice A44 n44 c44]) (by decide) (by kernel_rfl) ?_
    refine wl_pure rfl rfl (v := .agg #[.bool s45, .slice A45 n45 c45]) (by decide) (by kernel_rfl) ?_
    refine wl_pure rfl rfl (v := .agg #[.bool s46, .slice A46 n46 c46]) (by decide) (by kernel_rfl) ?_
    refine wl_alloc rfl (z := .agg #[.bool false, .slice none 0 0]) (vs := [.bool false, .slice none 0 0]) (fun _ => by kernel_rfl) rfl (by decide) fun g47 v48 nb => ?_
    have hb50 := nb.bk
    have ge51 : w.heap.size ≤ g47 := by rw [← nb.at_]; exact hw4.size
    have q52 : g22 < g47 := by rw [← nb.at_]; exact (hb31.ext e35).lt
    have ne53 : ∀ p, LA = some p → p.block ≠ g47 := fun p hp => by have := ((((hlz.ext e24).updT hb30 u32 ne28).ext e35)).block p hp; have := nb.at_; omega
    have e49 := nb.ext
    clear nb
    have hw5 : Ext w v48 := hw4.trans e49
    refine wl_alloc rfl (z := .agg #[.bool false, .slice none 0 0]) (vs := [.bool false, .slice none 0 0]) (fun _ => by kernel_rfl) rfl (by decide) fun g54 v55 nb => ?_
    have hb57 := nb.bk
    have ge58 : w.heap.size ≤ g54 := by rw [← nb.at_]; exact hw5.size
    have q59 : g47 < g54 := by rw [← nb.at_]; exact hb50.lt
    have ne60 : ∀ p, LA = some p → p.block ≠ g54 := fun p hp => by have := ((((hlz.ext e24).updT hb30 u32 ne28).ext (e35.trans e49))).block p hp; have := nb.at_; omega
    have e56 := nb.ext
    clear nb
    have hw6 : Ext w v55 := hw5.trans e56
    refine wl_alloc rfl (z := .agg #[.bool false, .slice none 0 0]) (vs := [.bool false, .slice none 0 0]) (fun _ => by kernel_rfl) rfl (by decide) fun g61 v62 nb => ?_
    have hb64 := nb.bk
    have ge65 : w.heap.size ≤ g61 := by rw [← nb.at_]; exact hw6.size
    have q66 : g54 < g61 := by rw [← nb.at_]; exact hb57.lt
    have ne67 : ∀ p, LA = some p → p.block ≠ g61 := fun p hp => by have := ((((hlz.ext e24).updT hb30 u32 ne28).ext (e35.trans (e49.trans e56)))).block p hp; have := nb.at_; omega
    have e63 := nb.ext
    clear nb
    have hw7 : Ext w v62 := hw6.trans e63
    have hb69 := (hb50.ext (e56.trans e63))
    refine wl_stored rfl rfl rfl aggInt rfl hb69 (Nat.le_of_ble_eq_true rfl) rfl [.bool s44, .slice A44 n44 c44] rfl fun v68 hb70 u71 hs72 => ?_
    have hw8 : Ext w v68 := u71.ext hw7 ge51
    have hb74 := ((hb57.ext e63).updN u71 (by omega))
    refine wl_stored rfl rfl rfl aggInt rfl hb74 (Nat.le_of_ble_eq_true rfl) rfl [.bool s45, .slice A45 n45 c45] rfl fun v73 hb75 u76 hs77 => ?_
    have hw9 : Ext w v73 := u76.ext hw8 ge58
    have hb79 := ((hb64.updN u71 (by omega)).updN u76 (by omega))
    refine wl_stored rfl rfl rfl aggInt rfl hb79 (Nat.le_of_ble_eq_true rfl) rfl [.bool s46, .slice A46 n46 c46] rfl fun v78 hb80 u81 hs82 => ?_
    have hw10 : Ext w v78 := u81.ext hw9 ge65
    refine wl_nil ?_
    refine eo_then ?_
    refine cw_seq ?_
    refine cw_seq ?_
    -- region 7
    refine cw_region ?_
    refine wl_move rfl rfl (by decide) ?_
    refine wl_pure rfl rfl (v := .int .i64 ((k : Nat) : Int)) (by decide) (by kernel_rfl) ?_
    refine wl_move rfl rfl (by decide) ?_
    refine wl_nil ?_
    refine eo_then ?_
    refine cw_block ?_
    have hlu := p39.ln_u2
    have hlz1 := hln k
    have hlv : ln v38 ≤ 1048578 := by have := (p39.ln_v (N := 1048577) (Nat.le_trans (ln_gcdL hln k) (by decide)) (Nat.le_trans (hln k) (by decide))); exact this
    refine cw_loop (T := World × Nat)
      (fun ⟨wi, j⟩ => [(2, .pointer (some ⟨g1, 0, none⟩)), (3, .slice none 0 0), (4, .pointer (some ⟨g6, 0, none⟩)), (5, .slice LA k lc), (7, .pointer (some ⟨g22, 0, none⟩)), (8, .pointer (some ⟨g47, 0, none⟩)), (9, .pointer (some ⟨g54, 0, none⟩)), (10, .pointer (some ⟨g61, 0, none⟩)), (15, .slice A n cap), (16, .int .i64 ((n : Nat) : Int)), (17, .int .i64 ((k : Nat) : Int)), (29, .int .i64 ((k : Nat) : Int)), (30, .int .i64 ((j : Nat) : Int))])
      (fun ⟨wi, j⟩ => wi)
      (fun ⟨wi, j⟩ => (Ext w wi) ∧ (j ≤ k) ∧ (g12 ≤ wi.heap.size) ∧ (Lz none 8388608 w.heap.size wi g12 LA k lc (mulTo cs u37 j)) ∧ (Bk wi g1 27 [.bool false, .slice none 0 0]) ∧ (Bk wi g6 27 [.bool kg.s, .slice kg.A kg.n kg.c]) ∧ (Bk wi g22 27 [.bool sz21, .slice Bz21 (ms.getD k 0) cz21]) ∧ (Bk wi g47 27 [.bool s44, .slice A44 n44 c44]) ∧ (Bk wi g54 27 [.bool s45, .slice A45 n45 c45]) ∧ (Bk wi g61 27 [.bool s46, .slice A46 n46 c46]) ∧ (Zr wi w.heap.size kg.s kg.A kg.n kg.c (gcdL (zs.take k))) ∧ (Zr wi w.heap.size s44 A44 n44 c44 ((Int.gcd (gcdL (zs.take k)) (zs.getD k 0) : Int))) ∧ (Zr wi w.heap.size s45 A45 n45 c45 (u37)) ∧ (Zr wi w.heap.size s46 A46 n46 c46 (v38)))
      (fun ⟨wi, j⟩ => k - j)
      (⟨v78, 0⟩ : World × Nat) ⟨hw10, Nat.zero_le _, (Nat.le_trans (Nat.le_trans (Nat.le_trans (Nat.le_trans (Nat.le_trans (Nat.le_trans (Nat.le_trans (Nat.le_trans (Nat.le_trans hlb e24.size) u32.by_.size) e35.size) e49.size) e56.size) e63.size) u71.by_.size) u76.by_.size) u81.by_.size), (by rw [mulTo_zero]; exact ((((((hlz.ext e24).updT hb30 u32 ne28).ext (e35.trans (e49.trans (e56.trans e63)))).updT hb69 u71 ne53).updT hb74 u76 ne60).updT hb79 u81 ne67)), ((((((b_2.ext e24).updN u32 (by omega)).ext (e35.trans (e49.trans (e56.trans e63)))).updN u71 (by omega)).updN u76 (by omega)).updN u81 (by omega)), ((((((b_4.ext e24).updN u32 (by omega)).ext (e35.trans (e49.trans (e56.trans e63)))).updN u71 (by omega)).updN u76 (by omega)).updN u81 (by omega)), ((((hb31.ext (e35.trans (e49.trans (e56.trans e63)))).updN u71 (by omega)).updN u76 (by omega)).updN u81 (by omega)), ((hb70.updN u76 (by omega)).updN u81 (by omega)), (hb75.updN u81 (by omega)), hb80, ((((((zg.ext e24).updT hb30 u32).ext (e35.trans (e49.trans (e56.trans e63)))).updT hb69 u71).updT hb74 u76).updT hb79 u81), ((((z44.ext (e49.trans (e56.trans e63))).updT hb69 u71).updT hb74 u76).updT hb79 u81), ((((z45.ext (e49.trans (e56.trans e63))).updT hb69 u71).updT hb74 u76).updT hb79 u81), ((((z46.ext (e49.trans (e56.trans e63))).updT hb69 u71).updT hb74 u76).updT hb79 u81)⟩ rfl ⟨rfl, rfl, rfl, rfl, rfl, rfl, rfl, rfl, rfl, rfl, rfl, rfl, rfl, trivial⟩ ?_
    rintro ⟨wi, j⟩ ⟨hw1, hj, hlb, hlz, b_2, b_4, b_7, b_8, b_9, b_10, zz_4, zz_8, zz_9, zz_10⟩
    refine cw_re [(2, .pointer (some ⟨g1, 0, none⟩)), (3, .slice none 0 0), (4, .pointer (some ⟨g6, 0, none⟩)), (5, .slice LA k lc), (7, .pointer (some ⟨g22, 0, none⟩)), (8, .pointer (some ⟨g47, 0, none⟩)), (9, .pointer (some ⟨g54, 0, none⟩)), (10, .pointer (some ⟨g61, 0, none⟩)), (15, .slice A n cap), (16, .int .i64 ((n : Nat) : Int)), (17, .int .i64 ((k : Nat) : Int)), (29, .int .i64 ((k : Nat) : Int)), (30, .int .i64 ((j : Nat) : Int))] wi rfl ⟨rfl, rfl, rfl, rfl, rfl, rfl, rfl, rfl, rfl, rfl, rfl, rfl, rfl, trivial⟩ ?_
    have blk83 := hlz.block
    refine cw_seq ?_
    by_cases hjk0 : j < k
    ·
      -- region 8
      refine cw_region ?_
      refine wl_cmp rfl rfl rfl true (cb_lt_t (a := j) (b := k) rfl rfl (by omega)) (by decide) ?_
      refine wl_nil ?_
      refine eo_then ?_
      refine cw_seq ?_
      refine cw_true rfl ?_
      refine cw_skip ?_
      refine eo_then ?_
      refine cw_seq ?_
      refine cw_block ?_
      refine cw_seq ?_
      -- region 9
      refine cw_region ?_
      refine wl_move rfl rfl (by decide) ?_
      refine wl_assign rfl rfl (by decide) ?_
      refine wl_nil ?_
      refine eo_then ?_
      -- region 10, in whatever order
      obtain ⟨pz84, sz84, Bz84, nz84, cz84, hpz84, ldz84, hKz84, ez84⟩ := (hlz).at (i := j) (by omega)
      have zz84 := ez84.zr
      have Lz84 : ln ((mulTo cs u37 j).getD j 0) ≤ 3145730 := (by rw [mulTo_get (by omega)]; have := hB j; have := hsl k; omega)
      have L85 : ln (((mulTo cs u37 j).getD j 0) * u37) ≤ 4194307 := Nat.le_trans (ln_mul Lz84 L41) (by decide)
      refine cw_draw mix 9 [] [Is (.slice LA k lc), Is (.int .i64 ((j : Nat) : Int)), Is (.slice LA k lc), Is (.int .i64 ((j : Nat) : Int)), Is (.pointer (some pz84)), Is (.agg #[.bool sz84, .slice Bz84 nz84 cz84]), Is (.agg #[.bool s45, .slice A45 n45 c45]), ZR w.heap.size (((mulTo cs u37 j).getD j 0) * u37), Is (.pointer (some pz84))] [[], [], [], [], [2, 3], [4], [], [5, 6], [0, 1]] [[], [], [], [], [2, 3], [2, 3, 4], [], [2, 3, 4, 5, 6], [0, 1, 2, 3, 4, 5, 6, 7], [0, 1, 2, 3, 4, 5, 6, 7, 8]] rfl
        (obs_cons rfl rfl (hob rfl rfl ?_) (obs_cons rfl rfl (hob rfl rfl ?_) (obs_cons rfl rfl (hob rfl rfl ?_) (obs_cons rfl rfl (hob rfl rfl ?_) (obs_cons rfl rfl (hob rfl rfl ?_) (obs_cons rfl rfl (hob rfl rfl ?_) (obs_cons rfl rfl (hob rfl rfl ?_) (obs_cons rfl rfl (hob rfl rfl ?_) (obs_cons rfl rfl (hob rfl rfl ?_) obs_nil))))))))) ?_
      · -- 0
        intro v87 e88
        have hw2 : Ext w v87 := hw1.trans e88
        refine deps_nil ?_
        refine wl_move rfl rfl (by decide) ?_
        exact pi_done rfl (Ext.refl _) rfl
      · -- 1
        intro v89 e90
        have hw2 : Ext w v89 := hw1.trans e90
        refine deps_nil ?_
        refine wl_move rfl rfl (by decide) ?_
        exact pi_done rfl (Ext.refl _) rfl
      · -- 2
        intro v91 e92
        have hw2 : Ext w v91 := hw1.trans e92
        refine deps_nil ?_
        refine wl_move rfl rfl (by decide) ?_
        exact pi_done rfl (Ext.refl _) rfl
      · -- 3
        intro v93 e94
        have hw2 : Ext w v93 := hw1.trans e94
        refine deps_nil ?_
        refine wl_move rfl rfl (by decide) ?_
        exact pi_done rfl (Ext.refl _) rfl
      · -- 4
        intro v95 e96
        have hw2 : Ext w v95 := hw1.trans e96
        refine deps_cons rfl rfl fun x97 y98 h99 e100 f101 => ?_
        obtain rfl := h99
        refine deps_cons rfl rfl fun x102 y103 h104 e105 f106 => ?_
        obtain rfl := h104
        refine deps_nil ?_
        refine wl_idx rfl rfl rfl elemI aggInt.size j rfl (by omega) pz84 hpz84 (by decide) ?_
        exact pi_done rfl (Ext.refl _) rfl
      · -- 5
        intro v107 e108
        have hw2 : Ext w v107 := hw1.trans e108
        refine deps_cons rfl rfl fun x109 y110 h111 e112 f113 => ?_
        obtain rfl := h111
        refine deps_nil ?_
        refine wl_load rfl rfl (ldz84 _ e108 _ _ aggInt) (by decide) ?_
        exact pi_done rfl (Ext.refl _) rfl
      · -- 6
        intro v114 e115
        have hw2 : Ext w v114 := hw1.trans e115
        refine deps_nil ?_
        refine wl_load rfl rfl (load_agg aggInt (b_9.ext e115) [.bool s45, .slice A45 n45 c45] rfl (Nat.le_of_ble_eq_true rfl) rfl) (by decide) ?_
        exact pi_done rfl (Ext.refl _) rfl
      · -- 7
        intro v116 e117
        have hw2 : Ext w v116 := hw1.trans e117
        refine deps_cons rfl rfl fun x118 y119 h120 e121 f122 => ?_
        obtain rfl := h120
        refine deps_cons rfl rfl fun x123 y124 h125 e126 f127 => ?_
        obtain rfl := h125
        refine deps_nil ?_
        have L128 : ln (((mulTo cs u37 j).getD j 0) * u37) ≤ 4194307 := Nat.le_trans (ln_mul Lz84 L41) (by decide)
        refine wl_call rfl rfl (vs := [.agg #[.bool sz84, .slice Bz84 nz84 cz84], .agg #[.bool s45, .slice A45 n45 c45]]) (by kernel_rfl) (by decide) (g_zint_Mul hw2.size (zz84.ext e117).zi (zz84.le (Nat.le_trans Lz84 (by decide))) (zz_9.ext e117).zi (zz_9.le (Nat.le_trans L41 (by decide)))) ?_
        rintro _ v129 ⟨xr131, rfl, r131, e130⟩
        refine ret_intro ?_
        have hw3 : Ext w v129 := hw2.trans e130
        obtain ⟨s132, A132, n132, c132, rfl, z132⟩ := r131
        exact pi_done rfl e130 ⟨_, _, _, _, rfl, z132⟩
      · -- 8
        intro v133 e134
        have hw2 : Ext w v133 := hw1.trans e134
        refine deps_cons rfl rfl fun x135 y136 h137 e138 f139 => ?_
        obtain rfl := h137
        refine deps_cons rfl rfl fun x140 y141 h142 e143 f144 => ?_
        obtain rfl := h142
        refine deps_nil ?_
        refine wl_idx rfl rfl rfl elemI aggInt.size j rfl (by omega) pz84 hpz84 (by decide) ?_
        exact pi_done rfl (Ext.refl _) rfl
      · -- all
        intro v145 e146
        have hw2 : Ext w v145 := hw1.trans e146
        refine deps_cons rfl rfl fun x147 y148 h149 e150 f151 => ?_
        obtain rfl := h149
        refine deps_cons rfl rfl fun x152 y153 h154 e155 f156 => ?_
        obtain rfl := h154
        refine deps_cons rfl rfl fun x157 y158 h159 e160 f161 => ?_
        obtain rfl := h159
        refine deps_cons rfl rfl fun x162 y163 h164 e165 f166 => ?_
        obtain rfl := h164
        refine deps_cons rfl rfl fun x167 y168 h169 e170 f171 => ?_
        obtain rfl := h169
        refine deps_cons rfl rfl fun x172 y173 h174 e175 f176 => ?_
        obtain rfl := h174
        refine deps_cons rfl rfl fun x177 y178 h179 e180 f181 => ?_
        obtain rfl := h179
        refine deps_cons rfl rfl fun x182 y183 h184 e185 f186 => ?_
        obtain ⟨s187, A187, n187, c187, rfl, z187⟩ := h184
        have z187 := z187.ext f186
        refine deps_cons rfl rfl fun x188 y189 h190 e191 f192 => ?_
        obtain rfl := h190
        refine deps_nil ?_
        have lt198 := (hlz.ext e146)
        obtain ⟨us196, own197⟩ := lt198.own
        refine wl_setI (e := ⟨s187, A187, n187, c187⟩) (z := ((mulTo cs u37 j).getD j 0) * u37) rfl rfl rfl hpz84 (by omega) lt198 (Or.inl z187) (z187.le (Nat.le_trans L85 (by decide))) fun v193 lz194 uo195 => ?_
        have hw3 : Ext w v193 := uo195.ext hw2 (fun p hp => by have := blk83 p hp; omega)
        have hlblz194 : g12 ≤ v193.heap.size := Nat.le_trans (Nat.le_trans hlb e146.size) uo195.size
        refine wl_nil ?_
        refine eo_np ?_
        refine eo_block_normal ?_
        refine eo_then ?_
        -- region 11
        refine cw_region ?_
        refine wl_ar rfl rfl rfl ((j + 1 : Nat) : Int) (ai_add (a := j) (b := 1) rfl rfl (by omega)) (by decide) ?_
        refine wl_move rfl rfl (by decide) ?_
        refine wl_nil ?_
        refine eo_round (⟨v193, j + 1⟩ : World × Nat) ⟨hw3, (by omega), hlblz194, (by rw [← mulTo_succ (by omega)]; exact lz194), ((b_2.ext e146).updO uo195 (fun p hp => by have := blk83 p hp; omega)), ((b_4.ext e146).updO uo195 (fun p hp => by have := blk83 p hp; omega)), ((b_7.ext e146).updO uo195 ne28), ((b_8.ext e146).updO uo195 ne53), ((b_9.ext e146).updO uo195 ne60), ((b_10.ext e146).updO uo195 ne67), ((zz_4.ext e146).updOT own197 uo195), ((zz_8.ext e146).updOT own197 uo195), ((zz_9.ext e146).updOT own197 uo195), ((zz_10.ext e146).updOT own197 uo195)⟩ (show k - (j + 1) < k - j by omega) rfl ⟨rfl, rfl, rfl, rfl, rfl, rfl, rfl, rfl, rfl, rfl, rfl, rfl, rfl, trivial⟩
    ·
      -- region 8
      refine cw_region ?_
      refine wl_cmp rfl rfl rfl false (cb_lt_f (a := j) (b := k) rfl rfl (by omega)) (by decide) ?_
      refine wl_nil ?_
      refine eo_then ?_
      refine cw_seq ?_
      refine cw_false rfl ?_
      refine cw_exit ?_
      refine eo_thenX ?_
      refine eo_loopX ?_
      refine eo_block_here ?_
      refine eo_then ?_
      refine cw_seq ?_
      -- region 12
      refine cw_region ?_
      refine wl_move rfl rfl (by decide) ?_
      refine wl_load rfl rfl (load_agg aggInt b_10 [.bool s46, .slice A46 n46 c46] rfl (Nat.le_of_ble_eq_true rfl) rfl) (by decide) ?_
      refine wl_bslice rfl rfl (by decide) (k := 1) (e := 27) [.bool s46, .slice A46 n46 c46] (fun _ => by kernel_rfl) fun g199 v200 nb => ?_
      have hb202 := nb.bk
      have ge203 : w.heap.size ≤ g199 := by rw [← nb.at_]; exact hw1.size
      have q204 : g61 < g199 := by rw [← nb.at_]; exact b_10.lt
      have ne205 : ∀ p, LA = some p → p.block ≠ g199 := fun p hp => by have := (hlz).block p hp; have := nb.at_; omega
      have e201 := nb.ext
      clear nb
      have hw2 : Ext w v200 := hw1.trans e201
      have lt211 := (hlz.ext e201)
      obtain ⟨us209, own210⟩ := lt211.own
      refine wl_appI (e := ⟨s46, A46, n46, c46⟩) (z := v38) rfl rfl rfl lt211 (Nat.le_trans hlb e201.size) hb202 (Or.inl (zz_10.ext e201)) (zz_10.le (Nat.le_trans L42 (by decide))) (by omega) (by decide) fun A212 c213 v206 lz207 uo208 kp214 => ?_
      have hw3 : Ext w v206 := uo208.ext hw2 (fun p hp => by have := blk83 p hp; omega)
      have hlblz207 : g12 ≤ v206.heap.size := Nat.le_trans (Nat.le_trans hlb e201.size) uo208.size
      have ne215 := kept_ne kp214 (b_7.ext e201).lt ne28
      have ne216 := kept_ne kp214 (b_8.ext e201).lt ne53
      have ne217 := kept_ne kp214 (b_9.ext e201).lt ne60
      have ne218 := kept_ne kp214 (b_10.ext e201).lt ne67
      have ne219 := kept_ne kp214 hb202.lt ne205
      have blk220 := lz207.block
      refine wl_assign rfl rfl (by decide) ?_
      refine wl_nil ?_
      refine eo_then ?_
      -- region 13
      refine cw_region ?_
      refine wl_load rfl rfl (load_agg aggInt ((b_8.ext e201).updO uo208 ne53) [.bool s44, .slice A44 n44 c44] rfl (Nat.le_of_ble_eq_true rfl) rfl) (by decide) ?_
      have hb222 := ((b_4.ext e201).updO uo208 (fun p hp => by have := blk83 p hp; omega))
      refine wl_stored rfl rfl rfl aggInt rfl hb222 (Nat.le_of_ble_eq_true rfl) rfl [.bool s44, .slice A44 n44 c44] rfl fun v221 hb223 u224 hs225 => ?_
      have hw4 : Ext w v221 := u224.ext hw3 ge10
      refine wl_nil ?_
      refine eo_block_normal ?_
      refine eo_then ?_
      -- region 14
      refine cw_region ?_
      refine wl_ar rfl rfl rfl ((k + 1 : Nat) : Int) (ai_add (a := k) (b := 1) rfl rfl (by omega)) (by decide) ?_
      refine wl_move rfl rfl (by decide) ?_
      refine wl_nil ?_
      refine eo_round (⟨v221, k + 1, ⟨s44, A44, n44, c44⟩, A212, c213, _⟩ : World × Nat × ZC × Option Addr × Nat × List Int) ⟨hw4, (by omega), (by rw [List.length_append, mulTo_len, hcl]; rfl), (ext_bound (show j = k by omega) (by rw [hl.len]; omega) hcl hB p39 hlv), (ext_step (show j = k by omega) (by rw [hl.len]; omega) hcl hdot p39), (Nat.le_trans hlblz207 u224.by_.size), (lz207.updT hb222 u224 (fun p hp => by have := blk220 p hp; omega)), (((b_2.ext e201).updO uo208 (fun p hp => by have := blk83 p hp; omega)).updN u224 (by omega)), hb223, ((((zz_8.ext e201).updOT own210 uo208).updT hb222 u224)).cast (gcdL_succ (by rw [hl.len]; omega))⟩ (show n - (k + 1) < n - k by omega) rfl ⟨rfl, rfl, rfl, rfl, rfl, rfl, rfl, trivial⟩
  ·
    -- region 4
    refine cw_region ?_
    refine wl_cmp rfl rfl rfl false (cb_lt_f (a := k) (b := n) rfl rfl (by omega)) (by decide) ?_
    refine wl_nil ?_
    refine eo_then ?_
    refine cw_seq ?_
    refine cw_false rfl ?_
    refine cw_exit ?_
    refine eo_thenX ?_
    refine eo_loopX ?_
    refine eo_block_here ?_
    refine eo_then ?_
    refine cw_seq ?_
    -- region 15
    refine cw_region ?_
    refine wl_load rfl rfl (load_agg aggInt b_4 [.bool kg.s, .slice kg.A kg.n kg.c] rfl (Nat.le_of_ble_eq_true rfl) rfl) (by decide) ?_
    refine wl_move rfl rfl (by decide) ?_
    have hb227 := b_2
    refine wl_stored rfl rfl rfl aggInt rfl hb227 (Nat.le_of_ble_eq_true rfl) rfl [.bool kg.s, .slice kg.A kg.n kg.c] rfl fun v226 hb228 u229 hs230 => ?_
    have hw2 : Ext w v226 := u229.ext hw1 ge5
    refine wl_assign rfl rfl (by decide) ?_
    refine wl_nil ?_
    refine eo_then ?_
    refine cw_ret ?_
    refine eo_ret [.agg #[.bool kg.s, .slice kg.A kg.n kg.c], .slice LA k lc] rfl ⟨⟨_, rfl, load_agg aggInt hb228 [.bool kg.s, .slice kg.A kg.n kg.c] rfl (Nat.le_of_ble_eq_true rfl) rfl⟩, rfl, trivial⟩ ?_
    have hkn2 : k = n := by omega
    exact ⟨cs, ⟨by rw [hcl, hkn2], by rw [← zl_full hl, ← hkn2]; exact hdot, fun i => Nat.le_trans (hB i) (by have := hsl k; omega)⟩, _, rfl, ⟨_, _, rfl, ⟨_, _, _, _, rfl, (((zg.updT hb227 u229)).cast (show gcdL (zs.take k) = gcdL zs by rw [hkn2, zl_full hl])).mono hb⟩, ⟨_, _, by rw [hkn2], by rw [← hkn2]; exact ((hlz.updT hb227 u229 (fun p hp => by have := blk20 p hp; omega))).mono (by decide) hb (by omega)⟩⟩, hw2⟩

end Go.Proofs.Ytmaconeeonkdgaa
