/- Parts Ca, Law6m, joined. -/
import Derived.Test.YtmaconeeonkdgaaM5

namespace Go.Proofs.Ytmaconeeonkdgaa
open Go.RowKit
theorem extI_end {x y : Int} : ∀ (n : Nat) (r0 r1 m0 m1 : Int), r1.natAbs ≤ n → ExtI x y r0 r1 m0 m1 → ∃ r a b, ExtI x y r 0 a b := by
  intro n
  induction n with
  | zero =>
    intro r0 r1 m0 m1 h hI
    obtain rfl : r1 = 0 := by omega
    exact ⟨_, _, _, hI⟩
  | succ n ih =>
    intro r0 r1 m0 m1 h hI
    by_cases hr : r1 = 0
    · subst hr; exact ⟨_, _, _, hI⟩
    · exact ih _ _ _ _ (by have := tmod_abs (x := r0) hr; omega) (hI.step hr)
theorem bez_ex (x y : Int) : ∃ u v, Bez x y u v := by
  by_cases hy : y = 0
  · exact ⟨_, _, Bez.ofZero hy⟩
  · obtain ⟨r, a, b, hI⟩ := extI_end _ _ _ _ _ (Nat.le_refl _) (ExtI.init (x := x) hy)
    exact ⟨_, _, (hI.done hy rfl).2.2.2.2.2⟩
/-- the least common multiple of a list -/
def lcmL (zs : List Int) : Int := zs.foldl (fun l z => (Int.lcm l z : Int)) 1
theorem lcmL_snoc (zs : List Int) (z : Int) : lcmL (zs ++ [z]) = (Int.lcm (lcmL zs) z : Int) := by unfold lcmL; rw [List.foldl_append]; rfl
theorem lcmL_succ {zs : List Int} {k : Nat} (h : k < zs.length) : (Int.lcm (lcmL (zs.take k)) (zs.getD k 0) : Int) = lcmL (zs.take (k + 1)) := by rw [getD_snoc (d := 0) h, lcmL_snoc]
theorem ln_lcmL (zs : List Int) (k : Nat) : ln (lcmL (zs.take k)) ≤ 1 + ((zs.take k).map ln).sum := by
  induction k with
  | zero => rw [List.take_zero]; exact ln_w1 (by decide) (by decide)
  | succ k ih =>
    by_cases hk : k < zs.length
    · rw [← lcmL_succ hk, getD_snoc (d := 0) hk, List.map_append, List.sum_append]
      refine Nat.le_trans (ln_lcmC _ _) ?_
      simp only [List.map_cons, List.map_nil, List.sum_cons, List.sum_nil]
      omega
    · rw [List.take_of_length_le (by omega)] at ih ⊢; exact ih
theorem sum_take_ln (zs : List Int) (k : Nat) : ((zs.take k).map ln).sum ≤ (zs.map ln).sum := by
  have e : (zs.map ln).sum = ((zs.take k).map ln).sum + ((zs.drop k).map ln).sum := by rw [← List.sum_append, ← List.map_append, List.take_append_drop]
  omega
theorem ln_lcmL_le {zs : List Int} {N : Nat} (h : (zs.map ln).sum ≤ N) (k : Nat) : ln (lcmL (zs.take k)) ≤ N + 1 := by
  have h1 := ln_lcmL zs k
  have h2 := sum_take_ln zs k
  omega
theorem lcmL_ne {zs : List Int} (h : ∀ i, i < zs.length → zs.getD i 0 ≠ 0) (k : Nat) : lcmL (zs.take k) ≠ 0 := by
  induction k with
  | zero => rw [List.take_zero]; decide
  | succ k ih =>
    by_cases hk : k < zs.length
    · rw [← lcmL_succ hk]; exact lcm_ne ih (h k hk)
    · rw [List.take_of_length_le (by omega)] at ih ⊢; exact ih
theorem dvd_lcmL {zs : List Int} {k : Nat} : ∀ i, i < k → i < zs.length → zs.getD i 0 ∣ lcmL (zs.take k) := by
  induction k with
  | zero => intro i hi; omega
  | succ k ih =>
    intro i hi hl
    by_cases hk : k < zs.length
    · rw [← lcmL_succ hk]
      by_cases hik : i = k
      · subst hik; exact Int.dvd_lcm_right _ _
      · exact Int.dvd_trans (ih i (by omega) hl) (Int.dvd_lcm_left _ _)
    · have := ih i (by omega) hl
      rw [List.take_of_length_le (by omega)] at this ⊢; exact this
theorem dvd_emod_sub (s l : Int) : l ∣ s % l - s := by
  have h := Int.mul_ediv_add_emod s l
  exact ⟨-(s / l), by rw [Int.mul_neg]; omega⟩
/-- what the next step of CrtAll asks -/
theorem crt_next {rs ms : List Int} {k : Nat} {s : Int} (hk : k < ms.length) (hs : ∀ i, i < k → ms.getD i 0 ∣ rs.getD i 0 - s) (h0 : ∀ i, i < ms.length → ms.getD i 0 ≠ 0) (hd : (Int.gcd (lcmL (ms.take k)) (ms.getD k 0) : Int) ∣ rs.getD k 0 - s % lcmL (ms.take k)) :
    ∃ s', lcmL (ms.take k) ∣ s % lcmL (ms.take k) - s' ∧ ms.getD k 0 ∣ rs.getD k 0 - s' ∧ ∀ i, i < k + 1 → ms.getD i 0 ∣ rs.getD i 0 - s' := by
  have hn := lcmL_ne h0 k
  have hb : ∃ u v, Bez (lcmL (ms.take k)) (ms.getD k 0) u v := bez_ex _ _
  obtain ⟨u, v, hb⟩ := hb
  obtain ⟨s', h1, h2⟩ := crt_ex hn hb hd
  refine ⟨s', h1, h2, fun i hi => ?_⟩
  by_cases hik : i = k
  · subst hik; exact h2
  · have h3 := hs i (by omega)
    have h4 : ms.getD i 0 ∣ s % lcmL (ms.take k) - s' := Int.dvd_trans (dvd_lcmL i (by omega) (by omega)) h1
    have h5 : ms.getD i 0 ∣ s % lcmL (ms.take k) - s := Int.dvd_trans (dvd_lcmL i (by omega) (by omega)) (dvd_emod_sub _ _)
    have e : rs.getD i 0 - s' = (rs.getD i 0 - s) + ((s % lcmL (ms.take k) - s') - (s % lcmL (ms.take k) - s)) := by omega
    rw [e]; exact Int.dvd_add h3 (Int.dvd_sub h4 h5)
set_option maxHeartbeats 4000000 in
theorem g_bezout_CrtAll_zero {w : World} {b : Nat} (hb : b ≤ w.heap.size) {A B : Option Addr} {n cap cap2 : Nat} {rs ms : List Int} {ks js : List Nat} (hr : Zl w A n cap rs ks) (hm : Zl w B n cap2 ms js) (hn : n ≤ 2097152) (hkb : ∀ i, ks.getD i 0 ≤ 16777216) (hjb : ∀ i, js.getD i 0 ≤ 16777216) (hsum : (ms.map ln).sum ≤ 1048576) {i0 : Nat} (hi0 : i0 < n ∧ ms.getD i0 0 = 0) :
    Calls Try.prog 50 #[.slice A n cap, .slice B n cap2] w (Gv w (T3 (ZR b 0) (ZR b 0) (Is (.int .i64 4)))) := by
  refine sx_enter Try.func50 rfl (n := 58) rfl (Nat.le_of_ble_eq_true rfl) (args := [.slice A n cap, .slice B n cap2]) ?_
  refine cw_keep [(0, .slice A n cap), (1, .slice B n cap2)] ⟨rfl, rfl, trivial⟩ ?_
  refine cw_seq ?_
  refine cw_region ?_
  refine wl_alloc rfl (z := .agg #[.bool false, .slice none 0 0]) (vs := [.bool false, .slice none 0 0]) (fun _ => by kernel_rfl) rfl (by decide) fun g1 v2 nb => ?_
  have hb4 := nb.bk
  have ge5 : w.heap.size ≤ g1 := by rw [← nb.at_]; exact (Ext.refl w).size
  have e3 := nb.ext
  clear nb
  have hw1 : Ext w v2 := (Ext.refl w).trans e3
  refine wl_alloc rfl (z := .agg #[.bool false, .slice none 0 0]) (vs := [.bool false, .slice none 0 0]) (fun _ => by kernel_rfl) rfl (by decide) fun g6 v7 nb => ?_
  have hb9 := nb.bk
  have ge10 : w.heap.size ≤ g6 := by rw [← nb.at_]; exact hw1.size
  have q11 : g1 < g6 := by rw [← nb.at_]; exact hb4.lt
  have e8 := nb.ext
  clear nb
  have hw2 : Ext w v7 := hw1.trans e8
  refine wl_assign rfl rfl (by decide) ?_
  refine wl_nil ?_
  refine eo_then ?_
  refine cw_seq ?_
  refine cw_seq ?_
  refine cw_region ?_
  refine wl_move rfl rfl (by decide) ?_
  refine wl_pure rfl rfl (v := .int .i64 ((n : Nat) : Int)) (by decide) (by kernel_rfl) ?_
  refine wl_move rfl rfl (by decide) ?_
  refine wl_pure rfl rfl (v := .int .i64 ((n : Nat) : Int)) (by decide) (by kernel_rfl) ?_
  refine wl_cmp rfl rfl rfl false (cb_ne_f (a := n) (b := n) rfl rfl (by omega)) (by decide) ?_
  refine wl_nil ?_
  refine eo_then ?_
  refine cw_false rfl ?_
  refine cw_skip ?_
  refine eo_then ?_
  refine cw_seq ?_
  refine cw_seq ?_
  refine cw_region ?_
  refine wl_move rfl rfl (by decide) ?_
  refine wl_pure rfl rfl (v := .int .i64 ((n : Nat) : Int)) (by decide) (by kernel_rfl) ?_
  refine wl_move rfl rfl (by decide) ?_
  refine wl_nil ?_
  refine eo_then ?_
  refine cw_block ?_
  refine cw_loop (T := World × Nat)
    (fun ⟨wr, k⟩ => [(0, .slice A n cap), (1, .slice B n cap2), (4, .pointer (some ⟨g1, 0, none⟩)), (5, .pointer (some ⟨g6, 0, none⟩)), (6, .int .i64 0), (17, .slice B n cap2), (18, .int .i64 ((n : Nat) : Int)), (19, .int .i64 ((k : Nat) : Int))])
    (fun ⟨wr, k⟩ => wr)
    (fun ⟨wr, k⟩ => (Ext w wr) ∧ (k ≤ n) ∧ (∀ i, i < k → ms.getD i 0 ≠ 0) ∧ (Bk wr g1 27 [.bool false, .slice none 0 0]) ∧ (Bk wr g6 27 [.bool false, .slice none 0 0]))
    (fun ⟨wr, k⟩ => n - k)
    (⟨v7, 0⟩ : World × Nat) ⟨hw2, Nat.zero_le _, (fun i hi => by omega), (hb4.ext e8), hb9⟩ rfl ⟨rfl, rfl, rfl, rfl, rfl, rfl, rfl, rfl, trivial⟩ ?_
  rintro ⟨wr, k⟩ ⟨hw1, hk, hz, b_4, b_5⟩
  refine cw_re [(0, .slice A n cap), (1, .slice B n cap2), (4, .pointer (some ⟨g1, 0, none⟩)), (5, .pointer (some ⟨g6, 0, none⟩)), (6, .int .i64 0), (17, .slice B n cap2), (18, .int .i64 ((n : Nat) : Int)), (19, .int .i64 ((k : Nat) : Int))] wr rfl ⟨rfl, rfl, rfl, rfl, rfl, rfl, rfl, rfl, trivial⟩ ?_
  refine cw_seq ?_
  by_cases hkn : k < n
  ·
    refine cw_region ?_
    refine wl_cmp rfl rfl rfl true (cb_lt_t (a := k) (b := n) rfl rfl (by omega)) (by decide) ?_
    refine wl_nil ?_
    refine eo_then ?_
    refine cw_seq ?_
    refine cw_true rfl ?_
    refine cw_skip ?_
    refine eo_then ?_
    refine cw_seq ?_
    refine cw_block ?_
    refine cw_seq ?_
    refine cw_region ?_
    obtain ⟨pz12, sz12, Bz12, cz12, hpz12, ldz12, ez12⟩ := hm.at (i := k) (by omega)
    refine wl_idx rfl rfl rfl elemI aggInt.size k rfl (by omega) pz12 hpz12 (by decide) ?_
    refine wl_load rfl rfl (ldz12 _ hw1 _ _ aggInt) (by decide) ?_
    refine wl_alloc rfl (z := .agg #[.bool false, .slice none 0 0]) (vs := [.bool false, .slice none 0 0]) (fun _ => by kernel_rfl) rfl (by decide) fun g13 v14 nb => ?_
    have hb16 := nb.bk
    have ge17 : w.heap.size ≤ g13 := by rw [← nb.at_]; exact hw1.size
    have q18 : g6 < g13 := by rw [← nb.at_]; exact b_5.lt
    have e15 := nb.ext
    clear nb
    have hw2 : Ext w v14 := hw1.trans e15
    have hb20 := hb16
    refine wl_stored rfl rfl rfl aggInt rfl hb20 (Nat.le_of_ble_eq_true rfl) rfl [.bool sz12, .slice Bz12 (js.getD k 0) cz12] rfl fun v19 hb21 u22 hs23 => ?_
    have hw3 : Ext w v19 := u22.ext hw2 ge17
    refine wl_nil ?_
    refine eo_then ?_
    refine cw_seq ?_
    by_cases hz0 : ms.getD k 0 = 0
    ·
      refine cw_region ?_
      refine wl_load rfl rfl (load_agg aggInt hb21 [.bool sz12, .slice Bz12 (js.getD k 0) cz12] rfl (Nat.le_of_ble_eq_true rfl) rfl) (by decide) ?_
      refine wl_call rfl rfl (vs := [.agg #[.bool sz12, .slice Bz12 (js.getD k 0) cz12]]) (by kernel_rfl) (by decide) (g_zint_Sign (ez12.ext hw3) (Nat.le_trans (hjb k) (by decide))) ?_
      rintro _ v24 ⟨xr26, rfl, r26, e25⟩
      refine ret_intro ?_
      have hw4 : Ext w v24 := hw3.trans e25
      obtain rfl := r26
      refine wl_cmp rfl rfl rfl true (scmp_eq_t hz0) (by decide) ?_
      refine wl_nil ?_
      refine eo_then ?_
      refine cw_true rfl ?_
      refine cw_seq ?_
      refine cw_region ?_
      refine wl_pure rfl rfl (v := .agg #[.bool false, .slice none 0 0]) (by decide) (by kernel_rfl) ?_
      refine wl_pure rfl rfl (v := .agg #[.bool false, .slice none 0 0]) (by decide) (by kernel_rfl) ?_
      have hb28 := (((b_4.ext e15).updN u22 (by omega)).ext e25)
      refine wl_stored rfl rfl rfl aggInt rfl hb28 (Nat.le_of_ble_eq_true rfl) rfl [.bool false, .slice none 0 0] rfl fun v27 hb29 u30 hs31 => ?_
      have hw5 : Ext w v27 := u30.ext hw4 ge5
      have hb33 := ((((b_5.ext e15).updN u22 (by omega)).ext e25).updN u30 (by omega))
      refine wl_stored rfl rfl rfl aggInt rfl hb33 (Nat.le_of_ble_eq_true rfl) rfl [.bool false, .slice none 0 0] rfl fun v32 hb34 u35 hs36 => ?_
      have hw6 : Ext w v32 := u35.ext hw5 ge10
      refine wl_assign rfl rfl (by decide) ?_
      refine wl_nil ?_
      refine eo_then ?_
      refine cw_ret ?_
      refine eo_block_ret ?_
      refine eo_thenR ?_
      refine eo_loopR ?_
      refine eo_block_ret ?_
      refine eo_thenR ?_
      refine eo_ret [.agg #[.bool false, .slice none 0 0], .agg #[.bool false, .slice none 0 0], .int .i64 4] rfl ⟨⟨_, rfl, load_agg aggInt (hb29.updN u35 (by omega)) [.bool false, .slice none 0 0] rfl (Nat.le_of_ble_eq_true rfl) rfl⟩, ⟨_, rfl, load_agg aggInt hb34 [.bool false, .slice none 0 0] rfl (Nat.le_of_ble_eq_true rfl) rfl⟩, rfl, trivial⟩ ?_
      exact ⟨_, rfl, ⟨_, _, _, rfl, ⟨_, _, _, _, rfl, ((((Zr.zero (w := v24) (base := w.heap.size)).updT hb28 u30).updT hb33 u35)).mono hb⟩, ⟨_, _, _, _, rfl, ((((Zr.zero (w := v24) (base := w.heap.size)).updT hb28 u30).updT hb33 u35)).mono hb⟩, rfl⟩, hw6⟩
    ·
      refine cw_region ?_
      refine wl_load rfl rfl (load_agg aggInt hb21 [.bool sz12, .slice Bz12 (js.getD k 0) cz12] rfl (Nat.le_of_ble_eq_true rfl) rfl) (by decide) ?_
      refine wl_call rfl rfl (vs := [.agg #[.bool sz12, .slice Bz12 (js.getD k 0) cz12]]) (by kernel_rfl) (by decide) (g_zint_Sign (ez12.ext hw3) (Nat.le_trans (hjb k) (by decide))) ?_
      rintro _ v37 ⟨xr39, rfl, r39, e38⟩
      refine ret_intro ?_
      have hw4 : Ext w v37 := hw3.trans e38
      obtain rfl := r39
      refine wl_cmp rfl rfl rfl false (scmp_eq_f hz0) (by decide) ?_
      refine wl_nil ?_
      refine eo_then ?_
      refine cw_false rfl ?_
      refine cw_skip ?_
      refine eo_block_normal ?_
      refine eo_then ?_
      refine cw_region ?_
      refine wl_ar rfl rfl rfl ((k + 1 : Nat) : Int) (ai_add (a := k) (b := 1) rfl rfl (by omega)) (by decide) ?_
      refine wl_move rfl rfl (by decide) ?_
      refine wl_nil ?_
      refine eo_round (⟨v37, k + 1⟩ : World × Nat) ⟨hw4, (by omega), (fun i hi => if h : i < k then hz i h else (show i = k by omega) ▸ hz0), (((b_4.ext e15).updN u22 (by omega)).ext e38), (((b_5.ext e15).updN u22 (by omega)).ext e38)⟩ (show n - (k + 1) < n - k by omega) rfl ⟨rfl, rfl, rfl, rfl, rfl, rfl, rfl, rfl, trivial⟩
  ·
    exact absurd hi0.2 (hz i0 (by omega))
set_option maxHeartbeats 4000000 in
theorem g_bezout_CrtAll_none {w : World} {b : Nat} (hb : b ≤ w.heap.size) {A B : Option Addr} {n cap cap2 : Nat} {rs ms : List Int} {ks js : List Nat} (hr : Zl w A n cap rs ks) (hm : Zl w B n cap2 ms js) (hn : n ≤ 2097152) (hkb : ∀ i, ks.getD i 0 ≤ 16777216) (hjb : ∀ i, js.getD i 0 ≤ 16777216) (hsum : (ms.map ln).sum ≤ 1048576) (h0 : ∀ i, i < ms.length → ms.getD i 0 ≠ 0) (hno : ¬ ∃ s, ∀ i, i < n → ms.getD i 0 ∣ rs.getD i 0 - s) :
    Calls Try.prog 50 #[.slice A n cap, .slice B n cap2] w (Gv w (T3 (ZR b 0) (ZR b 0) (Is (.int .i64 6)))) := by
  refine sx_enter Try.func50 rfl (n := 58) rfl (Nat.le_of_ble_eq_true rfl) (args := [.slice A n cap, .slice B n cap2]) ?_
  refine cw_keep [(0, .slice A n cap), (1, .slice B n cap2)] ⟨rfl, rfl, trivial⟩ ?_
  refine cw_seq ?_
  refine cw_region ?_
  refine wl_alloc rfl (z := .agg #[.bool false, .slice none 0 0]) (vs := [.bool false, .slice none 0 0]) (fun _ => by kernel_rfl) rfl (by decide) fun g1 v2 nb => ?_
  have hb4 := nb.bk
  have ge5 : w.heap.size ≤ g1 := by rw [← nb.at_]; exact (Ext.refl w).size
  have e3 := nb.ext
  clear nb
  have hw1 : Ext w v2 := (Ext.refl w).trans e3
  refine wl_alloc rfl (z := .agg #[.bool false, .slice none 0 0]) (vs := [.bool false, .slice none 0 0]) (fun _ => by kernel_rfl) rfl (by decide) fun g6 v7 nb => ?_
  have hb9 := nb.bk
  have ge10 : w.heap.size ≤ g6 := by rw [← nb.at_]; exact hw1.size
  have q11 : g1 < g6 := by rw [← nb.at_]; exact hb4.lt
  have e8 := nb.ext
  clear nb
  have hw2 : Ext w v7 := hw1.trans e8
  refine wl_assign rfl rfl (by decide) ?_
  refine wl_nil ?_
  refine eo_then ?_
  refine cw_seq ?_
  refine cw_seq ?_
  refine cw_region ?_
  refine wl_move rfl rfl (by decide) ?_
  refine wl_pure rfl rfl (v := .int .i64 ((n : Nat) : Int)) (by decide) (by kernel_rfl) ?_
  refine wl_move rfl rfl (by decide) ?_
  refine wl_pure rfl rfl (v := .int .i64 ((n : Nat) : Int)) (by decide) (by kernel_rfl) ?_
  refine wl_cmp rfl rfl rfl false (cb_ne_f (a := n) (b := n) rfl rfl (by omega)) (by decide) ?_
  refine wl_nil ?_
  refine eo_then ?_
  refine cw_false rfl ?_
  refine cw_skip ?_
  refine eo_then ?_
  refine cw_seq ?_
  refine cw_seq ?_
  refine cw_region ?_
  refine wl_move rfl rfl (by decide) ?_
  refine wl_pure rfl rfl (v := .int .i64 ((n : Nat) : Int)) (by decide) (by kernel_rfl) ?_
  refine wl_move rfl rfl (by decide) ?_
  refine wl_nil ?_
  refine eo_then ?_
  refine cw_block ?_
  refine cw_loop (T := World × Nat)
    (fun ⟨wr, k⟩ => [(0, .slice A n cap), (1, .slice B n cap2), (4, .pointer (some ⟨g1, 0, none⟩)), (5, .pointer (some ⟨g6, 0, none⟩)), (6, .int .i64 0), (17, .slice B n cap2), (18, .int .i64 ((n : Nat) : Int)), (19, .int .i64 ((k : Nat) : Int))])
    (fun ⟨wr, k⟩ => wr)
    (fun ⟨wr, k⟩ => (Ext w wr) ∧ (k ≤ n) ∧ (∀ i, i < k → ms.getD i 0 ≠ 0) ∧ (Bk wr g1 27 [.bool false, .slice none 0 0]) ∧ (Bk wr g6 27 [.bool false, .slice none 0 0]))
    (fun ⟨wr, k⟩ => n - k)
    (⟨v7, 0⟩ : World × Nat) ⟨hw2, Nat.zero_le _, (fun i hi => by omega), (hb4.ext e8), hb9⟩ rfl ⟨rfl, rfl, rfl, rfl, rfl, rfl, rfl, rfl, trivial⟩ ?_
  rintro ⟨wr, k⟩ ⟨hw1, hk, hz, b_4, b_5⟩
  refine cw_re [(0, .slice A n cap), (1, .slice B n cap2), (4, .pointer (some ⟨g1, 0, none⟩)), (5, .pointer (some ⟨g6, 0, none⟩)), (6, .int .i64 0), (17, .slice B n cap2), (18, .int .i64 ((n : Nat) : Int)), (19, .int .i64 ((k : Nat) : Int))] wr rfl ⟨rfl, rfl, rfl, rfl, rfl, rfl, rfl, rfl, trivial⟩ ?_
  refine cw_seq ?_
  by_cases hkn : k < n
  ·
    refine cw_region ?_
    refine wl_cmp rfl rfl rfl true (cb_lt_t (a := k) (b := n) rfl rfl (by omega)) (by decide) ?_
    refine wl_nil ?_
    refine eo_then ?_
    refine cw_seq ?_
    refine cw_true rfl ?_
    refine cw_skip ?_
    refine eo_then ?_
    refine cw_seq ?_
    refine cw_block ?_
    refine cw_seq ?_
    refine cw_region ?_
    obtain ⟨pz12, sz12, Bz12, cz12, hpz12, ldz12, ez12⟩ := hm.at (i := k) (by omega)
    refine wl_idx rfl rfl rfl elemI aggInt.size k rfl (by omega) pz12 hpz12 (by decide) ?_
    refine wl_load rfl rfl (ldz12 _ hw1 _ _ aggInt) (by decide) ?_
    refine wl_alloc rfl (z := .agg #[.bool false, .slice none 0 0]) (vs := [.bool false, .slice none 0 0]) (fun _ => by kernel_rfl) rfl (by decide) fun g13 v14 nb => ?_
    have hb16 := nb.bk
    have ge17 : w.heap.size ≤ g13 := by rw [← nb.at_]; exact hw1.size
    have q18 : g6 < g13 := by rw [← nb.at_]; exact b_5.lt
    have e15 := nb.ext
    clear nb
    have hw2 : Ext w v14 := hw1.trans e15
    have hb20 := hb16
    refine wl_stored rfl rfl rfl aggInt rfl hb20 (Nat.le_of_ble_eq_true rfl) rfl [.bool sz12, .slice Bz12 (js.getD k 0) cz12] rfl fun v19 hb21 u22 hs23 => ?_
    have hw3 : Ext w v19 := u22.ext hw2 ge17
    refine wl_nil ?_
    refine eo_then ?_
    refine cw_seq ?_
    have hz0 : ms.getD k 0 ≠ 0 := h0 k (by rw [hm.len]; omega)
    refine cw_region ?_
    refine wl_load rfl rfl (load_agg aggInt hb21 [.bool sz12, .slice Bz12 (js.getD k 0) cz12] rfl (Nat.le_of_ble_eq_true rfl) rfl) (by decide) ?_
    refine wl_call rfl rfl (vs := [.agg #[.bool sz12, .slice Bz12 (js.getD k 0) cz12]]) (by kernel_rfl) (by decide) (g_zint_Sign (ez12.ext hw3) (Nat.le_trans (hjb k) (by decide))) ?_
    rintro _ v24 ⟨xr26, rfl, r26, e25⟩
    refine ret_intro ?_
    have hw4 : Ext w v24 := hw3.trans e25
    obtain rfl := r26
    refine wl_cmp rfl rfl rfl false (scmp_eq_f hz0) (by decide) ?_
    refine wl_nil ?_
    refine eo_then ?_
    refine cw_false rfl ?_
    refine cw_skip ?_
    refine eo_block_normal ?_
    refine eo_then ?_
    refine cw_region ?_
    refine wl_ar rfl rfl rfl ((k + 1 : Nat) : Int) (ai_add (a := k) (b := 1) rfl rfl (by omega)) (by decide) ?_
    refine wl_move rfl rfl (by decide) ?_
    refine wl_nil ?_
    refine eo_round (⟨v24, k + 1⟩ : World × Nat) ⟨hw4, (by omega), (fun i hi => if h : i < k then hz i h else (show i = k by omega) ▸ hz0), (((b_4.ext e15).updN u22 (by omega)).ext e25), (((b_5.ext e15).updN u22 (by omega)).ext e25)⟩ (show n - (k + 1) < n - k by omega) rfl ⟨rfl, rfl, rfl, rfl, rfl, rfl, rfl, rfl, trivial⟩
  ·
    refine cw_region ?_
    refine wl_cmp rfl rfl rfl false (cb_lt_f (a := k) (b := n) rfl rfl (by omega)) (by decide) ?_
    refine wl_nil ?_
    refine eo_then ?_
    refine cw_seq ?_
    refine cw_false rfl ?_
    refine cw_exit ?_
    refine eo_thenX ?_
    refine eo_loopX ?_
    refine eo_block_here ?_
    refine eo_then ?_
    refine cw_seq ?_
    refine cw_region ?_
    refine wl_call rfl rfl (vs := [.int .i64 1]) (by kernel_rfl) (by decide) (g_zint_Of hw1.size (by decide) (by decide)) ?_
    rintro _ v27 ⟨xr29, rfl, r29, e28⟩
    refine ret_intro ?_
    have hw2 : Ext w v27 := hw1.trans e28
    obtain ⟨s30, A30, n30, c30, rfl, z30⟩ := r29
    have hb32 := (b_5.ext e28)
    refine wl_stored rfl rfl rfl aggInt rfl hb32 (Nat.le_of_ble_eq_true rfl) rfl [.bool s30, .slice A30 n30 c30] rfl fun v31 hb33 u34 hs35 => ?_
    have hw3 : Ext w v31 := u34.ext hw2 ge10
    refine wl_nil ?_
    refine eo_then ?_
    refine cw_seq ?_
    refine cw_seq ?_
    refine cw_region ?_
    refine wl_move rfl rfl (by decide) ?_
    refine wl_pure rfl rfl (v := .int .i64 ((n : Nat) : Int)) (by decide) (by kernel_rfl) ?_
    refine wl_move rfl rfl (by decide) ?_
    refine wl_nil ?_
    refine eo_then ?_
    refine cw_block ?_
    refine cw_loop (T := World × Nat × Int × ZC × ZC)
      (fun ⟨wq, j, s, kr, km⟩ => [(0, .slice A n cap), (1, .slice B n cap2), (4, .pointer (some ⟨g1, 0, none⟩)), (5, .pointer (some ⟨g6, 0, none⟩)), (6, .int .i64 0), (31, .int .i64 ((n : Nat) : Int)), (32, .int .i64 ((j : Nat) : Int))])
      (fun ⟨wq, j, s, kr, km⟩ => wq)
      (fun ⟨wq, j, s, kr, km⟩ => (Ext w wq) ∧ (j ≤ n) ∧ (∀ i, i < j → ms.getD i 0 ∣ rs.getD i 0 - s) ∧ (Bk wq g1 27 [.bool kr.s, .slice kr.A kr.n kr.c]) ∧ (Bk wq g6 27 [.bool km.s, .slice km.A km.n km.c]) ∧ (Zr wq w.heap.size kr.s kr.A kr.n kr.c (s % lcmL (ms.take j))) ∧ (Zr wq w.heap.size km.s km.A km.n km.c (lcmL (ms.take j))))
      (fun ⟨wq, j, s, kr, km⟩ => n - j)
      (⟨v31, 0, 0, ⟨false, none, 0, 0⟩, ⟨s30, A30, n30, c30⟩⟩ : World × Nat × Int × ZC × ZC) ⟨hw3, Nat.zero_le _, (fun i hi => by omega), ((b_4.ext e28).updN u34 (by omega)), hb33, (Zr.zero.cast (by rw [List.take_zero]; exact (Int.emod_one _).symm)), ((z30.updT hb32 u34)).cast (by rfl)⟩ rfl ⟨rfl, rfl, rfl, rfl, rfl, rfl, rfl, trivial⟩ ?_
    rintro ⟨wq, j, s, kr, km⟩ ⟨hw1, hj, hs, b_4, b_5, zr, zm⟩
    refine cw_re [(0, .slice A n cap), (1, .slice B n cap2), (4, .pointer (some ⟨g1, 0, none⟩)), (5, .pointer (some ⟨g6, 0, none⟩)), (6, .int .i64 0), (31, .int .i64 ((n : Nat) : Int)), (32, .int .i64 ((j : Nat) : Int))] wq rfl ⟨rfl, rfl, rfl, rfl, rfl, rfl, rfl, trivial⟩ ?_
    refine cw_seq ?_
    by_cases hjn0 : j < n
    ·
      refine cw_region ?_
      refine wl_cmp rfl rfl rfl true (cb_lt_t (a := j) (b := n) rfl rfl (by omega)) (by decide) ?_
      refine wl_nil ?_
      refine eo_then ?_
      refine cw_seq ?_
      refine cw_true rfl ?_
      refine cw_skip ?_
      refine eo_then ?_
      refine cw_seq ?_
      refine cw_block ?_
      refine cw_seq ?_
      refine cw_region ?_
      refine wl_move rfl rfl (by decide) ?_
      refine wl_assign rfl rfl (by decide) ?_
      refine wl_nil ?_
      refine eo_then ?_
      refine cw_seq ?_
      have hL0 : lcmL (ms.take j) ≠ 0 := lcmL_ne h0 j
      by_cases hd : (Int.gcd (lcmL (ms.take j)) (ms.getD j 0) : Int) ∣ rs.getD j 0 - s % lcmL (ms.take j)
      ·
        obtain ⟨s', d1, d2, hs2⟩ := crt_next (by rw [hm.len]; omega) hs h0 hd
        obtain ⟨pz36, sz36, Bz36, cz36, hpz36, ldz36, ez36⟩ := hr.at (i := j) (by omega)
        obtain ⟨pz37, sz37, Bz37, cz37, hpz37, ldz37, ez37⟩ := hm.at (i := j) (by omega)
        have L38 : ln ((Int.lcm (lcmL (ms.take j)) (ms.getD j 0) : Int)) ≤ 1048577 := (by rw [lcmL_succ (by rw [hm.len]; omega)]; exact ln_lcmL_le hsum (j + 1))
        have L39 : ln (s' % (Int.lcm (lcmL (ms.take j)) (ms.getD j 0) : Int)) ≤ 1048577 := Nat.le_trans (ln_emod (lcm_ne hL0 (h0 j (by rw [hm.len]; omega)))) L38
        refine cw_draw mix 15 [12, 13, 14] [Is (.agg #[.bool kr.s, .slice kr.A kr.n kr.c]), Is (.agg #[.bool km.s, .slice km.A km.n km.c]), Is (.slice A n cap), Is (.int .i64 ((j : Nat) : Int)), Is (.pointer (some pz36)), Is (.agg #[.bool sz36, .slice Bz36 (ks.getD j 0) cz36]), Is (.slice B n cap2), Is (.int .i64 ((j : Nat) : Int)), Is (.pointer (some pz37)), Is (.agg #[.bool sz37, .slice Bz37 (js.getD j 0) cz37]), T3 (ZR w.heap.size (s' % (Int.lcm (lcmL (ms.take j)) (ms.getD j 0) : Int))) (ZR w.heap.size ((Int.lcm (lcmL (ms.take j)) (ms.getD j 0) : Int))) (Is (.int .i64 0)), T3 (ZR w.heap.size (s' % (Int.lcm (lcmL (ms.take j)) (ms.getD j 0) : Int))) (ZR w.heap.size ((Int.lcm (lcmL (ms.take j)) (ms.getD j 0) : Int))) (Is (.int .i64 0)), ZR w.heap.size (s' % (Int.lcm (lcmL (ms.take j)) (ms.getD j 0) : Int)), ZR w.heap.size ((Int.lcm (lcmL (ms.take j)) (ms.getD j 0) : Int)), Is (.int .i64 0)] [[], [], [], [], [2, 3], [4], [], [], [6, 7], [8], [0, 1, 5, 9], [10], [11], [11], [11]] [[], [], [], [], [2, 3], [2, 3, 4], [], [], [6, 7], [6, 7, 8], [0, 1, 2, 3, 4, 5, 6, 7, 8, 9], [0, 1, 2, 3, 4, 5, 6, 7, 8, 9, 10], [0, 1, 2, 3, 4, 5, 6, 7, 8, 9, 10, 11], [0, 1, 2, 3, 4, 5, 6, 7, 8, 9, 10, 11], [0, 1, 2, 3, 4, 5, 6, 7, 8, 9, 10, 11], [0, 1, 2, 3, 4, 5, 6, 7, 8, 9, 10, 11, 12], [0, 1, 2, 3, 4, 5, 6, 7, 8, 9, 10, 11, 12, 13, 15], [0, 1, 2, 3, 4, 5, 6, 7, 8, 9, 10, 11, 12, 13, 14, 15, 16]] rfl
          (obs_cons rfl rfl (hob rfl rfl ?_) (obs_cons rfl rfl (hob rfl rfl ?_) (obs_cons rfl rfl (hob rfl rfl ?_) (obs_cons rfl rfl (hob rfl rfl ?_) (obs_cons rfl rfl (hob rfl rfl ?_) (obs_cons rfl rfl (hob rfl rfl ?_) (obs_cons rfl rfl (hob rfl rfl ?_) (obs_cons rfl rfl (hob rfl rfl ?_) (obs_cons rfl rfl (hob rfl rfl ?_) (obs_cons rfl rfl (hob rfl rfl ?_) (obs_cons rfl rfl (hob rfl rfl ?_) (obs_cons rfl rfl (hob rfl rfl ?_) (obs_float rfl rfl (fob rfl ?_) (obs_float rfl rfl (fob rfl ?_) (obs_float rfl rfl (fob rfl ?_) obs_nil))))))))))))))) ?_
        · -- 0
          intro v48 e49
          have hw2 : Ext w v48 := hw1.trans e49
          refine deps_nil ?_
          refine wl_load rfl rfl (load_agg aggInt (b_4.ext e49) [.bool kr.s, .slice kr.A kr.n kr.c] rfl (Nat.le_of_ble_eq_true rfl) rfl) (by decide) ?_
          exact pi_done rfl (Ext.refl _) rfl
        · -- 1
          intro v50 e51
          have hw2 : Ext w v50 := hw1.trans e51
          refine deps_nil ?_
          refine wl_load rfl rfl (load_agg aggInt (b_5.ext e51) [.bool km.s, .slice km.A km.n km.c] rfl (Nat.le_of_ble_eq_true rfl) rfl) (by decide) ?_
          exact pi_done rfl (Ext.refl _) rfl
        · -- 2
          intro v52 e53
          have hw2 : Ext w v52 := hw1.trans e53
          refine deps_nil ?_
          refine wl_move rfl rfl (by decide) ?_
          exact pi_done rfl (Ext.refl _) rfl
        · -- 3
          intro v54 e55
          have hw2 : Ext w v54 := hw1.trans e55
          refine deps_nil ?_
          refine wl_move rfl rfl (by decide) ?_
          exact pi_done rfl (Ext.refl _) rfl
        · -- 4
          intro v56 e57
          have hw2 : Ext w v56 := hw1.trans e57
          refine deps_cons rfl rfl fun x58 y59 h60 e61 f62 => ?_
          obtain rfl := h60
          refine deps_cons rfl rfl fun x63 y64 h65 e66 f67 => ?_
          obtain rfl := h65
          refine deps_nil ?_
          refine wl_idx rfl rfl rfl elemI aggInt.size j rfl (by omega) pz36 hpz36 (by decide) ?_
          exact pi_done rfl (Ext.refl _) rfl
        · -- 5
          intro v68 e69
          have hw2 : Ext w v68 := hw1.trans e69
          refine deps_cons rfl rfl fun x70 y71 h72 e73 f74 => ?_
          obtain rfl := h72
          refine deps_nil ?_
          refine wl_load rfl rfl (ldz36 _ hw2 _ _ aggInt) (by decide) ?_
          exact pi_done rfl (Ext.refl _) rfl
        · -- 6
          intro v75 e76
          have hw2 : Ext w v75 := hw1.trans e76
          refine deps_nil ?_
          refine wl_move rfl rfl (by decide) ?_
          exact pi_done rfl (Ext.refl _) rfl
        · -- 7
          intro v77 e78
          have hw2 : Ext w v77 := hw1.trans e78
          refine deps_nil ?_
          refine wl_move rfl rfl (by decide) ?_
          exact pi_done rfl (Ext.refl _) rfl
        · -- 8
          intro v79 e80
          have hw2 : Ext w v79 := hw1.trans e80
          refine deps_cons rfl rfl fun x81 y82 h83 e84 f85 => ?_
          obtain rfl := h83
          refine deps_cons rfl rfl fun x86 y87 h88 e89 f90 => ?_
          obtain rfl := h88
          refine deps_nil ?_
          refine wl_idx rfl rfl rfl elemI aggInt.size j rfl (by omega) pz37 hpz37 (by decide) ?_
          exact pi_done rfl (Ext.refl _) rfl
        · -- 9
          intro v91 e92
          have hw2 : Ext w v91 := hw1.trans e92
          refine deps_cons rfl rfl fun x93 y94 h95 e96 f97 => ?_
          obtain rfl := h95
          refine deps_nil ?_
          refine wl_load rfl rfl (ldz37 _ hw2 _ _ aggInt) (by decide) ?_
          exact pi_done rfl (Ext.refl _) rfl
        · -- 10
          intro v98 e99
          have hw2 : Ext w v98 := hw1.trans e99
          refine deps_cons rfl rfl fun x100 y101 h102 e103 f104 => ?_
          obtain rfl := h102
          refine deps_cons rfl rfl fun x105 y106 h107 e108 f109 => ?_
          obtain rfl := h107
          refine deps_cons rfl rfl fun x110 y111 h112 e113 f114 => ?_
          obtain rfl := h112
          refine deps_cons rfl rfl fun x115 y116 h117 e118 f119 => ?_
          obtain rfl := h117
          refine deps_nil ?_
          have L120 : ln ((Int.lcm (lcmL (ms.take j)) (ms.getD j 0) : Int)) ≤ 1048577 := (by rw [lcmL_succ (by rw [hm.len]; omega)]; exact ln_lcmL_le hsum (j + 1))
          have L121 : ln (s' % (Int.lcm (lcmL (ms.take j)) (ms.getD j 0) : Int)) ≤ 1048577 := Nat.le_trans (ln_emod (lcm_ne hL0 (h0 j (by rw [hm.len]; omega)))) L120
          refine wl_call rfl rfl (vs := [.agg #[.bool kr.s, .slice kr.A kr.n kr.c], .agg #[.bool km.s, .slice km.A km.n km.c], .agg #[.bool sz36, .slice Bz36 (ks.getD j 0) cz36], .agg #[.bool sz37, .slice Bz37 (js.getD j 0) cz37]]) (by kernel_rfl) (by decide) (g_bezout_Crt_ok hw2.size (zr.ext e99).zi (zr.le (Nat.le_trans (Nat.le_trans (ln_emod (lcmL_ne h0 j)) (ln_lcmL_le hsum j)) (by decide))) (zm.ext e99).zi (zm.le (Nat.le_trans (ln_lcmL_le hsum j) (by decide))) (ez36.ext hw2) (Nat.le_trans (hkb j) (by decide)) (ez37.ext hw2) (Nat.le_trans (hjb j) (by decide)) hL0 (h0 j (by rw [hm.len]; omega)) d1 d2) ?_
          rintro _ v122 ⟨xr124, rfl, r124, e123⟩
          refine ret_intro ?_
          have hw3 : Ext w v122 := hw2.trans e123
          obtain ⟨a125_0, a125_1, a125_2, rfl, r125_0, r125_1, r125_2⟩ := r124
          obtain ⟨s126, A126, n126, c126, rfl, z126⟩ := r125_0
          obtain ⟨s127, A127, n127, c127, rfl, z127⟩ := r125_1
          obtain rfl := r125_2
          exact pi_done rfl e123 ⟨_, _, _, rfl, ⟨_, _, _, _, rfl, z126⟩, ⟨_, _, _, _, rfl, z127⟩, rfl⟩
        · -- 11
          intro v128 e129
          have hw2 : Ext w v128 := hw1.trans e129
          refine deps_cons rfl rfl fun x130 y131 h132 e133 f134 => ?_
          obtain ⟨a135_0, a135_1, a135_2, rfl, r135_0, r135_1, r135_2⟩ := h132
          obtain ⟨s136, A136, n136, c136, rfl, z136⟩ := r135_0
          obtain ⟨s137, A137, n137, c137, rfl, z137⟩ := r135_1
          obtain rfl := r135_2
          have z136 := z136.ext f134
          have z137 := z137.ext f134
          refine deps_nil ?_
          refine wl_move rfl rfl (by decide) ?_
          exact pi_done rfl (Ext.refl _) ⟨_, _, _, rfl, ⟨_, _, _, _, rfl, z136⟩, ⟨_, _, _, _, rfl, z137⟩, rfl⟩
        · -- 12
          intro v138 e139
          have hw2 : Ext w v138 := hw1.trans e139
          refine deps_cons rfl rfl fun x140 y141 h142 e143 f144 => ?_
          obtain ⟨a145_0, a145_1, a145_2, rfl, r145_0, r145_1, r145_2⟩ := h142
          obtain ⟨s146, A146, n146, c146, rfl, z146⟩ := r145_0
          obtain ⟨s147, A147, n147, c147, rfl, z147⟩ := r145_1
          obtain rfl := r145_2
          have z146 := z146.ext f144
          have z147 := z147.ext f144
          refine deps_nil ?_
          exact ⟨.agg #[.bool s146, .slice A146 n146 c146], rfl, rfl, fun _ => by kernel_rfl, ⟨_, _, _, _, rfl, z146⟩⟩
        · -- 13
          intro v148 e149
          have hw2 : Ext w v148 := hw1.trans e149
          refine deps_cons rfl rfl fun x150 y151 h152 e153 f154 => ?_
          obtain ⟨a155_0, a155_1, a155_2, rfl, r155_0, r155_1, r155_2⟩ := h152
          obtain ⟨s156, A156, n156, c156, rfl, z156⟩ := r155_0
          obtain ⟨s157, A157, n157, c157, rfl, z157⟩ := r155_1
          obtain rfl := r155_2
          have z156 := z156.ext f154
          have z157 := z157.ext f154
          refine deps_nil ?_
          exact ⟨.agg #[.bool s157, .slice A157 n157 c157], rfl, rfl, fun _ => by kernel_rfl, ⟨_, _, _, _, rfl, z157⟩⟩
        · -- 14
          intro v158 e159
          have hw2 : Ext w v158 := hw1.trans e159
          refine deps_cons rfl rfl fun x160 y161 h162 e163 f164 => ?_
          obtain ⟨a165_0, a165_1, a165_2, rfl, r165_0, r165_1, r165_2⟩ := h162
          obtain ⟨s166, A166, n166, c166, rfl, z166⟩ := r165_0
          obtain ⟨s167, A167, n167, c167, rfl, z167⟩ := r165_1
          obtain rfl := r165_2
          have z166 := z166.ext f164
          have z167 := z167.ext f164
          refine deps_nil ?_
          exact ⟨.int .i64 0, rfl, rfl, fun _ => by kernel_rfl, rfl⟩
        · -- all
          intro v168 e169
          have hw2 : Ext w v168 := hw1.trans e169
          refine deps_cons rfl rfl fun x170 y171 h172 e173 f174 => ?_
          obtain rfl := h172
          refine deps_cons rfl rfl fun x175 y176 h177 e178 f179 => ?_
          obtain rfl := h177
          refine deps_cons rfl rfl fun x180 y181 h182 e183 f184 => ?_
          obtain rfl := h182
          refine deps_cons rfl rfl fun x185 y186 h187 e188 f189 => ?_
          obtain rfl := h187
          refine deps_cons rfl rfl fun x190 y191 h192 e193 f194 => ?_
          obtain rfl := h192
          refine deps_cons rfl rfl fun x195 y196 h197 e198 f199 => ?_
          obtain rfl := h197
          refine deps_cons rfl rfl fun x200 y201 h202 e203 f204 => ?_
          obtain rfl := h202
          refine deps_cons rfl rfl fun x205 y206 h207 e208 f209 => ?_
          obtain rfl := h207
          refine deps_cons rfl rfl fun x210 y211 h212 e213 f214 => ?_
          obtain rfl := h212
          refine deps_cons rfl rfl fun x215 y216 h217 e218 f219 => ?_
          obtain rfl := h217
          refine deps_cons rfl rfl fun x220 y221 h222 e223 f224 => ?_
          obtain ⟨a225_0, a225_1, a225_2, rfl, r225_0, r225_1, r225_2⟩ := h222
          obtain ⟨s226, A226, n226, c226, rfl, z226⟩ := r225_0
          obtain ⟨s227, A227, n227, c227, rfl, z227⟩ := r225_1
          obtain rfl := r225_2
          have z226 := z226.ext f224
          have z227 := z227.ext f224
          refine deps_cons rfl rfl fun x228 y229 h230 e231 f232 => ?_
          obtain ⟨a233_0, a233_1, a233_2, rfl, r233_0, r233_1, r233_2⟩ := h230
          obtain ⟨s234, A234, n234, c234, rfl, z234⟩ := r233_0
          obtain ⟨s235, A235, n235, c235, rfl, z235⟩ := r233_1
          obtain rfl := r233_2
          have z234 := z234.ext f232
          have z235 := z235.ext f232
          refine deps_cons rfl rfl fun x236 y237 h238 e239 f240 => ?_
          obtain ⟨s241, A241, n241, c241, rfl, z241⟩ := h238
          have z241 := z241.ext f240
          refine deps_cons rfl rfl fun x242 y243 h244 e245 f246 => ?_
          obtain ⟨s247, A247, n247, c247, rfl, z247⟩ := h244
          have z247 := z247.ext f246
          refine deps_cons rfl rfl fun x248 y249 h250 e251 f252 => ?_
          obtain rfl := h250
          refine deps_nil ?_
          have hb254 := (b_4.ext e169)
          refine wl_stored rfl rfl rfl aggInt rfl hb254 (Nat.le_of_ble_eq_true rfl) rfl [.bool s241, .slice A241 n241 c241] rfl fun v253 hb255 u256 hs257 => ?_
          have hw3 : Ext w v253 := u256.ext hw2 ge5
          have hb259 := ((b_5.ext e169).updN u256 (by omega))
          refine wl_stored rfl rfl rfl aggInt rfl hb259 (Nat.le_of_ble_eq_true rfl) rfl [.bool s247, .slice A247 n247 c247] rfl fun v258 hb260 u261 hs262 => ?_
          have hw4 : Ext w v258 := u261.ext hw3 ge10
          refine wl_assign rfl rfl (by decide) ?_
          refine wl_nil ?_
          refine eo_np ?_
          refine eo_then ?_
          refine cw_seq ?_
          refine cw_region ?_
          refine wl_move rfl rfl (by decide) ?_
          refine wl_cmp rfl rfl rfl false (by decide) (by decide) ?_
          refine wl_nil ?_
          refine eo_then ?_
          refine cw_false rfl ?_
          refine cw_skip ?_
          refine eo_block_normal ?_
          refine eo_then ?_
          refine cw_region ?_
          refine wl_ar rfl rfl rfl ((j + 1 : Nat) : Int) (ai_add (a := j) (b := 1) rfl rfl (by omega)) (by decide) ?_
          refine wl_move rfl rfl (by decide) ?_
          refine wl_nil ?_
          refine eo_round (⟨v258, j + 1, s', ⟨s241, A241, n241, c241⟩, ⟨s247, A247, n247, c247⟩⟩ : World × Nat × Int × ZC × ZC) ⟨hw4, (by omega), hs2, (hb255.updN u261 (by omega)), hb260, (((z241.updT hb254 u256).updT hb259 u261)).cast (by rw [lcmL_succ (by rw [hm.len]; omega)]), (((z247.updT hb254 u256).updT hb259 u261)).cast (lcmL_succ (by rw [hm.len]; omega))⟩ (show n - (j + 1) < n - j by omega) rfl ⟨rfl, rfl, rfl, rfl, rfl, rfl, rfl, trivial⟩
      ·
        obtain ⟨pz263, sz263, Bz263, cz263, hpz263, ldz263, ez263⟩ := hr.at (i := j) (by omega)
        obtain ⟨pz264, sz264, Bz264, cz264, hpz264, ldz264, ez264⟩ := hm.at (i := j) (by omega)
        refine cw_draw mix 15 [12, 13, 14] [Is (.agg #[.bool kr.s, .slice kr.A kr.n kr.c]), Is (.agg #[.bool km.s, .slice km.A km.n km.c]), Is (.slice A n cap), Is (.int .i64 ((j : Nat) : Int)), Is (.pointer (some pz263)), Is (.agg #[.bool sz263, .slice Bz263 (ks.getD j 0) cz263]), Is (.slice B n cap2), Is (.int .i64 ((j : Nat) : Int)), Is (.pointer (some pz264)), Is (.agg #[.bool sz264, .slice Bz264 (js.getD j 0) cz264]), T3 (ZR w.heap.size (0)) (ZR w.heap.size (0)) (Is (.int .i64 6)), T3 (ZR w.heap.size (0)) (ZR w.heap.size (0)) (Is (.int .i64 6)), ZR w.heap.size (0), ZR w.heap.size (0), Is (.int .i64 6)] [[], [], [], [], [2, 3], [4], [], [], [6, 7], [8], [0, 1, 5, 9], [10], [11], [11], [11]] [[], [], [], [], [2, 3], [2, 3, 4], [], [], [6, 7], [6, 7, 8], [0, 1, 2, 3, 4, 5, 6, 7, 8, 9], [0, 1, 2, 3, 4, 5, 6, 7, 8, 9, 10], [0, 1, 2, 3, 4, 5, 6, 7, 8, 9, 10, 11], [0, 1, 2, 3, 4, 5, 6, 7, 8, 9, 10, 11], [0, 1, 2, 3, 4, 5, 6, 7, 8, 9, 10, 11], [0, 1, 2, 3, 4, 5, 6, 7, 8, 9, 10, 11, 12], [0, 1, 2, 3, 4, 5, 6, 7, 8, 9, 10, 11, 12, 13, 15], [0, 1, 2, 3, 4, 5, 6, 7, 8, 9, 10, 11, 12, 13, 14, 15, 16]] rfl
          (obs_cons rfl rfl (hob rfl rfl ?_) (obs_cons rfl rfl (hob rfl rfl ?_) (obs_cons rfl rfl (hob rfl rfl ?_) (obs_cons rfl rfl (hob rfl rfl ?_) (obs_cons rfl rfl (hob rfl rfl ?_) (obs_cons rfl rfl (hob rfl rfl ?_) (obs_cons rfl rfl (hob rfl rfl ?_) (obs_cons rfl rfl (hob rfl rfl ?_) (obs_cons rfl rfl (hob rfl rfl ?_) (obs_cons rfl rfl (hob rfl rfl ?_) (obs_cons rfl rfl (hob rfl rfl ?_) (obs_cons rfl rfl (hob rfl rfl ?_) (obs_float rfl rfl (fob rfl ?_) (obs_float rfl rfl (fob rfl ?_) (obs_float rfl rfl (fob rfl ?_) obs_nil))))))))))))))) ?_
        · -- 0
          intro v273 e274
          have hw2 : Ext w v273 := hw1.trans e274
          refine deps_nil ?_
          refine wl_load rfl rfl (load_agg aggInt (b_4.ext e274) [.bool kr.s, .slice kr.A kr.n kr.c] rfl (Nat.le_of_ble_eq_true rfl) rfl) (by decide) ?_
          exact pi_done rfl (Ext.refl _) rfl
        · -- 1
          intro v275 e276
          have hw2 : Ext w v275 := hw1.trans e276
          refine deps_nil ?_
          refine wl_load rfl rfl (load_agg aggInt (b_5.ext e276) [.bool km.s, .slice km.A km.n km.c] rfl (Nat.le_of_ble_eq_true rfl) rfl) (by decide) ?_
          exact pi_done rfl (Ext.refl _) rfl
        · -- 2
          intro v277 e278
          have hw2 : Ext w v277 := hw1.trans e278
          refine deps_nil ?_
          refine wl_move rfl rfl (by decide) ?_
          exact pi_done rfl (Ext.refl _) rfl
        · -- 3
          intro v279 e280
          have hw2 : Ext w v279 := hw1.trans e280
          refine deps_nil ?_
          refine wl_move rfl rfl (by decide) ?_
          exact pi_done rfl (Ext.refl _) rfl
        · -- 4
          intro v281 e282
          have hw2 : Ext w v281 := hw1.trans e282
          refine deps_cons rfl rfl fun x283 y284 h285 e286 f287 => ?_
          obtain rfl := h285
          refine deps_cons rfl rfl fun x288 y289 h290 e291 f292 => ?_
          obtain rfl := h290
          refine deps_nil ?_
          refine wl_idx rfl rfl rfl elemI aggInt.size j rfl (by omega) pz263 hpz263 (by decide) ?_
          exact pi_done rfl (Ext.refl _) rfl
        · -- 5
          intro v293 e294
          have hw2 : Ext w v293 := hw1.trans e294
          refine deps_cons rfl rfl fun x295 y296 h297 e298 f299 => ?_
          obtain rfl := h297
          refine deps_nil ?_
          refine wl_load rfl rfl (ldz263 _ hw2 _ _ aggInt) (by decide) ?_
          exact pi_done rfl (Ext.refl _) rfl
        · -- 6
          intro v300 e301
          have hw2 : Ext w v300 := hw1.trans e301
          refine deps_nil ?_
          refine wl_move rfl rfl (by decide) ?_
          exact pi_done rfl (Ext.refl _) rfl
        · -- 7
          intro v302 e303
          have hw2 : Ext w v302 := hw1.trans e303
          refine deps_nil ?_
          refine wl_move rfl rfl (by decide) ?_
          exact pi_done rfl (Ext.refl _) rfl
        · -- 8
          intro v304 e305
          have hw2 : Ext w v304 := hw1.trans e305
          refine deps_cons rfl rfl fun x306 y307 h308 e309 f310 => ?_
          obtain rfl := h308
          refine deps_cons rfl rfl fun x311 y312 h313 e314 f315 => ?_
          obtain rfl := h313
          refine deps_nil ?_
          refine wl_idx rfl rfl rfl elemI aggInt.size j rfl (by omega) pz264 hpz264 (by decide) ?_
          exact pi_done rfl (Ext.refl _) rfl
        · -- 9
          intro v316 e317
          have hw2 : Ext w v316 := hw1.trans e317
          refine deps_cons rfl rfl fun x318 y319 h320 e321 f322 => ?_
          obtain rfl := h320
          refine deps_nil ?_
          refine wl_load rfl rfl (ldz264 _ hw2 _ _ aggInt) (by decide) ?_
          exact pi_done rfl (Ext.refl _) rfl
        · -- 10
          intro v323 e324
          have hw2 : Ext w v323 := hw1.trans e324
          refine deps_cons rfl rfl fun x325 y326 h327 e328 f329 => ?_
          obtain rfl := h327
          refine deps_cons rfl rfl fun x330 y331 h332 e333 f334 => ?_
          obtain rfl := h332
          refine deps_cons rfl rfl fun x335 y336 h337 e338 f339 => ?_
          obtain rfl := h337
          refine deps_cons rfl rfl fun x340 y341 h342 e343 f344 => ?_
          obtain rfl := h342
          refine deps_nil ?_
          refine wl_call rfl rfl (vs := [.agg #[.bool kr.s, .slice kr.A kr.n kr.c], .agg #[.bool km.s, .slice km.A km.n km.c], .agg #[.bool sz263, .slice Bz263 (ks.getD j 0) cz263], .agg #[.bool sz264, .slice Bz264 (js.getD j 0) cz264]]) (by kernel_rfl) (by decide) (g_bezout_Crt_none hw2.size (zr.ext e324).zi (zr.le (Nat.le_trans (Nat.le_trans (ln_emod (lcmL_ne h0 j)) (ln_lcmL_le hsum j)) (by decide))) (zm.ext e324).zi (zm.le (Nat.le_trans (ln_lcmL_le hsum j) (by decide))) (ez263.ext hw2) (Nat.le_trans (hkb j) (by decide)) (ez264.ext hw2) (Nat.le_trans (hjb j) (by decide)) hL0 (h0 j (by rw [hm.len]; omega)) hd) ?_
          rintro _ v345 ⟨xr347, rfl, r347, e346⟩
          refine ret_intro ?_
          have hw3 : Ext w v345 := hw2.trans e346
          obtain ⟨a348_0, a348_1, a348_2, rfl, r348_0, r348_1, r348_2⟩ := r347
          obtain ⟨s349, A349, n349, c349, rfl, z349⟩ := r348_0
          obtain ⟨s350, A350, n350, c350, rfl, z350⟩ := r348_1
          obtain rfl := r348_2
          exact pi_done rfl e346 ⟨_, _, _, rfl, ⟨_, _, _, _, rfl, z349⟩, ⟨_, _, _, _, rfl, z350⟩, rfl⟩
        · -- 11
          intro v351 e352
          have hw2 : Ext w v351 := hw1.trans e352
          refine deps_cons rfl rfl fun x353 y354 h355 e356 f357 => ?_
          obtain ⟨a358_0, a358_1, a358_2, rfl, r358_0, r358_1, r358_2⟩ := h355
          obtain ⟨s359, A359, n359, c359, rfl, z359⟩ := r358_0
          obtain ⟨s360, A360, n360, c360, rfl, z360⟩ := r358_1
          obtain rfl := r358_2
          have z359 := z359.ext f357
          have z360 := z360.ext f357
          refine deps_nil ?_
          refine wl_move rfl rfl (by decide) ?_
          exact pi_done rfl (Ext.refl _) ⟨_, _, _, rfl, ⟨_, _, _, _, rfl, z359⟩, ⟨_, _, _, _, rfl, z360⟩, rfl⟩
        · -- 12
          intro v361 e362
          have hw2 : Ext w v361 := hw1.trans e362
          refine deps_cons rfl rfl fun x363 y364 h365 e366 f367 => ?_
          obtain ⟨a368_0, a368_1, a368_2, rfl, r368_0, r368_1, r368_2⟩ := h365
          obtain ⟨s369, A369, n369, c369, rfl, z369⟩ := r368_0
          obtain ⟨s370, A370, n370, c370, rfl, z370⟩ := r368_1
          obtain rfl := r368_2
          have z369 := z369.ext f367
          have z370 := z370.ext f367
          refine deps_nil ?_
          exact ⟨.agg #[.bool s369, .slice A369 n369 c369], rfl, rfl, fun _ => by kernel_rfl, ⟨_, _, _, _, rfl, z369⟩⟩
        · -- 13
          intro v371 e372
          have hw2 : Ext w v371 := hw1.trans e372
          refine deps_cons rfl rfl fun x373 y374 h375 e376 f377 => ?_
          obtain ⟨a378_0, a378_1, a378_2, rfl, r378_0, r378_1, r378_2⟩ := h375
          obtain ⟨s379, A379, n379, c379, rfl, z379⟩ := r378_0
          obtain ⟨s380, A380, n380, c380, rfl, z380⟩ := r378_1
          obtain rfl := r378_2
          have z379 := z379.ext f377
          have z380 := z380.ext f377
          refine deps_nil ?_
          exact ⟨.agg #[.bool s380, .slice A380 n380 c380], rfl, rfl, fun _ => by kernel_rfl, ⟨_, _, _, _, rfl, z380⟩⟩
        · -- 14
          intro v381 e382
          have hw2 : Ext w v381 := hw1.trans e382
          refine deps_cons rfl rfl fun x383 y384 h385 e386 f387 => ?_
          obtain ⟨a388_0, a388_1, a388_2, rfl, r388_0, r388_1, r388_2⟩ := h385
          obtain ⟨s389, A389, n389, c389, rfl, z389⟩ := r388_0
          obtain ⟨s390, A390, n390, c390, rfl, z390⟩ := r388_1
          obtain rfl := r388_2
          have z389 := z389.ext f387
          have z390 := z390.ext f387
          refine deps_nil ?_
          exact ⟨.int .i64 6, rfl, rfl, fun _ => by kernel_rfl, rfl⟩
        · -- all
          intro v391 e392
          have hw2 : Ext w v391 := hw1.trans e392
          refine deps_cons rfl rfl fun x393 y394 h395 e396 f397 => ?_
          obtain rfl := h395
          refine deps_cons rfl rfl fun x398 y399 h400 e401 f402 => ?_
          obtain rfl := h400
          refine deps_cons rfl rfl fun x403 y404 h405 e406 f407 => ?_
          obtain rfl := h405
          refine deps_cons rfl rfl fun x408 y409 h410 e411 f412 => ?_
          obtain rfl := h410
          refine deps_cons rfl rfl fun x413 y414 h415 e416 f417 => ?_
          obtain rfl := h415
          refine deps_cons rfl rfl fun x418 y419 h420 e421 f422 => ?_
          obtain rfl := h420
          refine deps_cons rfl rfl fun x423 y424 h425 e426 f427 => ?_
          obtain rfl := h425
          refine deps_cons rfl rfl fun x428 y429 h430 e431 f432 => ?_
          obtain rfl := h430
          refine deps_cons rfl rfl fun x433 y434 h435 e436 f437 => ?_
          obtain rfl := h435
          refine deps_cons rfl rfl fun x438 y439 h440 e441 f442 => ?_
          obtain rfl := h440
          refine deps_cons rfl rfl fun x443 y444 h445 e446 f447 => ?_
          obtain ⟨a448_0, a448_1, a448_2, rfl, r448_0, r448_1, r448_2⟩ := h445
          obtain ⟨s449, A449, n449, c449, rfl, z449⟩ := r448_0
          obtain ⟨s450, A450, n450, c450, rfl, z450⟩ := r448_1
          obtain rfl := r448_2
          have z449 := z449.ext f447
          have z450 := z450.ext f447
          refine deps_cons rfl rfl fun x451 y452 h453 e454 f455 => ?_
          obtain ⟨a456_0, a456_1, a456_2, rfl, r456_0, r456_1, r456_2⟩ := h453
          obtain ⟨s457, A457, n457, c457, rfl, z457⟩ := r456_0
          obtain ⟨s458, A458, n458, c458, rfl, z458⟩ := r456_1
          obtain rfl := r456_2
          have z457 := z457.ext f455
          have z458 := z458.ext f455
          refine deps_cons rfl rfl fun x459 y460 h461 e462 f463 => ?_
          obtain ⟨s464, A464, n464, c464, rfl, z464⟩ := h461
          have z464 := z464.ext f463
          refine deps_cons rfl rfl fun x465 y466 h467 e468 f469 => ?_
          obtain ⟨s470, A470, n470, c470, rfl, z470⟩ := h467
          have z470 := z470.ext f469
          refine deps_cons rfl rfl fun x471 y472 h473 e474 f475 => ?_
          obtain rfl := h473
          refine deps_nil ?_
          have hb477 := (b_4.ext e392)
          refine wl_stored rfl rfl rfl aggInt rfl hb477 (Nat.le_of_ble_eq_true rfl) rfl [.bool s464, .slice A464 n464 c464] rfl fun v476 hb478 u479 hs480 => ?_
          have hw3 : Ext w v476 := u479.ext hw2 ge5
          have hb482 := ((b_5.ext e392).updN u479 (by omega))
          refine wl_stored rfl rfl rfl aggInt rfl hb482 (Nat.le_of_ble_eq_true rfl) rfl [.bool s470, .slice A470 n470 c470] rfl fun v481 hb483 u484 hs485 => ?_
          have hw4 : Ext w v481 := u484.ext hw3 ge10
          refine wl_assign rfl rfl (by decide) ?_
          refine wl_nil ?_
          refine eo_np ?_
          refine eo_then ?_
          refine cw_seq ?_
          refine cw_region ?_
          refine wl_move rfl rfl (by decide) ?_
          refine wl_cmp rfl rfl rfl true (by decide) (by decide) ?_
          refine wl_nil ?_
          refine eo_then ?_
          refine cw_true rfl ?_
          refine cw_seq ?_
          refine cw_region ?_
          refine wl_pure rfl rfl (v := .agg #[.bool false, .slice none 0 0]) (by decide) (by kernel_rfl) ?_
          refine wl_pure rfl rfl (v := .agg #[.bool false, .slice none 0 0]) (by decide) (by kernel_rfl) ?_
          refine wl_move rfl rfl (by decide) ?_
          have hb487 := (hb478.updN u484 (by omega))
          refine wl_stored rfl rfl rfl aggInt rfl hb487 (Nat.le_of_ble_eq_true rfl) rfl [.bool false, .slice none 0 0] rfl fun v486 hb488 u489 hs490 => ?_
          have hw5 : Ext w v486 := u489.ext hw4 ge5
          have hb492 := (hb483.updN u489 (by omega))
          refine wl_stored rfl rfl rfl aggInt rfl hb492 (Nat.le_of_ble_eq_true rfl) rfl [.bool false, .slice none 0 0] rfl fun v491 hb493 u494 hs495 => ?_
          have hw6 : Ext w v491 := u494.ext hw5 ge10
          refine wl_assign rfl rfl (by decide) ?_
          refine wl_nil ?_
          refine eo_then ?_
          refine cw_ret ?_
          refine eo_block_ret ?_
          refine eo_thenR ?_
          refine eo_loopR ?_
          refine eo_block_ret ?_
          refine eo_thenR ?_
          refine eo_ret [.agg #[.bool false, .slice none 0 0], .agg #[.bool false, .slice none 0 0], .int .i64 6] rfl ⟨⟨_, rfl, load_agg aggInt (hb488.updN u494 (by omega)) [.bool false, .slice none 0 0] rfl (Nat.le_of_ble_eq_true rfl) rfl⟩, ⟨_, rfl, load_agg aggInt hb493 [.bool false, .slice none 0 0] rfl (Nat.le_of_ble_eq_true rfl) rfl⟩, rfl, trivial⟩ ?_
          exact ⟨_, rfl, ⟨_, _, _, rfl, ⟨_, _, _, _, rfl, ((((Zr.zero (w := v481) (base := w.heap.size)).updT hb487 u489).updT hb492 u494)).mono hb⟩, ⟨_, _, _, _, rfl, ((((Zr.zero (w := v481) (base := w.heap.size)).updT hb487 u489).updT hb492 u494)).mono hb⟩, rfl⟩, hw6⟩
    ·
      have hjn : j = n := by omega
      exact absurd ⟨s, fun i hi => hs i (by omega)⟩ hno
set_option maxHeartbeats 4000000 in
theorem g_bezout_CrtAll_ok {w : World} {b : Nat} (hb : b ≤ w.heap.size) {A B : Option Addr} {n cap cap2 : Nat} {rs ms : List Int} {ks js : List Nat} (hr : Zl w A n cap rs ks) (hm : Zl w B n cap2 ms js) (hn : n ≤ 2097152) (hkb : ∀ i, ks.getD i 0 ≤ 16777216) (hjb : ∀ i, js.getD i 0 ≤ 16777216) (hsum : (ms.map ln).sum ≤ 1048576) (h0 : ∀ i, i < ms.length → ms.getD i 0 ≠ 0) {s : Int} (hs : ∀ i, i < ms.length → ms.getD i 0 ∣ rs.getD i 0 - s) :
    Calls Try.prog 50 #[.slice A n cap, .slice B n cap2] w (Gv w (T3 (ZR b (s % lcmL ms)) (ZR b (lcmL ms)) (Is (.int .i64 0)))) := by
  refine sx_enter Try.func50 rfl (n := 58) rfl (Nat.le_of_ble_eq_true rfl) (args := [.slice A n cap, .slice B n cap2]) ?_
  refine cw_keep [(0, .slice A n cap), (1, .slice B n cap2)] ⟨rfl, rfl, trivial⟩ ?_
  refine cw_seq ?_
  refine cw_region ?_
  refine wl_alloc rfl (z := .agg #[.bool false, .slice none 0 0]) (vs := [.bool false, .slice none 0 0]) (fun _ => by kernel_rfl) rfl (by decide) fun g1 v2 nb => ?_
  have hb4 := nb.bk
  have ge5 : w.heap.size ≤ g1 := by rw [← nb.at_]; exact (Ext.refl w).size
  have e3 := nb.ext
  clear nb
  have hw1 : Ext w v2 := (Ext.refl w).trans e3
  refine wl_alloc rfl (z := .agg #[.bool false, .slice none 0 0]) (vs := [.bool false, .slice none 0 0]) (fun _ => by kernel_rfl) rfl (by decide) fun g6 v7 nb => ?_
  have hb9 := nb.bk
  have ge10 : w.heap.size ≤ g6 := by rw [← nb.at_]; exact hw1.size
  have q11 : g1 < g6 := by rw [← nb.at_]; exact hb4.lt
  have e8 := nb.ext
  clear nb
  have hw2 : Ext w v7 := hw1.trans e8
  refine wl_assign rfl rfl (by decide) ?_
  refine wl_nil ?_
  refine eo_then ?_
  refine cw_seq ?_
  refine cw_seq ?_
  refine cw_region ?_
  refine wl_move rfl rfl (by decide) ?_
  refine wl_pure rfl rfl (v := .int .i64 ((n : Nat) : Int)) (by decide) (by kernel_rfl) ?_
  refine wl_move rfl rfl (by decide) ?_
  refine wl_pure rfl rfl (v := .int .i64 ((n : Nat) : Int)) (by decide) (by kernel_rfl) ?_
  refine wl_cmp rfl rfl rfl false (cb_ne_f (a := n) (b := n) rfl rfl (by omega)) (by decide) ?_
  refine wl_nil ?_
  refine eo_then ?_
  refine cw_false rfl ?_
  refine cw_skip ?_
  refine eo_then ?_
  refine cw_seq ?_
  refine cw_seq ?_
  refine cw_region ?_
  refine wl_move rfl rfl (by decide) ?_
  refine wl_pure rfl rfl (v := .int .i64 ((n : Nat) : Int)) (by decide) (by kernel_rfl) ?_
  refine wl_move rfl rfl (by decide) ?_
  refine wl_nil ?_
  refine eo_then ?_
  refine cw_block ?_
  refine cw_loop (T := World × Nat)
    (fun ⟨wr, k⟩ => [(0, .slice A n cap), (1, .slice B n cap2), (4, .pointer (some ⟨g1, 0, none⟩)), (5, .pointer (some ⟨g6, 0, none⟩)), (6, .int .i64 0), (17, .slice B n cap2), (18, .int .i64 ((n : Nat) : Int)), (19, .int .i64 ((k : Nat) : Int))])
    (fun ⟨wr, k⟩ => wr)
    (fun ⟨wr, k⟩ => (Ext w wr) ∧ (k ≤ n) ∧ (∀ i, i < k → ms.getD i 0 ≠ 0) ∧ (Bk wr g1 27 [.bool false, .slice none 0 0]) ∧ (Bk wr g6 27 [.bool false, .slice none 0 0]))
    (fun ⟨wr, k⟩ => n - k)
    (⟨v7, 0⟩ : World × Nat) ⟨hw2, Nat.zero_le _, (fun i hi => by omega), (hb4.ext e8), hb9⟩ rfl ⟨rfl, rfl, rfl, rfl, rfl, rfl, rfl, rfl, trivial⟩ ?_
  rintro ⟨wr, k⟩ ⟨hw1, hk, hz, b_4, b_5⟩
  refine cw_re [(0, .slice A n cap), (1, .slice B n cap2), (4, .pointer (some ⟨g1, 0, none⟩)), (5, .pointer (some ⟨g6, 0, none⟩)), (6, .int .i64 0), (17, .slice B n cap2), (18, .int .i64 ((n : Nat) : Int)), (19, .int .i64 ((k : Nat) : Int))] wr rfl ⟨rfl, rfl, rfl, rfl, rfl, rfl, rfl, rfl, trivial⟩ ?_
  refine cw_seq ?_
  by_cases hkn : k < n
  ·
    refine cw_region ?_
    refine wl_cmp rfl rfl rfl true (cb_lt_t (a := k) (b := n) rfl rfl (by omega)) (by decide) ?_
    refine wl_nil ?_
    refine eo_then ?_
    refine cw_seq ?_
    refine cw_true rfl ?_
    refine cw_skip ?_
    refine eo_then ?_
    refine cw_seq ?_
    refine cw_block ?_
    refine cw_seq ?_
    refine cw_region ?_
    obtain ⟨pz12, sz12, Bz12, cz12, hpz12, ldz12, ez12⟩ := hm.at (i := k) (by omega)
    refine wl_idx rfl rfl rfl elemI aggInt.size k rfl (by omega) pz12 hpz12 (by decide) ?_
    refine wl_load rfl rfl (ldz12 _ hw1 _ _ aggInt) (by decide) ?_
    refine wl_alloc rfl (z := .agg #[.bool false, .slice none 0 0]) (vs := [.bool false, .slice none 0 0]) (fun _ => by kernel_rfl) rfl (by decide) fun g13 v14 nb => ?_
    have hb16 := nb.bk
    have ge17 : w.heap.size ≤ g13 := by rw [← nb.at_]; exact hw1.size
    have q18 : g6 < g13 := by rw [← nb.at_]; exact b_5.lt
    have e15 := nb.ext
    clear nb
    have hw2 : Ext w v14 := hw1.trans e15
    have hb20 := hb16
    refine wl_stored rfl rfl rfl aggInt rfl hb20 (Nat.le_of_ble_eq_true rfl) rfl [.bool sz12, .slice Bz12 (js.getD k 0) cz12] rfl fun v19 hb21 u22 hs23 => ?_
    have hw3 : Ext w v19 := u22.ext hw2 ge17
    refine wl_nil ?_
    refine eo_then ?_
    refine cw_seq ?_
    have hz0 : ms.getD k 0 ≠ 0 := h0 k (by rw [hm.len]; omega)
    refine cw_region ?_
    refine wl_load rfl rfl (load_agg aggInt hb21 [.bool sz12, .slice Bz12 (js.getD k 0) cz12] rfl (Nat.le_of_ble_eq_true rfl) rfl) (by decide) ?_
    refine wl_call rfl rfl (vs := [.agg #[.bool sz12, .slice Bz12 (js.getD k 0) cz12]]) (by kernel_rfl) (by decide) (g_zint_Sign (ez12.ext hw3) (Nat.le_trans (hjb k) (by decide))) ?_
    rintro _ v24 ⟨xr26, rfl, r26, e25⟩
    refine ret_intro ?_
    have hw4 : Ext w v24 := hw3.trans e25
    obtain rfl := r26
    refine wl_cmp rfl rfl rfl false (scmp_eq_f hz0) (by decide) ?_
    refine wl_nil ?_
    refine eo_then ?_
    refine cw_false rfl ?_
    refine cw_skip ?_
    refine eo_block_normal ?_
    refine eo_then ?_
    refine cw_region ?_
    refine wl_ar rfl rfl rfl ((k + 1 : Nat) : Int) (ai_add (a := k) (b := 1) rfl rfl (by omega)) (by decide) ?_
    refine wl_move rfl rfl (by decide) ?_
    refine wl_nil ?_
    refine eo_round (⟨v24, k + 1⟩ : World × Nat) ⟨hw4, (by omega), (fun i hi => if h : i < k then hz i h else (show i = k by omega) ▸ hz0), (((b_4.ext e15).updN u22 (by omega)).ext e25), (((b_5.ext e15).updN u22 (by omega)).ext e25)⟩ (show n - (k + 1) < n - k by omega) rfl ⟨rfl, rfl, rfl, rfl, rfl, rfl, rfl, rfl, trivial⟩
  ·
    refine cw_region ?_
    refine wl_cmp rfl rfl rfl false (cb_lt_f (a := k) (b := n) rfl rfl (by omega)) (by decide) ?_
    refine wl_nil ?_
    refine eo_then ?_
    refine cw_seq ?_
    refine cw_false rfl ?_
    refine cw_exit ?_
    refine eo_thenX ?_
    refine eo_loopX ?_
    refine eo_block_here ?_
    refine eo_then ?_
    refine cw_seq ?_
    refine cw_region ?_
    refine wl_call rfl rfl (vs := [.int .i64 1]) (by kernel_rfl) (by decide) (g_zint_Of hw1.size (by decide) (by decide)) ?_
    rintro _ v27 ⟨xr29, rfl, r29, e28⟩
    refine ret_intro ?_
    have hw2 : Ext w v27 := hw1.trans e28
    obtain ⟨s30, A30, n30, c30, rfl, z30⟩ := r29
    have hb32 := (b_5.ext e28)
    refine wl_stored rfl rfl rfl aggInt rfl hb32 (Nat.le_of_ble_eq_true rfl) rfl [.bool s30, .slice A30 n30 c30] rfl fun v31 hb33 u34 hs35 => ?_
    have hw3 : Ext w v31 := u34.ext hw2 ge10
    refine wl_nil ?_
    refine eo_then ?_
    refine cw_seq ?_
    refine cw_seq ?_
    refine cw_region ?_
    refine wl_move rfl rfl (by decide) ?_
    refine wl_pure rfl rfl (v := .int .i64 ((n : Nat) : Int)) (by decide) (by kernel_rfl) ?_
    refine wl_move rfl rfl (by decide) ?_
    refine wl_nil ?_
    refine eo_then ?_
    refine cw_block ?_
    refine cw_loop (T := World × Nat × ZC × ZC)
      (fun ⟨wq, j, kr, km⟩ => [(0, .slice A n cap), (1, .slice B n cap2), (4, .pointer (some ⟨g1, 0, none⟩)), (5, .pointer (some ⟨g6, 0, none⟩)), (6, .int .i64 0), (31, .int .i64 ((n : Nat) : Int)), (32, .int .i64 ((j : Nat) : Int))])
      (fun ⟨wq, j, kr, km⟩ => wq)
      (fun ⟨wq, j, kr, km⟩ => (Ext w wq) ∧ (j ≤ n) ∧ (Bk wq g1 27 [.bool kr.s, .slice kr.A kr.n kr.c]) ∧ (Bk wq g6 27 [.bool km.s, .slice km.A km.n km.c]) ∧ (Zr wq w.heap.size kr.s kr.A kr.n kr.c (s % lcmL (ms.take j))) ∧ (Zr wq w.heap.size km.s km.A km.n km.c (lcmL (ms.take j))))
      (fun ⟨wq, j, kr, km⟩ => n - j)
      (⟨v31, 0, ⟨false, none, 0, 0⟩, ⟨s30, A30, n30, c30⟩⟩ : World × Nat × ZC × ZC) ⟨hw3, Nat.zero_le _, ((b_4.ext e28).updN u34 (by omega)), hb33, (Zr.zero.cast (by rw [List.take_zero]; exact (Int.emod_one _).symm)), ((z30.updT hb32 u34)).cast (by rfl)⟩ rfl ⟨rfl, rfl, rfl, rfl, rfl, rfl, rfl, trivial⟩ ?_
    rintro ⟨wq, j, kr, km⟩ ⟨hw1, hj, b_4, b_5, zr, zm⟩
    refine cw_re [(0, .slice A n cap), (1, .slice B n cap2), (4, .pointer (some ⟨g1, 0, none⟩)), (5, .pointer (some ⟨g6, 0, none⟩)), (6, .int .i64 0), (31, .int .i64 ((n : Nat) : Int)), (32, .int .i64 ((j : Nat) : Int))] wq rfl ⟨rfl, rfl, rfl, rfl, rfl, rfl, rfl, trivial⟩ ?_
    refine cw_seq ?_
    by_cases hjn0 : j < n
    ·
      refine cw_region ?_
      refine wl_cmp rfl rfl rfl true (cb_lt_t (a := j) (b := n) rfl rfl (by omega)) (by decide) ?_
      refine wl_nil ?_
      refine eo_then ?_
      refine cw_seq ?_
      refine cw_true rfl ?_
      refine cw_skip ?_
      refine eo_then ?_
      refine cw_seq ?_
      refine cw_block ?_
      refine cw_seq ?_
      refine cw_region ?_
      refine wl_move rfl rfl (by decide) ?_
      refine wl_assign rfl rfl (by decide) ?_
      refine wl_nil ?_
      refine eo_then ?_
      refine cw_seq ?_
      have hL0 : lcmL (ms.take j) ≠ 0 := lcmL_ne h0 j
      obtain ⟨pz36, sz36, Bz36, cz36, hpz36, ldz36, ez36⟩ := hr.at (i := j) (by omega)
      obtain ⟨pz37, sz37, Bz37, cz37, hpz37, ldz37, ez37⟩ := hm.at (i := j) (by omega)
      have L38 : ln ((Int.lcm (lcmL (ms.take j)) (ms.getD j 0) : Int)) ≤ 1048577 := (by rw [lcmL_succ (by rw [hm.len]; omega)]; exact ln_lcmL_le hsum (j + 1))
      have L39 : ln (s % (Int.lcm (lcmL (ms.take j)) (ms.getD j 0) : Int)) ≤ 1048577 := Nat.le_trans (ln_emod (lcm_ne hL0 (h0 j (by rw [hm.len]; omega)))) L38
      refine cw_draw mix 15 [12, 13, 14] [Is (.agg #[.bool kr.s, .slice kr.A kr.n kr.c]), Is (.agg #[.bool km.s, .slice km.A km.n km.c]), Is (.slice A n cap), Is (.int .i64 ((j : Nat) : Int)), Is (.pointer (some pz36)), Is (.agg #[.bool sz36, .slice Bz36 (ks.getD j 0) cz36]), Is (.slice B n cap2), Is (.int .i64 ((j : Nat) : Int)), Is (.pointer (some pz37)), Is (.agg #[.bool sz37, .slice Bz37 (js.getD j 0) cz37]), T3 (ZR w.heap.size (s % (Int.lcm (lcmL (ms.take j)) (ms.getD j 0) : Int))) (ZR w.heap.size ((Int.lcm (lcmL (ms.take j)) (ms.getD j 0) : Int))) (Is (.int .i64 0)), T3 (ZR w.heap.size (s % (Int.lcm (lcmL (ms.take j)) (ms.getD j 0) : Int))) (ZR w.heap.size ((Int.lcm (lcmL (ms.take j)) (ms.getD j 0) : Int))) (Is (.int .i64 0)), ZR w.heap.size (s % (Int.lcm (lcmL (ms.take j)) (ms.getD j 0) : Int)), ZR w.heap.size ((Int.lcm (lcmL (ms.take j)) (ms.getD j 0) : Int)), Is (.int .i64 0)] [[], [], [], [], [2, 3], [4], [], [], [6, 7], [8], [0, 1, 5, 9], [10], [11], [11], [11]] [[], [], [], [], [2, 3], [2, 3, 4], [], [], [6, 7], [6, 7, 8], [0, 1, 2, 3, 4, 5, 6, 7, 8, 9], [0, 1, 2, 3, 4, 5, 6, 7, 8, 9, 10], [0, 1, 2, 3, 4, 5, 6, 7, 8, 9, 10, 11], [0, 1, 2, 3, 4, 5, 6, 7, 8, 9, 10, 11], [0, 1, 2, 3, 4, 5, 6, 7, 8, 9, 10, 11], [0, 1, 2, 3, 4, 5, 6, 7, 8, 9, 10, 11, 12], [0, 1, 2, 3, 4, 5, 6, 7, 8, 9, 10, 11, 12, 13, 15], [0, 1, 2, 3, 4, 5, 6, 7, 8, 9, 10, 11, 12, 13, 14, 15, 16]] rfl
        (obs_cons rfl rfl (hob rfl rfl ?_) (obs_cons rfl rfl (hob rfl rfl ?_) (obs_cons rfl rfl (hob rfl rfl ?_) (obs_cons rfl rfl (hob rfl rfl ?_) (obs_cons rfl rfl (hob rfl rfl ?_) (obs_cons rfl rfl (hob rfl rfl ?_) (obs_cons rfl rfl (hob rfl rfl ?_) (obs_cons rfl rfl (hob rfl rfl ?_) (obs_cons rfl rfl (hob rfl rfl ?_) (obs_cons rfl rfl (hob rfl rfl ?_) (obs_cons rfl rfl (hob rfl rfl ?_) (obs_cons rfl rfl (hob rfl rfl ?_) (obs_float rfl rfl (fob rfl ?_) (obs_float rfl rfl (fob rfl ?_) (obs_float rfl rfl (fob rfl ?_) obs_nil))))))))))))))) ?_
      · -- 0
        intro v48 e49
        have hw2 : Ext w v48 := hw1.trans e49
        refine deps_nil ?_
        refine wl_load rfl rfl (load_agg aggInt (b_4.ext e49) [.bool kr.s, .slice kr.A kr.n kr.c] rfl (Nat.le_of_ble_eq_true rfl) rfl) (by decide) ?_
        exact pi_done rfl (Ext.refl _) rfl
      · -- 1
        intro v50 e51
        have hw2 : Ext w v50 := hw1.trans e51
        refine deps_nil ?_
        refine wl_load rfl rfl (load_agg aggInt (b_5.ext e51) [.bool km.s, .slice km.A km.n km.c] rfl (Nat.le_of_ble_eq_true rfl) rfl) (by decide) ?_
        exact pi_done rfl (Ext.refl _) rfl
      · -- 2
        intro v52 e53
        have hw2 : Ext w v52 := hw1.trans e53
        refine deps_nil ?_
        refine wl_move rfl rfl (by decide) ?_
        exact pi_done rfl (Ext.refl _) rfl
      · -- 3
        intro v54 e55
        have hw2 : Ext w v54 := hw1.trans e55
        refine deps_nil ?_
        refine wl_move rfl rfl (by decide) ?_
        exact pi_done rfl (Ext.refl _) rfl
      · -- 4
        intro v56 e57
        have hw2 : Ext w v56 := hw1.trans e57
        refine deps_cons rfl rfl fun x58 y59 h60 e61 f62 => ?_
        obtain rfl := h60
        refine deps_cons rfl rfl fun x63 y64 h65 e66 f67 => ?_
        obtain rfl := h65
        refine deps_nil ?_
        refine wl_idx rfl rfl rfl elemI aggInt.size j rfl (by omega) pz36 hpz36 (by decide) ?_
        exact pi_done rfl (Ext.refl _) rfl
      · -- 5
        intro v68 e69
        have hw2 : Ext w v68 := hw1.trans e69
        refine deps_cons rfl rfl fun x70 y71 h72 e73 f74 => ?_
        obtain rfl := h72
        refine deps_nil ?_
        refine wl_load rfl rfl (ldz36 _ hw2 _ _ aggInt) (by decide) ?_
        exact pi_done rfl (Ext.refl _) rfl
      · -- 6
        intro v75 e76
        have hw2 : Ext w v75 := hw1.trans e76
        refine deps_nil ?_
        refine wl_move rfl rfl (by decide) ?_
        exact pi_done rfl (Ext.refl _) rfl
      · -- 7
        intro v77 e78
        have hw2 : Ext w v77 := hw1.trans e78
        refine deps_nil ?_
        refine wl_move rfl rfl (by decide) ?_
        exact pi_done rfl (Ext.refl _) rfl
      · -- 8
        intro v79 e80
        have hw2 : Ext w v79 := hw1.trans e80
        refine deps_cons rfl rfl fun x81 y82 h83 e84 f85 => ?_
        obtain rfl := h83
        refine deps_cons rfl rfl fun x86 y87 h88 e89 f90 => ?_
        obtain rfl := h88
        refine deps_nil ?_
        refine wl_idx rfl rfl rfl elemI aggInt.size j rfl (by omega) pz37 hpz37 (by decide) ?_
        exact pi_done rfl (Ext.refl _) rfl
      · -- 9
        intro v91 e92
        have hw2 : Ext w v91 := hw1.trans e92
        refine deps_cons rfl rfl fun x93 y94 h95 e96 f97 => ?_
        obtain rfl := h95
        refine deps_nil ?_
        refine wl_load rfl rfl (ldz37 _ hw2 _ _ aggInt) (by decide) ?_
        exact pi_done rfl (Ext.refl _) rfl
      · -- 10
        intro v98 e99
        have hw2 : Ext w v98 := hw1.trans e99
        refine deps_cons rfl rfl fun x100 y101 h102 e103 f104 => ?_
        obtain rfl := h102
        refine deps_cons rfl rfl fun x105 y106 h107 e108 f109 => ?_
        obtain rfl := h107
        refine deps_cons rfl rfl fun x110 y111 h112 e113 f114 => ?_
        obtain rfl := h112
        refine deps_cons rfl rfl fun x115 y116 h117 e118 f119 => ?_
        obtain rfl := h117
        refine deps_nil ?_
        have L120 : ln ((Int.lcm (lcmL (ms.take j)) (ms.getD j 0) : Int)) ≤ 1048577 := (by rw [lcmL_succ (by rw [hm.len]; omega)]; exact ln_lcmL_le hsum (j + 1))
        have L121 : ln (s % (Int.lcm (lcmL (ms.take j)) (ms.getD j 0) : Int)) ≤ 1048577 := Nat.le_trans (ln_emod (lcm_ne hL0 (h0 j (by rw [hm.len]; omega)))) L120
        refine wl_call rfl rfl (vs := [.agg #[.bool kr.s, .slice kr.A kr.n kr.c], .agg #[.bool km.s, .slice km.A km.n km.c], .agg #[.bool sz36, .slice Bz36 (ks.getD j 0) cz36], .agg #[.bool sz37, .slice Bz37 (js.getD j 0) cz37]]) (by kernel_rfl) (by decide) (g_bezout_Crt_ok hw2.size (zr.ext e99).zi (zr.le (Nat.le_trans (Nat.le_trans (ln_emod (lcmL_ne h0 j)) (ln_lcmL_le hsum j)) (by decide))) (zm.ext e99).zi (zm.le (Nat.le_trans (ln_lcmL_le hsum j) (by decide))) (ez36.ext hw2) (Nat.le_trans (hkb j) (by decide)) (ez37.ext hw2) (Nat.le_trans (hjb j) (by decide)) hL0 (h0 j (by rw [hm.len]; omega)) (dvd_emod_sub s _) (hs j (by rw [hm.len]; omega))) ?_
        rintro _ v122 ⟨xr124, rfl, r124, e123⟩
        refine ret_intro ?_
        have hw3 : Ext w v122 := hw2.trans e123
        obtain ⟨a125_0, a125_1, a125_2, rfl, r125_0, r125_1, r125_2⟩ := r124
        obtain ⟨s126, A126, n126, c126, rfl, z126⟩ := r125_0
        obtain ⟨s127, A127, n127, c127, rfl, z127⟩ := r125_1
        obtain rfl := r125_2
        exact pi_done rfl e123 ⟨_, _, _, rfl, ⟨_, _, _, _, rfl, z126⟩, ⟨_, _, _, _, rfl, z127⟩, rfl⟩
      · -- 11
        intro v128 e129
        have hw2 : Ext w v128 := hw1.trans e129
        refine deps_cons rfl rfl fun x130 y131 h132 e133 f134 => ?_
        obtain ⟨a135_0, a135_1, a135_2, rfl, r135_0, r135_1, r135_2⟩ := h132
        obtain ⟨s136, A136, n136, c136, rfl, z136⟩ := r135_0
        obtain ⟨s137, A137, n137, c137, rfl, z137⟩ := r135_1
        obtain rfl := r135_2
        have z136 := z136.ext f134
        have z137 := z137.ext f134
        refine deps_nil ?_
        refine wl_move rfl rfl (by decide) ?_
        exact pi_done rfl (Ext.refl _) ⟨_, _, _, rfl, ⟨_, _, _, _, rfl, z136⟩, ⟨_, _, _, _, rfl, z137⟩, rfl⟩
      · -- 12
        intro v138 e139
        have hw2 : Ext w v138 := hw1.trans e139
        refine deps_cons rfl rfl fun x140 y141 h142 e143 f144 => ?_
        obtain ⟨a145_0, a145_1, a145_2, rfl, r145_0, r145_1, r145_2⟩ := h142
        obtain ⟨s146, A146, n146, c146, rfl, z146⟩ := r145_0
        obtain ⟨s147, A147, n147, c147, rfl, z147⟩ := r145_1
        obtain rfl := r145_2
        have z146 := z146.ext f144
        have z147 := z147.ext f144
        refine deps_nil ?_
        exact ⟨.agg #[.bool s146, .slice A146 n146 c146], rfl, rfl, fun _ => by kernel_rfl, ⟨_, _, _, _, rfl, z146⟩⟩
      · -- 13
        intro v148 e149
        have hw2 : Ext w v148 := hw1.trans e149
        refine deps_cons rfl rfl fun x150 y151 h152 e153 f154 => ?_
        obtain ⟨a155_0, a155_1, a155_2, rfl, r155_0, r155_1, r155_2⟩ := h152
        obtain ⟨s156, A156, n156, c156, rfl, z156⟩ := r155_0
        obtain ⟨s157, A157, n157, c157, rfl, z157⟩ := r155_1
        obtain rfl := r155_2
        have z156 := z156.ext f154
        have z157 := z157.ext f154
        refine deps_nil ?_
        exact ⟨.agg #[.bool s157, .slice A157 n157 c157], rfl, rfl, fun _ => by kernel_rfl, ⟨_, _, _, _, rfl, z157⟩⟩
      · -- 14
        intro v158 e159
        have hw2 : Ext w v158 := hw1.trans e159
        refine deps_cons rfl rfl fun x160 y161 h162 e163 f164 => ?_
        obtain ⟨a165_0, a165_1, a165_2, rfl, r165_0, r165_1, r165_2⟩ := h162
        obtain ⟨s166, A166, n166, c166, rfl, z166⟩ := r165_0
        obtain ⟨s167, A167, n167, c167, rfl, z167⟩ := r165_1
        obtain rfl := r165_2
        have z166 := z166.ext f164
        have z167 := z167.ext f164
        refine deps_nil ?_
        exact ⟨.int .i64 0, rfl, rfl, fun _ => by kernel_rfl, rfl⟩
      · -- all
        intro v168 e169
        have hw2 : Ext w v168 := hw1.trans e169
        refine deps_cons rfl rfl fun x170 y171 h172 e173 f174 => ?_
        obtain rfl := h172
        refine deps_cons rfl rfl fun x175 y176 h177 e178 f179 => ?_
        obtain rfl := h177
        refine deps_cons rfl rfl fun x180 y181 h182 e183 f184 => ?_
        obtain rfl := h182
        refine deps_cons rfl rfl fun x185 y186 h187 e188 f189 => ?_
        obtain rfl := h187
        refine deps_cons rfl rfl fun x190 y191 h192 e193 f194 => ?_
        obtain rfl := h192
        refine deps_cons rfl rfl fun x195 y196 h197 e198 f199 => ?_
        obtain rfl := h197
        refine deps_cons rfl rfl fun x200 y201 h202 e203 f204 => ?_
        obtain rfl := h202
        refine deps_cons rfl rfl fun x205 y206 h207 e208 f209 => ?_
        obtain rfl := h207
        refine deps_cons rfl rfl fun x210 y211 h212 e213 f214 => ?_
        obtain rfl := h212
        refine deps_cons rfl rfl fun x215 y216 h217 e218 f219 => ?_
        obtain rfl := h217
        refine deps_cons rfl rfl fun x220 y221 h222 e223 f224 => ?_
        obtain ⟨a225_0, a225_1, a225_2, rfl, r225_0, r225_1, r225_2⟩ := h222
        obtain ⟨s226, A226, n226, c226, rfl, z226⟩ := r225_0
        obtain ⟨s227, A227, n227, c227, rfl, z227⟩ := r225_1
        obtain rfl := r225_2
        have z226 := z226.ext f224
        have z227 := z227.ext f224
        refine deps_cons rfl rfl fun x228 y229 h230 e231 f232 => ?_
        obtain ⟨a233_0, a233_1, a233_2, rfl, r233_0, r233_1, r233_2⟩ := h230
        obtain ⟨s234, A234, n234, c234, rfl, z234⟩ := r233_0
        obtain ⟨s235, A235, n235, c235, rfl, z235⟩ := r233_1
        obtain rfl := r233_2
        have z234 := z234.ext f232
        have z235 := z235.ext f232
        refine deps_cons rfl rfl fun x236 y237 h238 e239 f240 => ?_
        obtain ⟨s241, A241, n241, c241, rfl, z241⟩ := h238
        have z241 := z241.ext f240
        refine deps_cons rfl rfl fun x242 y243 h244 e245 f246 => ?_
        obtain ⟨s247, A247, n247, c247, rfl, z247⟩ := h244
        have z247 := z247.ext f246
        refine deps_cons rfl rfl fun x248 y249 h250 e251 f252 => ?_
        obtain rfl := h250
        refine deps_nil ?_
        have hb254 := (b_4.ext e169)
        refine wl_stored rfl rfl rfl aggInt rfl hb254 (Nat.le_of_ble_eq_true rfl) rfl [.bool s241, .slice A241 n241 c241] rfl fun v253 hb255 u256 hs257 => ?_
        have hw3 : Ext w v253 := u256.ext hw2 ge5
        have hb259 := ((b_5.ext e169).updN u256 (by omega))
        refine wl_stored rfl rfl rfl aggInt rfl hb259 (Nat.le_of_ble_eq_true rfl) rfl [.bool s247, .slice A247 n247 c247] rfl fun v258 hb260 u261 hs262 => ?_
        have hw4 : Ext w v258 := u261.ext hw3 ge10
        refine wl_assign rfl rfl (by decide) ?_
        refine wl_nil ?_
        refine eo_np ?_
        refine eo_then ?_
        refine cw_seq ?_
        refine cw_region ?_
        refine wl_move rfl rfl (by decide) ?_
        refine wl_cmp rfl rfl rfl false (by decide) (by decide) ?_
        refine wl_nil ?_
        refine eo_then ?_
        refine cw_false rfl ?_
        refine cw_skip ?_
        refine eo_block_normal ?_
        refine eo_then ?_
        refine cw_region ?_
        refine wl_ar rfl rfl rfl ((j + 1 : Nat) : Int) (ai_add (a := j) (b := 1) rfl rfl (by omega)) (by decide) ?_
        refine wl_move rfl rfl (by decide) ?_
        refine wl_nil ?_
        refine eo_round (⟨v258, j + 1, ⟨s241, A241, n241, c241⟩, ⟨s247, A247, n247, c247⟩⟩ : World × Nat × ZC × ZC) ⟨hw4, (by omega), (hb255.updN u261 (by omega)), hb260, (((z241.updT hb254 u256).updT hb259 u261)).cast (by rw [lcmL_succ (by rw [hm.len]; omega)]), (((z247.updT hb254 u256).updT hb259 u261)).cast (lcmL_succ (by rw [hm.len]; omega))⟩ (show n - (j + 1) < n - j by omega) rfl ⟨rfl, rfl, rfl, rfl, rfl, rfl, rfl, trivial⟩
    ·
      have hjn : j = n := by omega
      refine cw_region ?_
      refine wl_cmp rfl rfl rfl false (cb_lt_f (a := j) (b := n) rfl rfl (by omega)) (by decide) ?_
      refine wl_nil ?_
      refine eo_then ?_
      refine cw_seq ?_
      refine cw_false rfl ?_
      refine cw_exit ?_
      refine eo_thenX ?_
      refine eo_loopX ?_
      refine eo_block_here ?_
      refine eo_then ?_
      refine cw_seq ?_
      refine cw_keep [(0, .slice A n cap), (1, .slice B n cap2), (4, .pointer (some ⟨g1, 0, none⟩)), (5, .pointer (some ⟨g6, 0, none⟩)), (31, .int .i64 ((n : Nat) : Int)), (32, .int .i64 ((j : Nat) : Int)), (33, .bool false)] ⟨rfl, rfl, rfl, rfl, rfl, rfl, rfl, trivial⟩ ?_
      obtain ⟨v263, hv, e264⟩ : ∃ v, v = wq.drew ∧ Ext wq v := ⟨_, rfl, (Ext.refl _).drew⟩
      have hw2 : Ext w v263 := hw1.trans e264
      have hb266 := (b_4.ext e264)
      obtain ⟨v265, hr270, hb267, u268, hs269⟩ := run_stored (P := Try.prog) (us := [.bool kr.s, .slice kr.A kr.n kr.c]) (off := 0) aggInt rfl hb266 (Nat.le_of_ble_eq_true rfl) rfl [.bool kr.s, .slice kr.A kr.n kr.c] rfl
      have hw3 : Ext w v265 := u268.ext hw2 ge5
      have hb272 := ((b_5.ext e264).updN u268 (by omega))
      obtain ⟨v271, hr276, hb273, u274, hs275⟩ := run_stored (P := Try.prog) (us := [.bool km.s, .slice km.A km.n km.c]) (off := 0) aggInt rfl hb272 (Nat.le_of_ble_eq_true rfl) rfl [.bool km.s, .slice km.A km.n km.c] rfl
      have hw4 : Ext w v271 := u274.ext hw3 ge10
      refine cw_det mix (w := v263) [.agg #[.bool kr.s, .slice kr.A kr.n kr.c], .agg #[.bool km.s, .slice km.A km.n km.c], undef, undef, .int .i64 0] [v263, v265, v271] [2, 3] [[], [], [0], [1], []] [[], [], [0], [0, 1, 2], [0, 1, 2, 3]] [(0, 0), (1, 0), (1, 1), (2, 0), (3, 1), (4, 2)] rfl hv ?_ ?_
      ·
        refine dobs_val ([(0, .slice A n cap), (1, .slice B n cap2), (4, .pointer (some ⟨g1, 0, none⟩)), (5, .pointer (some ⟨g6, 0, none⟩)), (31, .int .i64 ((n : Nat) : Int)), (32, .int .i64 ((j : Nat) : Int)), (33, .bool false)]) rfl rfl rfl rfl rfl (rd_load rfl (load_agg aggInt (b_4.ext e264) [.bool kr.s, .slice kr.A kr.n kr.c] rfl (Nat.le_of_ble_eq_true rfl) rfl)) ?_
        refine dobs_val ([(0, .slice A n cap), (1, .slice B n cap2), (4, .pointer (some ⟨g1, 0, none⟩)), (5, .pointer (some ⟨g6, 0, none⟩)), (31, .int .i64 ((n : Nat) : Int)), (32, .int .i64 ((j : Nat) : Int)), (33, .bool false)]) rfl rfl rfl rfl rfl (rd_load rfl (load_agg aggInt (b_5.ext e264) [.bool km.s, .slice km.A km.n km.c] rfl (Nat.le_of_ble_eq_true rfl) rfl)) ?_
        refine dobs_val ([(0, .slice A n cap), (1, .slice B n cap2), (4, .pointer (some ⟨g1, 0, none⟩)), (5, .pointer (some ⟨g6, 0, none⟩)), (31, .int .i64 ((n : Nat) : Int)), (32, .int .i64 ((j : Nat) : Int)), (33, .bool false)]) rfl rfl rfl rfl rfl (rd_load rfl (load_agg aggInt ((b_5.ext e264).updN u268 (by omega)) [.bool km.s, .slice km.A km.n km.c] rfl (Nat.le_of_ble_eq_true rfl) rfl)) ?_
        refine dobs_sto ((56, .agg #[.bool kr.s, .slice kr.A kr.n kr.c]) :: [(0, .slice A n cap), (1, .slice B n cap2), (4, .pointer (some ⟨g1, 0, none⟩)), (5, .pointer (some ⟨g6, 0, none⟩)), (31, .int .i64 ((n : Nat) : Int)), (32, .int .i64 ((j : Nat) : Int)), (33, .bool false)]) rfl rfl rfl rfl rfl (rd_store rfl rfl hr270) ?_
        refine dobs_sto ((57, .agg #[.bool km.s, .slice km.A km.n km.c]) :: [(0, .slice A n cap), (1, .slice B n cap2), (4, .pointer (some ⟨g1, 0, none⟩)), (5, .pointer (some ⟨g6, 0, none⟩)), (31, .int .i64 ((n : Nat) : Int)), (32, .int .i64 ((j : Nat) : Int)), (33, .bool false)]) rfl rfl rfl rfl rfl (rd_store rfl rfl hr276) ?_
        refine dobs_val ([(0, .slice A n cap), (1, .slice B n cap2), (4, .pointer (some ⟨g1, 0, none⟩)), (5, .pointer (some ⟨g6, 0, none⟩)), (31, .int .i64 ((n : Nat) : Int)), (32, .int .i64 ((j : Nat) : Int)), (33, .bool false)]) rfl rfl rfl rfl rfl (rd_assign rfl) ?_
        exact dobs_nil
      clear hv
      refine eo_keep [(0, .slice A n cap), (1, .slice B n cap2), (4, .pointer (some ⟨g1, 0, none⟩)), (5, .pointer (some ⟨g6, 0, none⟩)), (31, .int .i64 ((n : Nat) : Int)), (32, .int .i64 ((j : Nat) : Int)), (33, .bool false), (56, .agg #[.bool kr.s, .slice kr.A kr.n kr.c]), (57, .agg #[.bool km.s, .slice km.A km.n km.c]), (6, .int .i64 0)] ⟨rfl, rfl, rfl, rfl, rfl, rfl, rfl, rfl, rfl, rfl, trivial⟩ ?_
      refine eo_then ?_
      refine cw_ret ?_
      refine eo_ret [.agg #[.bool kr.s, .slice kr.A kr.n kr.c], .agg #[.bool km.s, .slice km.A km.n km.c], .int .i64 0] rfl ⟨⟨_, rfl, load_agg aggInt (hb267.updN u274 (by omega)) [.bool kr.s, .slice kr.A kr.n kr.c] rfl (Nat.le_of_ble_eq_true rfl) rfl⟩, ⟨_, rfl, load_agg aggInt hb273 [.bool km.s, .slice km.A km.n km.c] rfl (Nat.le_of_ble_eq_true rfl) rfl⟩, rfl, trivial⟩ ?_
      have hfull : ms.take j = ms := by rw [hjn, zl_full hm]
      exact ⟨_, rfl, ⟨_, _, _, rfl, ⟨_, _, _, _, rfl, (((((zr.ext e264).updT hb266 u268).updT hb272 u274)).cast (by rw [hfull])).mono hb⟩, ⟨_, _, _, _, rfl, (((((zm.ext e264).updT hb266 u268).updT hb272 u274)).cast (by rw [hfull])).mono hb⟩, rfl⟩, hw4⟩
end Go.Proofs.Ytmaconeeonkdgaa

namespace Go.Proofs.Ytmaconeeonkdgaa
open Go.RowKit
theorem zl_two {w : World} {g : Nat} {sa sb : Bool} {Aa Ab : Option Addr} {na ca nb cb : Nat} {x y : Int} (h : Bk w g 27 [.bool sa, .slice Aa na ca, .bool sb, .slice Ab nb cb]) (hx : Zi w sa Aa na ca x) (hy : Zi w sb Ab nb cb y) : Zl w (some ⟨g, 0, none⟩) 2 2 [x, y] [na, nb] := by
  refine ⟨rfl, rfl, Nat.le_refl _, by decide, fun i hi => ?_⟩
  match i, hi with
  | 0, _ =>
    refine ⟨⟨g, 0, none⟩, sa, Aa, ca, rfl, ?_, ?_, hx⟩
    · rw [add_lit0]; exact h.cell (i := 0) (Nat.le_of_ble_eq_true rfl)
    · rw [add_lit0]; exact h.cell (i := 1) (Nat.le_of_ble_eq_true rfl)
  | 1, _ =>
    refine ⟨⟨g, 0, none⟩, sb, Ab, cb, rfl, ?_, ?_, hy⟩
    · rw [add_lit0]; exact h.cell (i := 2) (Nat.le_of_ble_eq_true rfl)
    · rw [add_lit0]; exact h.cell (i := 3) (Nat.le_of_ble_eq_true rfl)
theorem lcmL_two (m n : Int) : lcmL [m, n] = (Int.lcm m n : Int) := by
  show ((Int.lcm (Int.lcm 1 m : Int) n : Nat) : Int) = _
  rw [Int.lcm_assoc, Int.one_lcm, Int.natAbs_natCast]
theorem two_lt {p : Nat → Prop} (h0 : p 0) (h1 : p 1) : ∀ i, i < 2 → p i
  | 0, _ => h0
  | 1, _ => h1
theorem two_le {a b k : Nat} (ha : a ≤ k) (hb : b ≤ k) : ∀ i, [a, b].getD i 0 ≤ k
  | 0 => ha
  | 1 => hb
  | _ + 2 => Nat.zero_le _
theorem two_sum {m n : Int} {k : Nat} (h : ln m + ln n ≤ k) : (([m, n] : List Int).map Go.Proofs.Ytmaconeeonkdgaa.ln).sum ≤ k := by
  simp only [List.map_cons, List.map_nil, List.sum_cons, List.sum_nil]; omega
theorem two_none {x m y n : Int} (hd : ¬ (Int.gcd m n : Int) ∣ y - x) : ¬ ∃ s, ∀ i, i < 2 → ([m, n] : List Int).getD i 0 ∣ ([x, y] : List Int).getD i 0 - s := by
  rintro ⟨s, h⟩
  exact hd (crt_dvd (h 0 (by decide)) (h 1 (by decide)))
theorem emod_inM {a z : Int} (h : z ≠ 0) : 0 ≤ a % z ∧ a % z < z.natAbs := ⟨Int.emod_nonneg _ h, by have := Int.emod_lt a h; omega⟩
theorem crt_b {l m x s : Int} (h : m ∣ l) (d : m ∣ x - s) : m ∣ s % l - x := by
  have h1 := Int.dvd_trans h (dvd_emod_sub s l)
  have e : s % l - x = (s % l - s) - (x - s) := by omega
  rw [e]; exact Int.dvd_sub h1 d
set_option maxHeartbeats 8000000 in
set_option maxRecDepth 20000 in
theorem law_BezoutMeets {w : World} {sa : Bool} {Aa : Option Addr} {na ca : Nat} {x : Int} {sb : Bool} {Ab : Option Addr} {nb cb : Nat} {m : Int} {sf : Bool} {Af : Option Addr} {nf cf : Nat} {y : Int} {sd : Bool} {Ad : Option Addr} {nd cd : Nat} {n : Int} (hx : Zi w sa Aa na ca x) (la : na ≤ 1048576) (hm : Zi w sb Ab nb cb m) (lb : nb ≤ 1048576) (hy : Zi w sf Af nf cf y) (lf : nf ≤ 1048576) (hn : Zi w sd Ad nd cd n) (ld : nd ≤ 1048576) (lsum : nb + nd ≤ 1048576) :
    Calls Try.prog 10 #[.agg #[.bool sa, .slice Aa na ca, .bool sb, .slice Ab nb cb, .bool sf, .slice Af nf cf, .bool sd, .slice Ad nd cd]] w (BoolP true w) := by
  have Lx : ln x ≤ 1048576 := Nat.le_trans hx.ln la
  have Lm : ln m ≤ 1048576 := Nat.le_trans hm.ln lb
  have Ly : ln y ≤ 1048576 := Nat.le_trans hy.ln lf
  have Ln : ln n ≤ 1048576 := Nat.le_trans hn.ln ld
  have hlnm := hm.ln
  have hlnn := hn.ln
  refine sx_enter Try.func10 rfl (n := 140) rfl (Nat.le_of_ble_eq_true rfl) (args := [.agg #[.bool sa, .slice Aa na ca, .bool sb, .slice Ab nb cb, .bool sf, .slice Af nf cf, .bool sd, .slice Ad nd cd]]) ?_
  refine cw_keep [(0, .agg #[.bool sa, .slice Aa na ca, .bool sb, .slice Ab nb cb, .bool sf, .slice Af nf cf, .bool sd, .slice Ad nd cd])] ⟨rfl, trivial⟩ ?_
  refine cw_seq ?_
  refine cw_region ?_
  refine wl_box rfl rfl (vs := [.bool sa, .slice Aa na ca, .bool sb, .slice Ab nb cb, .bool sf, .slice Af nf cf, .bool sd, .slice Ad nd cd]) rfl (by decide) fun g1 v2 nb => ?_
  have hb4 := nb.bk
  have ge5 : w.heap.size ≤ g1 := by rw [← nb.at_]; exact (Ext.refl w).size
  have e3 := nb.ext
  clear nb
  have hw1 : Ext w v2 := (Ext.refl w).trans e3
  refine wl_assign rfl rfl (by decide) ?_
  refine wl_nil ?_
  refine eo_then ?_
  refine cw_seq ?_
  refine cw_seq ?_
  refine cw_region ?_
  refine wl_call rfl rfl (vs := []) (by kernel_rfl) (by decide) (g_law6_wakes _) ?_
  rintro _ v6 ⟨xr8, rfl, r8, e7⟩
  refine ret_intro ?_
  have hw2 : Ext w v6 := hw1.trans e7
  obtain rfl := r8
  refine wl_pure rfl rfl (v := .bool false) (by decide) (by kernel_rfl) ?_
  refine wl_nil ?_
  refine eo_then ?_
  refine cw_false rfl ?_
  refine cw_skip ?_
  refine eo_then ?_
  refine cw_seq ?_
  refine cw_region ?_
  refine wl_pure rfl rfl (v := .pointer (some ⟨g1, 0, none⟩)) (by decide) (by kernel_rfl) ?_
  refine wl_load rfl rfl (load_agg aggInt (hb4.ext e7) [.bool sa, .slice Aa na ca] rfl (Nat.le_of_ble_eq_true rfl) rfl) (by decide) ?_
  refine wl_alloc rfl (z := .agg #[.bool false, .slice none 0 0]) (vs := [.bool false, .slice none 0 0]) (fun _ => by kernel_rfl) rfl (by decide) fun g9 v10 nb => ?_
  have hb12 := nb.bk
  have ge13 : w.heap.size ≤ g9 := by rw [← nb.at_]; exact hw2.size
  have q14 : g1 < g9 := by rw [← nb.at_]; exact (hb4.ext e7).lt
  have e11 := nb.ext
  clear nb
  have hw3 : Ext w v10 := hw2.trans e11
  have hb16 := hb12
  refine wl_stored rfl rfl rfl aggInt rfl hb16 (Nat.le_of_ble_eq_true rfl) rfl [.bool sa, .slice Aa na ca] rfl fun v15 hb17 u18 hs19 => ?_
  have hw4 : Ext w v15 := u18.ext hw3 ge13
  refine wl_nil ?_
  refine eo_then ?_
  refine cw_seq ?_
  refine cw_region ?_
  refine wl_pure rfl rfl (v := .pointer (some ⟨g1, 2, none⟩)) (by decide) (by kernel_rfl) ?_
  refine wl_load rfl rfl (load_agg aggInt ((hb4.ext (e7.trans e11)).updN u18 (by omega)) [.bool sb, .slice Ab nb cb] rfl (Nat.le_of_ble_eq_true rfl) rfl) (by decide) ?_
  refine wl_alloc rfl (z := .agg #[.bool false, .slice none 0 0]) (vs := [.bool false, .slice none 0 0]) (fun _ => by kernel_rfl) rfl (by decide) fun g20 v21 nb => ?_
  have hb23 := nb.bk
  have ge24 : w.heap.size ≤ g20 := by rw [← nb.at_]; exact hw4.size
  have q25 : g9 < g20 := by rw [← nb.at_]; exact hb17.lt
  have e22 := nb.ext
  clear nb
  have hw5 : Ext w v21 := hw4.trans e22
  have hb27 := hb23
  refine wl_stored rfl rfl rfl aggInt rfl hb27 (Nat.le_of_ble_eq_true rfl) rfl [.bool sb, .slice Ab nb cb] rfl fun v26 hb28 u29 hs30 => ?_
  have hw6 : Ext w v26 := u29.ext hw5 ge24
  refine wl_nil ?_
  refine eo_then ?_
  refine cw_seq ?_
  refine cw_region ?_
  refine wl_pure rfl rfl (v := .pointer (some ⟨g1, 4, none⟩)) (by decide) (by kernel_rfl) ?_
  refine wl_load rfl rfl (load_agg aggInt ((((hb4.ext (e7.trans e11)).updN u18 (by omega)).ext e22).updN u29 (by omega)) [.bool sf, .slice Af nf cf] rfl (Nat.le_of_ble_eq_true rfl) rfl) (by decide) ?_
  refine wl_alloc rfl (z := .agg #[.bool false, .slice none 0 0]) (vs := [.bool false, .slice none 0 0]) (fun _ => by kernel_rfl) rfl (by decide) fun g31 v32 nb => ?_
  have hb34 := nb.bk
  have ge35 : w.heap.size ≤ g31 := by rw [← nb.at_]; exact hw6.size
  have q36 : g20 < g31 := by rw [← nb.at_]; exact hb28.lt
  have e33 := nb.ext
  clear nb
  have hw7 : Ext w v32 := hw6.trans e33
  have hb38 := hb34
  refine wl_stored rfl rfl rfl aggInt rfl hb38 (Nat.le_of_ble_eq_true rfl) rfl [.bool sf, .slice Af nf cf] rfl fun v37 hb39 u40 hs41 => ?_
  have hw8 : Ext w v37 := u40.ext hw7 ge35
  refine wl_nil ?_
  refine eo_then ?_
  refine cw_seq ?_
  refine cw_region ?_
  refine wl_pure rfl rfl (v := .pointer (some ⟨g1, 6, none⟩)) (by decide) (by kernel_rfl) ?_
  refine wl_load rfl rfl (load_agg aggInt ((((((hb4.ext (e7.trans e11)).updN u18 (by omega)).ext e22).updN u29 (by omega)).ext e33).updN u40 (by omega)) [.bool sd, .slice Ad nd cd] rfl (Nat.le_of_ble_eq_true rfl) rfl) (by decide) ?_
  refine wl_alloc rfl (z := .agg #[.bool false, .slice none 0 0]) (vs := [.bool false, .slice none 0 0]) (fun _ => by kernel_rfl) rfl (by decide) fun g42 v43 nb => ?_
  have hb45 := nb.bk
  have ge46 : w.heap.size ≤ g42 := by rw [← nb.at_]; exact hw8.size
  have q47 : g31 < g42 := by rw [← nb.at_]; exact hb39.lt
  have e44 := nb.ext
  clear nb
  have hw9 : Ext w v43 := hw8.trans e44
  have hb49 := hb45
  refine wl_stored rfl rfl rfl aggInt rfl hb49 (Nat.le_of_ble_eq_true rfl) rfl [.bool sd, .slice Ad nd cd] rfl fun v48 hb50 u51 hs52 => ?_
  have hw10 : Ext w v48 := u51.ext hw9 ge46
  refine wl_nil ?_
  refine eo_then ?_
  refine cw_seq ?_
  by_cases hm0 : m = 0
  ·
    refine cw_region ?_
    refine wl_load rfl rfl (load_agg aggInt ((((((hb17.ext e22).updN u29 (by omega)).ext e33).updN u40 (by omega)).ext e44).updN u51 (by omega)) [.bool sa, .slice Aa na ca] rfl (Nat.le_of_ble_eq_true rfl) rfl) (by decide) ?_
    refine wl_load rfl rfl (load_agg aggInt ((((hb28.ext e33).updN u40 (by omega)).ext e44).updN u51 (by omega)) [.bool sb, .slice Ab nb cb] rfl (Nat.le_of_ble_eq_true rfl) rfl) (by decide) ?_
    refine wl_load rfl rfl (load_agg aggInt ((hb39.ext e44).updN u51 (by omega)) [.bool sf, .slice Af nf cf] rfl (Nat.le_of_ble_eq_true rfl) rfl) (by decide) ?_
    refine wl_load rfl rfl (load_agg aggInt hb50 [.bool sd, .slice Ad nd cd] rfl (Nat.le_of_ble_eq_true rfl) rfl) (by decide) ?_
    refine wl_call rfl rfl (vs := [.agg #[.bool sa, .slice Aa na ca], .agg #[.bool sb, .slice Ab nb cb], .agg #[.bool sf, .slice Af nf cf], .agg #[.bool sd, .slice Ad nd cd]]) (by kernel_rfl) (by decide) (g_bezout_Crt_zero hw10.size (hx.ext hw10) (Nat.le_trans la (by decide)) (hm.ext hw10) (Nat.le_trans lb (by decide)) (hy.ext hw10) (Nat.le_trans lf (by decide)) (hn.ext hw10) (Nat.le_trans ld (by decide)) (Or.inl hm0)) ?_
    rintro _ v53 ⟨xr55, rfl, r55, e54⟩
    refine ret_intro ?_
    have hw11 : Ext w v53 := hw10.trans e54
    obtain ⟨a56_0, a56_1, a56_2, rfl, r56_0, r56_1, r56_2⟩ := r55
    obtain ⟨s57, A57, n57, c57, rfl, z57⟩ := r56_0
    obtain ⟨s58, A58, n58, c58, rfl, z58⟩ := r56_1
    obtain rfl := r56_2
    refine wl_move rfl rfl (by decide) ?_
    refine wl_pure rfl rfl (v := .agg #[.bool s57, .slice A57 n57 c57]) (by decide) (by kernel_rfl) ?_
    refine wl_pure rfl rfl (v := .agg #[.bool s58, .slice A58 n58 c58]) (by decide) (by kernel_rfl) ?_
    refine wl_pure rfl rfl (v := .int .i64 4) (by decide) (by kernel_rfl) ?_
    refine wl_alloc rfl (z := .agg #[.bool false, .slice none 0 0]) (vs := [.bool false, .slice none 0 0]) (fun _ => by kernel_rfl) rfl (by decide) fun g59 v60 nb => ?_
    have hb62 := nb.bk
    have ge63 : w.heap.size ≤ g59 := by rw [← nb.at_]; exact hw11.size
    have q64 : g42 < g59 := by rw [← nb.at_]; exact (hb50.ext e54).lt
    have e61 := nb.ext
    clear nb
    have hw12 : Ext w v60 := hw11.trans e61
    refine wl_alloc rfl (z := .agg #[.bool false, .slice none 0 0]) (vs := [.bool false, .slice none 0 0]) (fun _ => by kernel_rfl) rfl (by decide) fun g65 v66 nb => ?_
    have hb68 := nb.bk
    have ge69 : w.heap.size ≤ g65 := by rw [← nb.at_]; exact hw12.size
    have q70 : g59 < g65 := by rw [← nb.at_]; exact hb62.lt
    have e67 := nb.ext
    clear nb
    have hw13 : Ext w v66 := hw12.trans e67
    have hb72 := (hb62.ext e67)
    refine wl_stored rfl rfl rfl aggInt rfl hb72 (Nat.le_of_ble_eq_true rfl) rfl [.bool s57, .slice A57 n57 c57] rfl fun v71 hb73 u74 hs75 => ?_
    have hw14 : Ext w v71 := u74.ext hw13 ge63
    have hb77 := (hb68.updN u74 (by omega))
    refine wl_stored rfl rfl rfl aggInt rfl hb77 (Nat.le_of_ble_eq_true rfl) rfl [.bool s58, .slice A58 n58 c58] rfl fun v76 hb78 u79 hs80 => ?_
    have hw15 : Ext w v76 := u79.ext hw14 ge69
    refine wl_assign rfl rfl (by decide) ?_
    refine wl_nil ?_
    refine eo_then ?_
    refine cw_seq ?_
    refine cw_region ?_
    refine wl_load rfl rfl (load_agg aggInt (((((((((hb17.ext e22).updN u29 (by omega)).ext e33).updN u40 (by omega)).ext e44).updN u51 (by omega)).ext (e54.trans (e61.trans e67))).updN u74 (by omega)).updN u79 (by omega)) [.bool sa, .slice Aa na ca] rfl (Nat.le_of_ble_eq_true rfl) rfl) (by decide) ?_
    refine wl_load rfl rfl (load_agg aggInt (((((hb39.ext e44).updN u51 (by omega)).ext (e54.trans (e61.trans e67))).updN u74 (by omega)).updN u79 (by omega)) [.bool sf, .slice Af nf cf] rfl (Nat.le_of_ble_eq_true rfl) rfl) (by decide) ?_
    refine wl_bslice rfl rfl (by decide) (k := 2) (e := 27) [.bool sa, .slice Aa na ca, .bool sf, .slice Af nf cf] (fun _ => by kernel_rfl) fun g81 v82 nb => ?_
    have hb84 := nb.bk
    have ge85 : w.heap.size ≤ g81 := by rw [← nb.at_]; exact hw15.size
    have q86 : g65 < g81 := by rw [← nb.at_]; exact hb78.lt
    have e83 := nb.ext
    clear nb
    have hw16 : Ext w v82 := hw15.trans e83
    refine wl_load rfl rfl (load_agg aggInt ((((((((hb28.ext e33).updN u40 (by omega)).ext e44).updN u51 (by omega)).ext (e54.trans (e61.trans e67))).updN u74 (by omega)).updN u79 (by omega)).ext e83) [.bool sb, .slice Ab nb cb] rfl (Nat.le_of_ble_eq_true rfl) rfl) (by decide) ?_
    refine wl_load rfl rfl (load_agg aggInt ((((hb50.ext (e54.trans (e61.trans e67))).updN u74 (by omega)).updN u79 (by omega)).ext e83) [.bool sd, .slice Ad nd cd] rfl (Nat.le_of_ble_eq_true rfl) rfl) (by decide) ?_
    refine wl_bslice rfl rfl (by decide) (k := 2) (e := 27) [.bool sb, .slice Ab nb cb, .bool sd, .slice Ad nd cd] (fun _ => by kernel_rfl) fun g87 v88 nb => ?_
    have hb90 := nb.bk
    have ge91 : w.heap.size ≤ g87 := by rw [← nb.at_]; exact hw16.size
    have q92 : g81 < g87 := by rw [← nb.at_]; exact hb84.lt
    have e89 := nb.ext
    clear nb
    have hw17 : Ext w v88 := hw16.trans e89
    refine wl_call rfl rfl (vs := [.slice (some ⟨g81, 0, none⟩) 2 2, .slice (some ⟨g87, 0, none⟩) 2 2]) (by kernel_rfl) (by decide) (g_bezout_CrtAll_zero hw17.size (zl_two (hb84.ext e89) (hx.ext hw17) (hy.ext hw17)) (zl_two hb90 (hm.ext hw17) (hn.ext hw17)) (by decide) (two_le (Nat.le_trans la (by decide)) (Nat.le_trans lf (by decide))) (two_le (Nat.le_trans lb (by decide)) (Nat.le_trans ld (by decide))) (two_sum (by omega)) (i0 := 0) ⟨by decide, hm0⟩) ?_
    rintro _ v93 ⟨xr95, rfl, r95, e94⟩
    refine ret_intro ?_
    have hw18 : Ext w v93 := hw17.trans e94
    obtain ⟨a96_0, a96_1, a96_2, rfl, r96_0, r96_1, r96_2⟩ := r95
    obtain ⟨s97, A97, n97, c97, rfl, z97⟩ := r96_0
    obtain ⟨s98, A98, n98, c98, rfl, z98⟩ := r96_1
    obtain rfl := r96_2
    refine wl_move rfl rfl (by decide) ?_
    refine wl_pure rfl rfl (v := .agg #[.bool s97, .slice A97 n97 c97]) (by decide) (by kernel_rfl) ?_
    refine wl_pure rfl rfl (v := .agg #[.bool s98, .slice A98 n98 c98]) (by decide) (by kernel_rfl) ?_
    refine wl_pure rfl rfl (v := .int .i64 4) (by decide) (by kernel_rfl) ?_
    refine wl_alloc rfl (z := .agg #[.bool false, .slice none 0 0]) (vs := [.bool false, .slice none 0 0]) (fun _ => by kernel_rfl) rfl (by decide) fun g99 v100 nb => ?_
    have hb102 := nb.bk
    have ge103 : w.heap.size ≤ g99 := by rw [← nb.at_]; exact hw18.size
    have q104 : g87 < g99 := by rw [← nb.at_]; exact (hb90.ext e94).lt
    have e101 := nb.ext
    clear nb
    have hw19 : Ext w v100 := hw18.trans e101
    refine wl_alloc rfl (z := .agg #[.bool false, .slice none 0 0]) (vs := [.bool false, .slice none 0 0]) (fun _ => by kernel_rfl) rfl (by decide) fun g105 v106 nb => ?_
    have hb108 := nb.bk
    have ge109 : w.heap.size ≤ g105 := by rw [← nb.at_]; exact hw19.size
    have q110 : g99 < g105 := by rw [← nb.at_]; exact hb102.lt
    have e107 := nb.ext
    clear nb
    have hw20 : Ext w v106 := hw19.trans e107
    have hb112 := (hb102.ext e107)
    refine wl_stored rfl rfl rfl aggInt rfl hb112 (Nat.le_of_ble_eq_true rfl) rfl [.bool s97, .slice A97 n97 c97] rfl fun v111 hb113 u114 hs115 => ?_
    have hw21 : Ext w v111 := u114.ext hw20 ge103
    have hb117 := (hb108.updN u114 (by omega))
    refine wl_stored rfl rfl rfl aggInt rfl hb117 (Nat.le_of_ble_eq_true rfl) rfl [.bool s98, .slice A98 n98 c98] rfl fun v116 hb118 u119 hs120 => ?_
    have hw22 : Ext w v116 := u119.ext hw21 ge109
    refine wl_assign rfl rfl (by decide) ?_
    refine wl_nil ?_
    refine eo_then ?_
    refine cw_seq ?_
    refine cw_seq ?_
    refine cw_region ?_
    refine wl_load rfl rfl (load_agg aggInt ((((hb73.updN u79 (by omega)).ext (e83.trans (e89.trans (e94.trans (e101.trans e107))))).updN u114 (by omega)).updN u119 (by omega)) [.bool s57, .slice A57 n57 c57] rfl (Nat.le_of_ble_eq_true rfl) rfl) (by decide) ?_
    refine wl_load rfl rfl (load_agg aggInt (hb113.updN u119 (by omega)) [.bool s97, .slice A97 n97 c97] rfl (Nat.le_of_ble_eq_true rfl) rfl) (by decide) ?_
    refine wl_call rfl rfl (vs := [.agg #[.bool s57, .slice A57 n57 c57], .agg #[.bool s97, .slice A97 n97 c97]]) (by kernel_rfl) (by decide) (g_law6_alike ((((((z57.ext (e61.trans e67)).updT hb72 u74).updT hb77 u79).ext (e83.trans (e89.trans (e94.trans (e101.trans e107))))).updT hb112 u114).updT hb117 u119) (z57.le (Nat.le_trans (show ln 0 ≤ 0 by decide) (by decide))) (((z97.ext (e101.trans e107)).updT hb112 u114).updT hb117 u119) (z97.le (Nat.le_trans (show ln 0 ≤ 0 by decide) (by decide)))) ?_
    rintro _ v121 ⟨xr123, rfl, r123, e122⟩
    refine ret_intro ?_
    have hw23 : Ext w v121 := hw22.trans e122
    obtain rfl := r123
    refine wl_pure rfl rfl (v := .bool false) (by decide) (by kernel_rfl) ?_
    refine wl_move rfl rfl (by decide) ?_
    refine wl_load rfl rfl (load_agg aggInt ((((hb78.ext (e83.trans (e89.trans (e94.trans (e101.trans e107))))).updN u114 (by omega)).updN u119 (by omega)).ext e122) [.bool s58, .slice A58 n58 c58] rfl (Nat.le_of_ble_eq_true rfl) rfl) (by decide) ?_
    refine wl_load rfl rfl (load_agg aggInt (hb118.ext e122) [.bool s98, .slice A98 n98 c98] rfl (Nat.le_of_ble_eq_true rfl) rfl) (by decide) ?_
    refine wl_call rfl rfl (vs := [.agg #[.bool s58, .slice A58 n58 c58], .agg #[.bool s98, .slice A98 n98 c98]]) (by kernel_rfl) (by decide) (g_law6_alike (((((((z58.ext (e61.trans e67)).updT hb72 u74).updT hb77 u79).ext (e83.trans (e89.trans (e94.trans (e101.trans e107))))).updT hb112 u114).updT hb117 u119).ext e122) (z58.le (Nat.le_trans (show ln 0 ≤ 0 by decide) (by decide))) ((((z98.ext (e101.trans e107)).updT hb112 u114).updT hb117 u119).ext e122) (z98.le (Nat.le_trans (show ln 0 ≤ 0 by decide) (by decide)))) ?_
    rintro _ v124 ⟨xr126, rfl, r126, e125⟩
    refine ret_intro ?_
    have hw24 : Ext w v124 := hw23.trans e125
    obtain rfl := r126
    refine wl_pure rfl rfl (v := .bool false) (by decide) (by kernel_rfl) ?_
    refine wl_pure rfl rfl (v := .bool false) (by decide) (by kernel_rfl) ?_
    refine wl_move rfl rfl (by decide) ?_
    refine wl_move rfl rfl (by decide) ?_
    refine wl_move rfl rfl (by decide) ?_
    refine wl_cmp rfl rfl rfl false (by decide) (by decide) ?_
    refine wl_pure rfl rfl (v := .bool false) (by decide) (by kernel_rfl) ?_
    refine wl_nil ?_
    refine eo_then ?_
    refine cw_false rfl ?_
    refine cw_skip ?_
    refine eo_then ?_
    refine cw_seq ?_
    refine cw_seq ?_
    refine cw_region ?_
    refine wl_load rfl rfl (load_agg aggInt (((((((((((hb28.ext e33).updN u40 (by omega)).ext e44).updN u51 (by omega)).ext (e54.trans (e61.trans e67))).updN u74 (by omega)).updN u79 (by omega)).ext (e83.trans (e89.trans (e94.trans (e101.trans e107))))).updN u114 (by omega)).updN u119 (by omega)).ext (e122.trans e125)) [.bool sb, .slice Ab nb cb] rfl (Nat.le_of_ble_eq_true rfl) rfl) (by decide) ?_
    refine wl_call rfl rfl (vs := [.agg #[.bool sb, .slice Ab nb cb]]) (by kernel_rfl) (by decide) (g_ref5_Sign (hm.ext hw24) (Nat.le_trans lb (by decide))) ?_
    rintro _ v127 ⟨xr129, rfl, r129, e128⟩
    refine ret_intro ?_
    have hw25 : Ext w v127 := hw24.trans e128
    obtain rfl := r129
    refine wl_cmp rfl rfl rfl true (scmp_eq_t hm0) (by decide) ?_
    refine wl_move rfl rfl (by decide) ?_
    refine wl_off rfl (by decide) ?_
    refine wl_off rfl (by decide) ?_
    refine wl_off rfl (by decide) ?_
    refine wl_pure rfl rfl (v := .bool true) (by decide) (by kernel_rfl) ?_
    refine wl_nil ?_
    refine eo_then ?_
    refine cw_true rfl ?_
    refine cw_seq ?_
    refine cw_region ?_
    refine wl_move rfl rfl (by decide) ?_
    refine wl_cmp rfl rfl rfl true (by decide) (by decide) ?_
    refine wl_move rfl rfl (by decide) ?_
    refine wl_load rfl rfl (load_agg aggInt (((((hb73.updN u79 (by omega)).ext (e83.trans (e89.trans (e94.trans (e101.trans e107))))).updN u114 (by omega)).updN u119 (by omega)).ext (e122.trans (e125.trans e128))) [.bool s57, .slice A57 n57 c57] rfl (Nat.le_of_ble_eq_true rfl) rfl) (by decide) ?_
    refine wl_pure rfl rfl (v := .agg #[.bool false, .slice none 0 0]) (by decide) (by kernel_rfl) ?_
    refine wl_call rfl rfl (vs := [.agg #[.bool s57, .slice A57 n57 c57], .agg #[.bool false, .slice none 0 0]]) (by kernel_rfl) (by decide) (g_law6_alike (((((((z57.ext (e61.trans e67)).updT hb72 u74).updT hb77 u79).ext (e83.trans (e89.trans (e94.trans (e101.trans e107))))).updT hb112 u114).updT hb117 u119).ext (e122.trans (e125.trans e128))) (z57.le (Nat.le_trans (show ln 0 ≤ 0 by decide) (by decide))) (Zr.zero (w := v127) (base := w.heap.size)) ((Zr.zero (w := v127) (base := w.heap.size)).le (Nat.le_trans (by decide : ln 0 ≤ 0) (by decide)))) ?_
    rintro _ v130 ⟨xr132, rfl, r132, e131⟩
    refine ret_intro ?_
    have hw26 : Ext w v130 := hw25.trans e131
    obtain rfl := r132
    refine wl_pure rfl rfl (v := .bool true) (by decide) (by kernel_rfl) ?_
    refine wl_move rfl rfl (by decide) ?_
    refine wl_load rfl rfl (load_agg aggInt ((((hb78.ext (e83.trans (e89.trans (e94.trans (e101.trans e107))))).updN u114 (by omega)).updN u119 (by omega)).ext (e122.trans (e125.trans (e128.trans e131)))) [.bool s58, .slice A58 n58 c58] rfl (Nat.le_of_ble_eq_true rfl) rfl) (by decide) ?_
    refine wl_pure rfl rfl (v := .agg #[.bool false, .slice none 0 0]) (by decide) (by kernel_rfl) ?_
    refine wl_call rfl rfl (vs := [.agg #[.bool s58, .slice A58 n58 c58], .agg #[.bool false, .slice none 0 0]]) (by kernel_rfl) (by decide) (g_law6_alike (((((((z58.ext (e61.trans e67)).updT hb72 u74).updT hb77 u79).ext (e83.trans (e89.trans (e94.trans (e101.trans e107))))).updT hb112 u114).updT hb117 u119).ext (e122.trans (e125.trans (e128.trans e131)))) (z58.le (Nat.le_trans (show ln 0 ≤ 0 by decide) (by decide))) (Zr.zero (w := v130) (base := w.heap.size)) ((Zr.zero (w := v130) (base := w.heap.size)).le (Nat.le_trans (by decide : ln 0 ≤ 0) (by decide)))) ?_
    rintro _ v133 ⟨xr135, rfl, r135, e134⟩
    refine ret_intro ?_
    have hw27 : Ext w v133 := hw26.trans e134
    obtain rfl := r135
    refine wl_pure rfl rfl (v := .bool true) (by decide) (by kernel_rfl) ?_
    refine wl_assign rfl rfl (by decide) ?_
    refine wl_nil ?_
    refine eo_then ?_
    refine cw_ret ?_
    refine eo_thenR ?_
    refine eo_ret [.bool true] rfl ⟨rfl, trivial⟩ ?_
    exact bool_of _ _ ⟨_, rfl, rfl, hw27⟩
  ·
    by_cases hn0 : n = 0
    ·
      refine cw_region ?_
      refine wl_load rfl rfl (load_agg aggInt ((((((hb17.ext e22).updN u29 (by omega)).ext e33).updN u40 (by omega)).ext e44).updN u51 (by omega)) [.bool sa, .slice Aa na ca] rfl (Nat.le_of_ble_eq_true rfl) rfl) (by decide) ?_
      refine wl_load rfl rfl (load_agg aggInt ((((hb28.ext e33).updN u40 (by omega)).ext e44).updN u51 (by omega)) [.bool sb, .slice Ab nb cb] rfl (Nat.le_of_ble_eq_true rfl) rfl) (by decide) ?_
      refine wl_load rfl rfl (load_agg aggInt ((hb39.ext e44).updN u51 (by omega)) [.bool sf, .slice Af nf cf] rfl (Nat.le_of_ble_eq_true rfl) rfl) (by decide) ?_
      refine wl_load rfl rfl (load_agg aggInt hb50 [.bool sd, .slice Ad nd cd] rfl (Nat.le_of_ble_eq_true rfl) rfl) (by decide) ?_
      refine wl_call rfl rfl (vs := [.agg #[.bool sa, .slice Aa na ca], .agg #[.bool sb, .slice Ab nb cb], .agg #[.bool sf, .slice Af nf cf], .agg #[.bool sd, .slice Ad nd cd]]) (by kernel_rfl) (by decide) (g_bezout_Crt_zero hw10.size (hx.ext hw10) (Nat.le_trans la (by decide)) (hm.ext hw10) (Nat.le_trans lb (by decide)) (hy.ext hw10) (Nat.le_trans lf (by decide)) (hn.ext hw10) (Nat.le_trans ld (by decide)) (Or.inr hn0)) ?_
      rintro _ v136 ⟨xr138, rfl, r138, e137⟩
      refine ret_intro ?_
      have hw11 : Ext w v136 := hw10.trans e137
      obtain ⟨a139_0, a139_1, a139_2, rfl, r139_0, r139_1, r139_2⟩ := r138
      obtain ⟨s140, A140, n140, c140, rfl, z140⟩ := r139_0
      obtain ⟨s141, A141, n141, c141, rfl, z141⟩ := r139_1
      obtain rfl := r139_2
      refine wl_move rfl rfl (by decide) ?_
      refine wl_pure rfl rfl (v := .agg #[.bool s140, .slice A140 n140 c140]) (by decide) (by kernel_rfl) ?_
      refine wl_pure rfl rfl (v := .agg #[.bool s141, .slice A141 n141 c141]) (by decide) (by kernel_rfl) ?_
      refine wl_pure rfl rfl (v := .int .i64 4) (by decide) (by kernel_rfl) ?_
      refine wl_alloc rfl (z := .agg #[.bool false, .slice none 0 0]) (vs := [.bool false, .slice none 0 0]) (fun _ => by kernel_rfl) rfl (by decide) fun g142 v143 nb => ?_
      have hb145 := nb.bk
      have ge146 : w.heap.size ≤ g142 := by rw [← nb.at_]; exact hw11.size
      have q147 : g42 < g142 := by rw [← nb.at_]; exact (hb50.ext e137).lt
      have e144 := nb.ext
      clear nb
      have hw12 : Ext w v143 := hw11.trans e144
      refine wl_alloc rfl (z := .agg #[.bool false, .slice none 0 0]) (vs := [.bool false, .slice none 0 0]) (fun _ => by kernel_rfl) rfl (by decide) fun g148 v149 nb => ?_
      have hb151 := nb.bk
      have ge152 : w.heap.size ≤ g148 := by rw [← nb.at_]; exact hw12.size
      have q153 : g142 < g148 := by rw [← nb.at_]; exact hb145.lt
      have e150 := nb.ext
      clear nb
      have hw13 : Ext w v149 := hw12.trans e150
      have hb155 := (hb145.ext e150)
      refine wl_stored rfl rfl rfl aggInt rfl hb155 (Nat.le_of_ble_eq_true rfl) rfl [.bool s140, .slice A140 n140 c140] rfl fun v154 hb156 u157 hs158 => ?_
      have hw14 : Ext w v154 := u157.ext hw13 ge146
      have hb160 := (hb151.updN u157 (by omega))
      refine wl_stored rfl rfl rfl aggInt rfl hb160 (Nat.le_of_ble_eq_true rfl) rfl [.bool s141, .slice A141 n141 c141] rfl fun v159 hb161 u162 hs163 => ?_
      have hw15 : Ext w v159 := u162.ext hw14 ge152
      refine wl_assign rfl rfl (by decide) ?_
      refine wl_nil ?_
      refine eo_then ?_
      refine cw_seq ?_
      refine cw_region ?_
      refine wl_load rfl rfl (load_agg aggInt (((((((((hb17.ext e22).updN u29 (by omega)).ext e33).updN u40 (by omega)).ext e44).updN u51 (by omega)).ext (e137.trans (e144.trans e150))).updN u157 (by omega)).updN u162 (by omega)) [.bool sa, .slice Aa na ca] rfl (Nat.le_of_ble_eq_true rfl) rfl) (by decide) ?_
      refine wl_load rfl rfl (load_agg aggInt (((((hb39.ext e44).updN u51 (by omega)).ext (e137.trans (e144.trans e150))).updN u157 (by omega)).updN u162 (by omega)) [.bool sf, .slice Af nf cf] rfl (Nat.le_of_ble_eq_true rfl) rfl) (by decide) ?_
      refine wl_bslice rfl rfl (by decide) (k := 2) (e := 27) [.bool sa, .slice Aa na ca, .bool sf, .slice Af nf cf] (fun _ => by kernel_rfl) fun g164 v165 nb => ?_
      have hb167 := nb.bk
      have ge168 : w.heap.size ≤ g164 := by rw [← nb.at_]; exact hw15.size
      have q169 : g148 < g164 := by rw [← nb.at_]; exact hb161.lt
      have e166 := nb.ext
      clear nb
      have hw16 : Ext w v165 := hw15.trans e166
      refine wl_load rfl rfl (load_agg aggInt ((((((((hb28.ext e33).updN u40 (by omega)).ext e44).updN u51 (by omega)).ext (e137.trans (e144.trans e150))).updN u157 (by omega)).updN u162 (by omega)).ext e166) [.bool sb, .slice Ab nb cb] rfl (Nat.le_of_ble_eq_true rfl) rfl) (by decide) ?_
      refine wl_load rfl rfl (load_agg aggInt ((((hb50.ext (e137.trans (e144.trans e150))).updN u157 (by omega)).updN u162 (by omega)).ext e166) [.bool sd, .slice Ad nd cd] rfl (Nat.le_of_ble_eq_true rfl) rfl) (by decide) ?_
      refine wl_bslice rfl rfl (by decide) (k := 2) (e := 27) [.bool sb, .slice Ab nb cb, .bool sd, .slice Ad nd cd] (fun _ => by kernel_rfl) fun g170 v171 nb => ?_
      have hb173 := nb.bk
      have ge174 : w.heap.size ≤ g170 := by rw [← nb.at_]; exact hw16.size
      have q175 : g164 < g170 := by rw [← nb.at_]; exact hb167.lt
      have e172 := nb.ext
      clear nb
      have hw17 : Ext w v171 := hw16.trans e172
      refine wl_call rfl rfl (vs := [.slice (some ⟨g164, 0, none⟩) 2 2, .slice (some ⟨g170, 0, none⟩) 2 2]) (by kernel_rfl) (by decide) (g_bezout_CrtAll_zero hw17.size (zl_two (hb167.ext e172) (hx.ext hw17) (hy.ext hw17)) (zl_two hb173 (hm.ext hw17) (hn.ext hw17)) (by decide) (two_le (Nat.le_trans la (by decide)) (Nat.le_trans lf (by decide))) (two_le (Nat.le_trans lb (by decide)) (Nat.le_trans ld (by decide))) (two_sum (by omega)) (i0 := 1) ⟨by decide, hn0⟩) ?_
      rintro _ v176 ⟨xr178, rfl, r178, e177⟩
      refine ret_intro ?_
      have hw18 : Ext w v176 := hw17.trans e177
      obtain ⟨a179_0, a179_1, a179_2, rfl, r179_0, r179_1, r179_2⟩ := r178
      obtain ⟨s180, A180, n180, c180, rfl, z180⟩ := r179_0
      obtain ⟨s181, A181, n181, c181, rfl, z181⟩ := r179_1
      obtain rfl := r179_2
      refine wl_move rfl rfl (by decide) ?_
      refine wl_pure rfl rfl (v := .agg #[.bool s180, .slice A180 n180 c180]) (by decide) (by kernel_rfl) ?_
      refine wl_pure rfl rfl (v := .agg #[.bool s181, .slice A181 n181 c181]) (by decide) (by kernel_rfl) ?_
      refine wl_pure rfl rfl (v := .int .i64 4) (by decide) (by kernel_rfl) ?_
      refine wl_alloc rfl (z := .agg #[.bool false, .slice none 0 0]) (vs := [.bool false, .slice none 0 0]) (fun _ => by kernel_rfl) rfl (by decide) fun g182 v183 nb => ?_
      have hb185 := nb.bk
      have ge186 : w.heap.size ≤ g182 := by rw [← nb.at_]; exact hw18.size
      have q187 : g170 < g182 := by rw [← nb.at_]; exact (hb173.ext e177).lt
      have e184 := nb.ext
      clear nb
      have hw19 : Ext w v183 := hw18.trans e184
      refine wl_alloc rfl (z := .agg #[.bool false, .slice none 0 0]) (vs := [.bool false, .slice none 0 0]) (fun _ => by kernel_rfl) rfl (by decide) fun g188 v189 nb => ?_
      have hb191 := nb.bk
      have ge192 : w.heap.size ≤ g188 := by rw [← nb.at_]; exact hw19.size
      have q193 : g182 < g188 := by rw [← nb.at_]; exact hb185.lt
      have e190 := nb.ext
      clear nb
      have hw20 : Ext w v189 := hw19.trans e190
      have hb195 := (hb185.ext e190)
      refine wl_stored rfl rfl rfl aggInt rfl hb195 (Nat.le_of_ble_eq_true rfl) rfl [.bool s180, .slice A180 n180 c180] rfl fun v194 hb196 u197 hs198 => ?_
      have hw21 : Ext w v194 := u197.ext hw20 ge186
      have hb200 := (hb191.updN u197 (by omega))
      refine wl_stored rfl rfl rfl aggInt rfl hb200 (Nat.le_of_ble_eq_true rfl) rfl [.bool s181, .slice A181 n181 c181] rfl fun v199 hb201 u202 hs203 => ?_
      have hw22 : Ext w v199 := u202.ext hw21 ge192
      refine wl_assign rfl rfl (by decide) ?_
      refine wl_nil ?_
      refine eo_then ?_
      refine cw_seq ?_
      refine cw_seq ?_
      refine cw_region ?_
      refine wl_load rfl rfl (load_agg aggInt ((((hb156.updN u162 (by omega)).ext (e166.trans (e172.trans (e177.trans (e184.trans e190))))).updN u197 (by omega)).updN u202 (by omega)) [.bool s140, .slice A140 n140 c140] rfl (Nat.le_of_ble_eq_true rfl) rfl) (by decide) ?_
      refine wl_load rfl rfl (load_agg aggInt (hb196.updN u202 (by omega)) [.bool s180, .slice A180 n180 c180] rfl (Nat.le_of_ble_eq_true rfl) rfl) (by decide) ?_
      refine wl_call rfl rfl (vs := [.agg #[.bool s140, .slice A140 n140 c140], .agg #[.bool s180, .slice A180 n180 c180]]) (by kernel_rfl) (by decide) (g_law6_alike ((((((z140.ext (e144.trans e150)).updT hb155 u157).updT hb160 u162).ext (e166.trans (e172.trans (e177.trans (e184.trans e190))))).updT hb195 u197).updT hb200 u202) (z140.le (Nat.le_trans (show ln 0 ≤ 0 by decide) (by decide))) (((z180.ext (e184.trans e190)).updT hb195 u197).updT hb200 u202) (z180.le (Nat.le_trans (show ln 0 ≤ 0 by decide) (by decide)))) ?_
      rintro _ v204 ⟨xr206, rfl, r206, e205⟩
      refine ret_intro ?_
      have hw23 : Ext w v204 := hw22.trans e205
      obtain rfl := r206
      refine wl_pure rfl rfl (v := .bool false) (by decide) (by kernel_rfl) ?_
      refine wl_move rfl rfl (by decide) ?_
      refine wl_load rfl rfl (load_agg aggInt ((((hb161.ext (e166.trans (e172.trans (e177.trans (e184.trans e190))))).updN u197 (by omega)).updN u202 (by omega)).ext e205) [.bool s141, .slice A141 n141 c141] rfl (Nat.le_of_ble_eq_true rfl) rfl) (by decide) ?_
      refine wl_load rfl rfl (load_agg aggInt (hb201.ext e205) [.bool s181, .slice A181 n181 c181] rfl (Nat.le_of_ble_eq_true rfl) rfl) (by decide) ?_
      refine wl_call rfl rfl (vs := [.agg #[.bool s141, .slice A141 n141 c141], .agg #[.bool s181, .slice A181 n181 c181]]) (by kernel_rfl) (by decide) (g_law6_alike (((((((z141.ext (e144.trans e150)).updT hb155 u157).updT hb160 u162).ext (e166.trans (e172.trans (e177.trans (e184.trans e190))))).updT hb195 u197).updT hb200 u202).ext e205) (z141.le (Nat.le_trans (show ln 0 ≤ 0 by decide) (by decide))) ((((z181.ext (e184.trans e190)).updT hb195 u197).updT hb200 u202).ext e205) (z181.le (Nat.le_trans (show ln 0 ≤ 0 by decide) (by decide)))) ?_
      rintro _ v207 ⟨xr209, rfl, r209, e208⟩
      refine ret_intro ?_
      have hw24 : Ext w v207 := hw23.trans e208
      obtain rfl := r209
      refine wl_pure rfl rfl (v := .bool false) (by decide) (by kernel_rfl) ?_
      refine wl_pure rfl rfl (v := .bool false) (by decide) (by kernel_rfl) ?_
      refine wl_move rfl rfl (by decide) ?_
      refine wl_move rfl rfl (by decide) ?_
      refine wl_move rfl rfl (by decide) ?_
      refine wl_cmp rfl rfl rfl false (by decide) (by decide) ?_
      refine wl_pure rfl rfl (v := .bool false) (by decide) (by kernel_rfl) ?_
      refine wl_nil ?_
      refine eo_then ?_
      refine cw_false rfl ?_
      refine cw_skip ?_
      refine eo_then ?_
      refine cw_seq ?_
      refine cw_seq ?_
      refine cw_region ?_
      refine wl_load rfl rfl (load_agg aggInt (((((((((((hb28.ext e33).updN u40 (by omega)).ext e44).updN u51 (by omega)).ext (e137.trans (e144.trans e150))).updN u157 (by omega)).updN u162 (by omega)).ext (e166.trans (e172.trans (e177.trans (e184.trans e190))))).updN u197 (by omega)).updN u202 (by omega)).ext (e205.trans e208)) [.bool sb, .slice Ab nb cb] rfl (Nat.le_of_ble_eq_true rfl) rfl) (by decide) ?_
      refine wl_call rfl rfl (vs := [.agg #[.bool sb, .slice Ab nb cb]]) (by kernel_rfl) (by decide) (g_ref5_Sign (hm.ext hw24) (Nat.le_trans lb (by decide))) ?_
      rintro _ v210 ⟨xr212, rfl, r212, e211⟩
      refine ret_intro ?_
      have hw25 : Ext w v210 := hw24.trans e211
      obtain rfl := r212
      refine wl_cmp rfl rfl rfl false (scmp_eq_f hm0) (by decide) ?_
      refine wl_move rfl rfl (by decide) ?_
      refine wl_load rfl rfl (load_agg aggInt (((((((hb50.ext (e137.trans (e144.trans e150))).updN u157 (by omega)).updN u162 (by omega)).ext (e166.trans (e172.trans (e177.trans (e184.trans e190))))).updN u197 (by omega)).updN u202 (by omega)).ext (e205.trans (e208.trans e211))) [.bool sd, .slice Ad nd cd] rfl (Nat.le_of_ble_eq_true rfl) rfl) (by decide) ?_
      refine wl_call rfl rfl (vs := [.agg #[.bool sd, .slice Ad nd cd]]) (by kernel_rfl) (by decide) (g_ref5_Sign (hn.ext hw25) (Nat.le_trans ld (by decide))) ?_
      rintro _ v213 ⟨xr215, rfl, r215, e214⟩
      refine ret_intro ?_
      have hw26 : Ext w v213 := hw25.trans e214
      obtain rfl := r215
      refine wl_cmp rfl rfl rfl true (scmp_eq_t hn0) (by decide) ?_
      refine wl_pure rfl rfl (v := .bool true) (by decide) (by kernel_rfl) ?_
      refine wl_nil ?_
      refine eo_then ?_
      refine cw_true rfl ?_
      refine cw_seq ?_
      refine cw_region ?_
      refine wl_move rfl rfl (by decide) ?_
      refine wl_cmp rfl rfl rfl true (by decide) (by decide) ?_
      refine wl_move rfl rfl (by decide) ?_
      refine wl_load rfl rfl (load_agg aggInt (((((hb156.updN u162 (by omega)).ext (e166.trans (e172.trans (e177.trans (e184.trans e190))))).updN u197 (by omega)).updN u202 (by omega)).ext (e205.trans (e208.trans (e211.trans e214)))) [.bool s140, .slice A140 n140 c140] rfl (Nat.le_of_ble_eq_true rfl) rfl) (by decide) ?_
      refine wl_pure rfl rfl (v := .agg #[.bool false, .slice none 0 0]) (by decide) (by kernel_rfl) ?_
      refine wl_call rfl rfl (vs := [.agg #[.bool s140, .slice A140 n140 c140], .agg #[.bool false, .slice none 0 0]]) (by kernel_rfl) (by decide) (g_law6_alike (((((((z140.ext (e144.trans e150)).updT hb155 u157).updT hb160 u162).ext (e166.trans (e172.trans (e177.trans (e184.trans e190))))).updT hb195 u197).updT hb200 u202).ext (e205.trans (e208.trans (e211.trans e214)))) (z140.le (Nat.le_trans (show ln 0 ≤ 0 by decide) (by decide))) (Zr.zero (w := v213) (base := w.heap.size)) ((Zr.zero (w := v213) (base := w.heap.size)).le (Nat.le_trans (by decide : ln 0 ≤ 0) (by decide)))) ?_
      rintro _ v216 ⟨xr218, rfl, r218, e217⟩
      refine ret_intro ?_
      have hw27 : Ext w v216 := hw26.trans e217
      obtain rfl := r218
      refine wl_pure rfl rfl (v := .bool true) (by decide) (by kernel_rfl) ?_
      refine wl_move rfl rfl (by decide) ?_
      refine wl_load rfl rfl (load_agg aggInt ((((hb161.ext (e166.trans (e172.trans (e177.trans (e184.trans e190))))).updN u197 (by omega)).updN u202 (by omega)).ext (e205.trans (e208.trans (e211.trans (e214.trans e217))))) [.bool s141, .slice A141 n141 c141] rfl (Nat.le_of_ble_eq_true rfl) rfl) (by decide) ?_
      refine wl_pure rfl rfl (v := .agg #[.bool false, .slice none 0 0]) (by decide) (by kernel_rfl) ?_
      refine wl_call rfl rfl (vs := [.agg #[.bool s141, .slice A141 n141 c141], .agg #[.bool false, .slice none 0 0]]) (by kernel_rfl) (by decide) (g_law6_alike (((((((z141.ext (e144.trans e150)).updT hb155 u157).updT hb160 u162).ext (e166.trans (e172.trans (e177.trans (e184.trans e190))))).updT hb195 u197).updT hb200 u202).ext (e205.trans (e208.trans (e211.trans (e214.trans e217))))) (z141.le (Nat.le_trans (show ln 0 ≤ 0 by decide) (by decide))) (Zr.zero (w := v216) (base := w.heap.size)) ((Zr.zero (w := v216) (base := w.heap.size)).le (Nat.le_trans (by decide : ln 0 ≤ 0) (by decide)))) ?_
      rintro _ v219 ⟨xr221, rfl, r221, e220⟩
      refine ret_intro ?_
      have hw28 : Ext w v219 := hw27.trans e220
      obtain rfl := r221
      refine wl_pure rfl rfl (v := .bool true) (by decide) (by kernel_rfl) ?_
      refine wl_assign rfl rfl (by decide) ?_
      refine wl_nil ?_
      refine eo_then ?_
      refine cw_ret ?_
      refine eo_thenR ?_
      refine eo_ret [.bool true] rfl ⟨rfl, trivial⟩ ?_
      exact bool_of _ _ ⟨_, rfl, rfl, hw28⟩
    ·
      have h0 : ∀ i, i < 2 → ([m, n] : List Int).getD i 0 ≠ 0 := two_lt hm0 hn0
      by_cases hd : (Int.gcd m n : Int) ∣ y - x
      ·
        obtain ⟨u0, v0, hbz⟩ := bez_ex m n
        obtain ⟨s, d1, d2⟩ := crt_ex hm0 hbz hd
        have hlz := lcm_ne hm0 hn0
        refine cw_region ?_
        refine wl_load rfl rfl (load_agg aggInt ((((((hb17.ext e22).updN u29 (by omega)).ext e33).updN u40 (by omega)).ext e44).updN u51 (by omega)) [.bool sa, .slice Aa na ca] rfl (Nat.le_of_ble_eq_true rfl) rfl) (by decide) ?_
        refine wl_load rfl rfl (load_agg aggInt ((((hb28.ext e33).updN u40 (by omega)).ext e44).updN u51 (by omega)) [.bool sb, .slice Ab nb cb] rfl (Nat.le_of_ble_eq_true rfl) rfl) (by decide) ?_
        refine wl_load rfl rfl (load_agg aggInt ((hb39.ext e44).updN u51 (by omega)) [.bool sf, .slice Af nf cf] rfl (Nat.le_of_ble_eq_true rfl) rfl) (by decide) ?_
        refine wl_load rfl rfl (load_agg aggInt hb50 [.bool sd, .slice Ad nd cd] rfl (Nat.le_of_ble_eq_true rfl) rfl) (by decide) ?_
        have L222 : ln ((Int.lcm m n : Int)) ≤ 2097152 := Nat.le_trans (ln_lcmC _ _) (Nat.add_le_add Lm Ln)
        have L223 : ln (s % (Int.lcm m n : Int)) ≤ 2097152 := Nat.le_trans (ln_emod hlz) L222
        refine wl_call rfl rfl (vs := [.agg #[.bool sa, .slice Aa na ca], .agg #[.bool sb, .slice Ab nb cb], .agg #[.bool sf, .slice Af nf cf], .agg #[.bool sd, .slice Ad nd cd]]) (by kernel_rfl) (by decide) (g_bezout_Crt_ok hw10.size (hx.ext hw10) (Nat.le_trans la (by decide)) (hm.ext hw10) (Nat.le_trans lb (by decide)) (hy.ext hw10) (Nat.le_trans lf (by decide)) (hn.ext hw10) (Nat.le_trans ld (by decide)) hm0 hn0 d1 d2) ?_
        rintro _ v224 ⟨xr226, rfl, r226, e225⟩
        refine ret_intro ?_
        have hw11 : Ext w v224 := hw10.trans e225
        obtain ⟨a227_0, a227_1, a227_2, rfl, r227_0, r227_1, r227_2⟩ := r226
        obtain ⟨s228, A228, n228, c228, rfl, z228⟩ := r227_0
        obtain ⟨s229, A229, n229, c229, rfl, z229⟩ := r227_1
        obtain rfl := r227_2
        refine wl_move rfl rfl (by decide) ?_
        refine wl_pure rfl rfl (v := .agg #[.bool s228, .slice A228 n228 c228]) (by decide) (by kernel_rfl) ?_
        refine wl_pure rfl rfl (v := .agg #[.bool s229, .slice A229 n229 c229]) (by decide) (by kernel_rfl) ?_
        refine wl_pure rfl rfl (v := .int .i64 0) (by decide) (by kernel_rfl) ?_
        refine wl_alloc rfl (z := .agg #[.bool false, .slice none 0 0]) (vs := [.bool false, .slice none 0 0]) (fun _ => by kernel_rfl) rfl (by decide) fun g230 v231 nb => ?_
        have hb233 := nb.bk
        have ge234 : w.heap.size ≤ g230 := by rw [← nb.at_]; exact hw11.size
        have q235 : g42 < g230 := by rw [← nb.at_]; exact (hb50.ext e225).lt
        have e232 := nb.ext
        clear nb
        have hw12 : Ext w v231 := hw11.trans e232
        refine wl_alloc rfl (z := .agg #[.bool false, .slice none 0 0]) (vs := [.bool false, .slice none 0 0]) (fun _ => by kernel_rfl) rfl (by decide) fun g236 v237 nb => ?_
        have hb239 := nb.bk
        have ge240 : w.heap.size ≤ g236 := by rw [← nb.at_]; exact hw12.size
        have q241 : g230 < g236 := by rw [← nb.at_]; exact hb233.lt
        have e238 := nb.ext
        clear nb
        have hw13 : Ext w v237 := hw12.trans e238
        have hb243 := (hb233.ext e238)
        refine wl_stored rfl rfl rfl aggInt rfl hb243 (Nat.le_of_ble_eq_true rfl) rfl [.bool s228, .slice A228 n228 c228] rfl fun v242 hb244 u245 hs246 => ?_
        have hw14 : Ext w v242 := u245.ext hw13 ge234
        have hb248 := (hb239.updN u245 (by omega))
        refine wl_stored rfl rfl rfl aggInt rfl hb248 (Nat.le_of_ble_eq_true rfl) rfl [.bool s229, .slice A229 n229 c229] rfl fun v247 hb249 u250 hs251 => ?_
        have hw15 : Ext w v247 := u250.ext hw14 ge240
        refine wl_assign rfl rfl (by decide) ?_
        refine wl_nil ?_
        refine eo_then ?_
        refine cw_seq ?_
        refine cw_region ?_
        refine wl_load rfl rfl (load_agg aggInt (((((((((hb17.ext e22).updN u29 (by omega)).ext e33).updN u40 (by omega)).ext e44).updN u51 (by omega)).ext (e225.trans (e232.trans e238))).updN u245 (by omega)).updN u250 (by omega)) [.bool sa, .slice Aa na ca] rfl (Nat.le_of_ble_eq_true rfl) rfl) (by decide) ?_
        refine wl_load rfl rfl (load_agg aggInt (((((hb39.ext e44).updN u51 (by omega)).ext (e225.trans (e232.trans e238))).updN u245 (by omega)).updN u250 (by omega)) [.bool sf, .slice Af nf cf] rfl (Nat.le_of_ble_eq_true rfl) rfl) (by decide) ?_
        refine wl_bslice rfl rfl (by decide) (k := 2) (e := 27) [.bool sa, .slice Aa na ca, .bool sf, .slice Af nf cf] (fun _ => by kernel_rfl) fun g252 v253 nb => ?_
        have hb255 := nb.bk
        have ge256 : w.heap.size ≤ g252 := by rw [← nb.at_]; exact hw15.size
        have q257 : g236 < g252 := by rw [← nb.at_]; exact hb249.lt
        have e254 := nb.ext
        clear nb
        have hw16 : Ext w v253 := hw15.trans e254
        refine wl_load rfl rfl (load_agg aggInt ((((((((hb28.ext e33).updN u40 (by omega)).ext e44).updN u51 (by omega)).ext (e225.trans (e232.trans e238))).updN u245 (by omega)).updN u250 (by omega)).ext e254) [.bool sb, .slice Ab nb cb] rfl (Nat.le_of_ble_eq_true rfl) rfl) (by decide) ?_
        refine wl_load rfl rfl (load_agg aggInt ((((hb50.ext (e225.trans (e232.trans e238))).updN u245 (by omega)).updN u250 (by omega)).ext e254) [.bool sd, .slice Ad nd cd] rfl (Nat.le_of_ble_eq_true rfl) rfl) (by decide) ?_
        refine wl_bslice rfl rfl (by decide) (k := 2) (e := 27) [.bool sb, .slice Ab nb cb, .bool sd, .slice Ad nd cd] (fun _ => by kernel_rfl) fun g258 v259 nb => ?_
        have hb261 := nb.bk
        have ge262 : w.heap.size ≤ g258 := by rw [← nb.at_]; exact hw16.size
        have q263 : g252 < g258 := by rw [← nb.at_]; exact hb255.lt
        have e260 := nb.ext
        clear nb
        have hw17 : Ext w v259 := hw16.trans e260
        have L264 : ln (lcmL [m, n]) ≤ 2097152 := (by rw [lcmL_two]; exact Nat.le_trans (ln_lcmC _ _) (Nat.add_le_add Lm Ln))
        have L265 : ln (s % lcmL [m, n]) ≤ 2097152 := (by rw [lcmL_two]; exact Nat.le_trans (ln_emod hlz) (Nat.le_trans (ln_lcmC _ _) (Nat.add_le_add Lm Ln)))
        refine wl_call rfl rfl (vs := [.slice (some ⟨g252, 0, none⟩) 2 2, .slice (some ⟨g258, 0, none⟩) 2 2]) (by kernel_rfl) (by decide) (g_bezout_CrtAll_ok hw17.size (zl_two (hb255.ext e260) (hx.ext hw17) (hy.ext hw17)) (zl_two hb261 (hm.ext hw17) (hn.ext hw17)) (by decide) (two_le (Nat.le_trans la (by decide)) (Nat.le_trans lf (by decide))) (two_le (Nat.le_trans lb (by decide)) (Nat.le_trans ld (by decide))) (two_sum (by omega)) h0 (two_lt d1 d2)) ?_
        rintro _ v266 ⟨xr268, rfl, r268, e267⟩
        refine ret_intro ?_
        have hw18 : Ext w v266 := hw17.trans e267
        obtain ⟨a269_0, a269_1, a269_2, rfl, r269_0, r269_1, r269_2⟩ := r268
        obtain ⟨s270, A270, n270, c270, rfl, z270⟩ := r269_0
        obtain ⟨s271, A271, n271, c271, rfl, z271⟩ := r269_1
        obtain rfl := r269_2
        refine wl_move rfl rfl (by decide) ?_
        refine wl_pure rfl rfl (v := .agg #[.bool s270, .slice A270 n270 c270]) (by decide) (by kernel_rfl) ?_
        refine wl_pure rfl rfl (v := .agg #[.bool s271, .slice A271 n271 c271]) (by decide) (by kernel_rfl) ?_
        refine wl_pure rfl rfl (v := .int .i64 0) (by decide) (by kernel_rfl) ?_
        refine wl_alloc rfl (z := .agg #[.bool false, .slice none 0 0]) (vs := [.bool false, .slice none 0 0]) (fun _ => by kernel_rfl) rfl (by decide) fun g272 v273 nb => ?_
        have hb275 := nb.bk
        have ge276 : w.heap.size ≤ g272 := by rw [← nb.at_]; exact hw18.size
        have q277 : g258 < g272 := by rw [← nb.at_]; exact (hb261.ext e267).lt
        have e274 := nb.ext
        clear nb
        have hw19 : Ext w v273 := hw18.trans e274
        refine wl_alloc rfl (z := .agg #[.bool false, .slice none 0 0]) (vs := [.bool false, .slice none 0 0]) (fun _ => by kernel_rfl) rfl (by decide) fun g278 v279 nb => ?_
        have hb281 := nb.bk
        have ge282 : w.heap.size ≤ g278 := by rw [← nb.at_]; exact hw19.size
        have q283 : g272 < g278 := by rw [← nb.at_]; exact hb275.lt
        have e280 := nb.ext
        clear nb
        have hw20 : Ext w v279 := hw19.trans e280
        have hb285 := (hb275.ext e280)
        refine wl_stored rfl rfl rfl aggInt rfl hb285 (Nat.le_of_ble_eq_true rfl) rfl [.bool s270, .slice A270 n270 c270] rfl fun v284 hb286 u287 hs288 => ?_
        have hw21 : Ext w v284 := u287.ext hw20 ge276
        have hb290 := (hb281.updN u287 (by omega))
        refine wl_stored rfl rfl rfl aggInt rfl hb290 (Nat.le_of_ble_eq_true rfl) rfl [.bool s271, .slice A271 n271 c271] rfl fun v289 hb291 u292 hs293 => ?_
        have hw22 : Ext w v289 := u292.ext hw21 ge282
        refine wl_assign rfl rfl (by decide) ?_
        refine wl_nil ?_
        refine eo_then ?_
        refine cw_seq ?_
        refine cw_seq ?_
        refine cw_region ?_
        refine wl_load rfl rfl (load_agg aggInt ((((hb244.updN u250 (by omega)).ext (e254.trans (e260.trans (e267.trans (e274.trans e280))))).updN u287 (by omega)).updN u292 (by omega)) [.bool s228, .slice A228 n228 c228] rfl (Nat.le_of_ble_eq_true rfl) rfl) (by decide) ?_
        refine wl_load rfl rfl (load_agg aggInt (hb286.updN u292 (by omega)) [.bool s270, .slice A270 n270 c270] rfl (Nat.le_of_ble_eq_true rfl) rfl) (by decide) ?_
        refine wl_call rfl rfl (vs := [.agg #[.bool s228, .slice A228 n228 c228], .agg #[.bool s270, .slice A270 n270 c270]]) (by kernel_rfl) (by decide) (g_law6_alike ((((((z228.ext (e232.trans e238)).updT hb243 u245).updT hb248 u250).ext (e254.trans (e260.trans (e267.trans (e274.trans e280))))).updT hb285 u287).updT hb290 u292) (z228.le (Nat.le_trans L223 (by decide))) ((((z270.ext (e274.trans e280)).updT hb285 u287).updT hb290 u292).cast (by rw [lcmL_two])) (z270.le (Nat.le_trans L265 (by decide)))) ?_
        rintro _ v294 ⟨xr296, rfl, r296, e295⟩
        refine ret_intro ?_
        have hw23 : Ext w v294 := hw22.trans e295
        obtain rfl := r296
        refine wl_pure rfl rfl (v := .bool false) (by decide) (by kernel_rfl) ?_
        refine wl_move rfl rfl (by decide) ?_
        refine wl_load rfl rfl (load_agg aggInt ((((hb249.ext (e254.trans (e260.trans (e267.trans (e274.trans e280))))).updN u287 (by omega)).updN u292 (by omega)).ext e295) [.bool s229, .slice A229 n229 c229] rfl (Nat.le_of_ble_eq_true rfl) rfl) (by decide) ?_
        refine wl_load rfl rfl (load_agg aggInt (hb291.ext e295) [.bool s271, .slice A271 n271 c271] rfl (Nat.le_of_ble_eq_true rfl) rfl) (by decide) ?_
        refine wl_call rfl rfl (vs := [.agg #[.bool s229, .slice A229 n229 c229], .agg #[.bool s271, .slice A271 n271 c271]]) (by kernel_rfl) (by decide) (g_law6_alike (((((((z229.ext (e232.trans e238)).updT hb243 u245).updT hb248 u250).ext (e254.trans (e260.trans (e267.trans (e274.trans e280))))).updT hb285 u287).updT hb290 u292).ext e295) (z229.le (Nat.le_trans L222 (by decide))) (((((z271.ext (e274.trans e280)).updT hb285 u287).updT hb290 u292).ext e295).cast (by rw [lcmL_two])) (z271.le (Nat.le_trans L264 (by decide)))) ?_
        rintro _ v297 ⟨xr299, rfl, r299, e298⟩
        refine ret_intro ?_
        have hw24 : Ext w v297 := hw23.trans e298
        obtain rfl := r299
        refine wl_pure rfl rfl (v := .bool false) (by decide) (by kernel_rfl) ?_
        refine wl_pure rfl rfl (v := .bool false) (by decide) (by kernel_rfl) ?_
        refine wl_move rfl rfl (by decide) ?_
        refine wl_move rfl rfl (by decide) ?_
        refine wl_move rfl rfl (by decide) ?_
        refine wl_cmp rfl rfl rfl false (by decide) (by decide) ?_
        refine wl_pure rfl rfl (v := .bool false) (by decide) (by kernel_rfl) ?_
        refine wl_nil ?_
        refine eo_then ?_
        refine cw_false rfl ?_
        refine cw_skip ?_
        refine eo_then ?_
        refine cw_seq ?_
        refine cw_seq ?_
        refine cw_region ?_
        refine wl_load rfl rfl (load_agg aggInt (((((((((((hb28.ext e33).updN u40 (by omega)).ext e44).updN u51 (by omega)).ext (e225.trans (e232.trans e238))).updN u245 (by omega)).updN u250 (by omega)).ext (e254.trans (e260.trans (e267.trans (e274.trans e280))))).updN u287 (by omega)).updN u292 (by omega)).ext (e295.trans e298)) [.bool sb, .slice Ab nb cb] rfl (Nat.le_of_ble_eq_true rfl) rfl) (by decide) ?_
        refine wl_call rfl rfl (vs := [.agg #[.bool sb, .slice Ab nb cb]]) (by kernel_rfl) (by decide) (g_ref5_Sign (hm.ext hw24) (Nat.le_trans lb (by decide))) ?_
        rintro _ v300 ⟨xr302, rfl, r302, e301⟩
        refine ret_intro ?_
        have hw25 : Ext w v300 := hw24.trans e301
        obtain rfl := r302
        refine wl_cmp rfl rfl rfl false (scmp_eq_f hm0) (by decide) ?_
        refine wl_move rfl rfl (by decide) ?_
        refine wl_load rfl rfl (load_agg aggInt (((((((hb50.ext (e225.trans (e232.trans e238))).updN u245 (by omega)).updN u250 (by omega)).ext (e254.trans (e260.trans (e267.trans (e274.trans e280))))).updN u287 (by omega)).updN u292 (by omega)).ext (e295.trans (e298.trans e301))) [.bool sd, .slice Ad nd cd] rfl (Nat.le_of_ble_eq_true rfl) rfl) (by decide) ?_
        refine wl_call rfl rfl (vs := [.agg #[.bool sd, .slice Ad nd cd]]) (by kernel_rfl) (by decide) (g_ref5_Sign (hn.ext hw25) (Nat.le_trans ld (by decide))) ?_
        rintro _ v303 ⟨xr305, rfl, r305, e304⟩
        refine ret_intro ?_
        have hw26 : Ext w v303 := hw25.trans e304
        obtain rfl := r305
        refine wl_cmp rfl rfl rfl false (scmp_eq_f hn0) (by decide) ?_
        refine wl_pure rfl rfl (v := .bool false) (by decide) (by kernel_rfl) ?_
        refine wl_nil ?_
        refine eo_then ?_
        refine cw_false rfl ?_
        refine cw_skip ?_
        refine eo_then ?_
        refine cw_seq ?_
        refine cw_region ?_
        refine wl_load rfl rfl (load_agg aggInt (((((((((((hb28.ext e33).updN u40 (by omega)).ext e44).updN u51 (by omega)).ext (e225.trans (e232.trans e238))).updN u245 (by omega)).updN u250 (by omega)).ext (e254.trans (e260.trans (e267.trans (e274.trans e280))))).updN u287 (by omega)).updN u292 (by omega)).ext (e295.trans (e298.trans (e301.trans e304)))) [.bool sb, .slice Ab nb cb] rfl (Nat.le_of_ble_eq_true rfl) rfl) (by decide) ?_
        refine wl_load rfl rfl (load_agg aggInt (((((((hb50.ext (e225.trans (e232.trans e238))).updN u245 (by omega)).updN u250 (by omega)).ext (e254.trans (e260.trans (e267.trans (e274.trans e280))))).updN u287 (by omega)).updN u292 (by omega)).ext (e295.trans (e298.trans (e301.trans e304)))) [.bool sd, .slice Ad nd cd] rfl (Nat.le_of_ble_eq_true rfl) rfl) (by decide) ?_
        have L306 : ln ((Int.gcd m n : Int)) ≤ 1048576 := Nat.le_trans (ln_gcd _ _) (Nat.max_le.2 ⟨Nat.le_trans Lm (by decide), Nat.le_trans Ln (by decide)⟩)
        refine wl_call rfl rfl (vs := [.agg #[.bool sb, .slice Ab nb cb], .agg #[.bool sd, .slice Ad nd cd]]) (by kernel_rfl) (by decide) (g_bezout_Gcd hw26.size (hm.ext hw26) (Nat.le_trans lb (by decide)) (hn.ext hw26) (Nat.le_trans ld (by decide))) ?_
        rintro _ v307 ⟨xr309, rfl, r309, e308⟩
        refine ret_intro ?_
        have hw27 : Ext w v307 := hw26.trans e308
        obtain ⟨s310, A310, n310, c310, rfl, z310⟩ := r309
        refine wl_alloc rfl (z := .agg #[.bool false, .slice none 0 0]) (vs := [.bool false, .slice none 0 0]) (fun _ => by kernel_rfl) rfl (by decide) fun g311 v312 nb => ?_
        have hb314 := nb.bk
        have ge315 : w.heap.size ≤ g311 := by rw [← nb.at_]; exact hw27.size
        have q316 : g278 < g311 := by rw [← nb.at_]; exact (hb291.ext (e295.trans (e298.trans (e301.trans (e304.trans e308))))).lt
        have e313 := nb.ext
        clear nb
        have hw28 : Ext w v312 := hw27.trans e313
        have hb318 := hb314
        refine wl_stored rfl rfl rfl aggInt rfl hb318 (Nat.le_of_ble_eq_true rfl) rfl [.bool s310, .slice A310 n310 c310] rfl fun v317 hb319 u320 hs321 => ?_
        have hw29 : Ext w v317 := u320.ext hw28 ge315
        refine wl_nil ?_
        refine eo_then ?_
        refine cw_seq ?_
        refine cw_region ?_
        refine wl_load rfl rfl (load_agg aggInt ((((((((((hb39.ext e44).updN u51 (by omega)).ext (e225.trans (e232.trans e238))).updN u245 (by omega)).updN u250 (by omega)).ext (e254.trans (e260.trans (e267.trans (e274.trans e280))))).updN u287 (by omega)).updN u292 (by omega)).ext (e295.trans (e298.trans (e301.trans (e304.trans (e308.trans e313)))))).updN u320 (by omega)) [.bool sf, .slice Af nf cf] rfl (Nat.le_of_ble_eq_true rfl) rfl) (by decide) ?_
        refine wl_load rfl rfl (load_agg aggInt ((((((((((((((hb17.ext e22).updN u29 (by omega)).ext e33).updN u40 (by omega)).ext e44).updN u51 (by omega)).ext (e225.trans (e232.trans e238))).updN u245 (by omega)).updN u250 (by omega)).ext (e254.trans (e260.trans (e267.trans (e274.trans e280))))).updN u287 (by omega)).updN u292 (by omega)).ext (e295.trans (e298.trans (e301.trans (e304.trans (e308.trans e313)))))).updN u320 (by omega)) [.bool sa, .slice Aa na ca] rfl (Nat.le_of_ble_eq_true rfl) rfl) (by decide) ?_
        have L322 : ln (y - x) ≤ 1048577 := Nat.le_trans (ln_sub Ly Lx) (by decide)
        refine wl_call rfl rfl (vs := [.agg #[.bool sf, .slice Af nf cf], .agg #[.bool sa, .slice Aa na ca]]) (by kernel_rfl) (by decide) (g_ref5_Sub hw29.size (hy.ext hw29) (Nat.le_trans lf (by decide)) (hx.ext hw29) (Nat.le_trans la (by decide))) ?_
        rintro _ v323 ⟨xr325, rfl, r325, e324⟩
        refine ret_intro ?_
        have hw30 : Ext w v323 := hw29.trans e324
        obtain ⟨s326, A326, n326, c326, rfl, z326⟩ := r325
        refine wl_alloc rfl (z := .agg #[.bool false, .slice none 0 0]) (vs := [.bool false, .slice none 0 0]) (fun _ => by kernel_rfl) rfl (by decide) fun g327 v328 nb => ?_
        have hb330 := nb.bk
        have ge331 : w.heap.size ≤ g327 := by rw [← nb.at_]; exact hw30.size
        have q332 : g311 < g327 := by rw [← nb.at_]; exact (hb319.ext e324).lt
        have e329 := nb.ext
        clear nb
        have hw31 : Ext w v328 := hw30.trans e329
        have hb334 := hb330
        refine wl_stored rfl rfl rfl aggInt rfl hb334 (Nat.le_of_ble_eq_true rfl) rfl [.bool s326, .slice A326 n326 c326] rfl fun v333 hb335 u336 hs337 => ?_
        have hw32 : Ext w v333 := u336.ext hw31 ge331
        refine wl_nil ?_
        refine eo_then ?_
        refine cw_seq ?_
        refine cw_seq ?_
        refine cw_region ?_
        refine wl_load rfl rfl (load_agg aggInt ((hb319.ext (e324.trans e329)).updN u336 (by omega)) [.bool s310, .slice A310 n310 c310] rfl (Nat.le_of_ble_eq_true rfl) rfl) (by decide) ?_
        refine wl_load rfl rfl (load_agg aggInt hb335 [.bool s326, .slice A326 n326 c326] rfl (Nat.le_of_ble_eq_true rfl) rfl) (by decide) ?_
        refine wl_call rfl rfl (vs := [.agg #[.bool s310, .slice A310 n310 c310], .agg #[.bool s326, .slice A326 n326 c326]]) (by kernel_rfl) (by decide) (g_law6_divides ((((z310.ext e313).updT hb318 u320).ext (e324.trans e329)).updT hb334 u336).zi (z310.le (Nat.le_trans L306 (by decide))) ((z326.ext e329).updT hb334 u336).zi (z326.le (Nat.le_trans L322 (by decide))) hd) ?_
        rintro _ v338 ⟨xr340, rfl, r340, e339⟩
        refine ret_intro ?_
        have hw33 : Ext w v338 := hw32.trans e339
        obtain rfl := r340
        refine wl_pure rfl rfl (v := .bool false) (by decide) (by kernel_rfl) ?_
        refine wl_nil ?_
        refine eo_then ?_
        refine cw_false rfl ?_
        refine cw_skip ?_
        refine eo_then ?_
        refine cw_seq ?_
        refine cw_seq ?_
        have L341 : ln ((Int.lcm m n : Int)) ≤ 2097152 := Nat.le_trans (ln_lcmC _ _) (Nat.add_le_add Lm Ln)
        refine cw_draw mix 26 [] [Is (.int .i64 0), Is (.bool false), Is (.bool false), Is (.agg #[.bool s228, .slice A228 n228 c228]), Is (.bool true), Is (.bool false), Is (.bool false), Is (.bool false), Is (.agg #[.bool s229, .slice A229 n229 c229]), Is (.bool true), Is (.bool false), Is (.bool false), Is (.bool false), Is (.agg #[.bool s228, .slice A228 n228 c228]), Is (.agg #[.bool s229, .slice A229 n229 c229]), Is (.bool true), Is (.bool false), Is (.bool false), Is (.bool false), Is (.agg #[.bool s229, .slice A229 n229 c229]), Is (.agg #[.bool sb, .slice Ab nb cb]), Is (.agg #[.bool sd, .slice Ad nd cd]), ZR w.heap.size ((Int.lcm m n : Int)), Is (.bool true), Is (.bool false), Is (.bool false)] [[], [0], [1], [2], [2, 3], [2, 4], [2, 5], [6], [7], [7, 8], [7, 9], [7, 10], [11], [12], [12], [12, 13, 14], [12, 15], [12, 16], [17], [18], [18], [18], [18, 20, 21], [18, 19, 22], [18, 23], [18, 24]] [[], [0], [0, 1], [0, 1, 2], [0, 1, 2, 3], [0, 1, 2, 3, 4], [0, 1, 2, 3, 4, 5], [0, 1, 2, 3, 4, 5, 6], [0, 1, 2, 3, 4, 5, 6, 7], [0, 1, 2, 3, 4, 5, 6, 7, 8], [0, 1, 2, 3, 4, 5, 6, 7, 8, 9], [0, 1, 2, 3, 4, 5, 6, 7, 8, 9, 10], [0, 1, 2, 3, 4, 5, 6, 7, 8, 9, 10, 11], [0, 1, 2, 3, 4, 5, 6, 7, 8, 9, 10, 11, 12], [0, 1, 2, 3, 4, 5, 6, 7, 8, 9, 10, 11, 12], [0, 1, 2, 3, 4, 5, 6, 7, 8, 9, 10, 11, 12, 13, 14], [0, 1, 2, 3, 4, 5, 6, 7, 8, 9, 10, 11, 12, 13, 14, 15], [0, 1, 2, 3, 4, 5, 6, 7, 8, 9, 10, 11, 12, 13, 14, 15, 16], [0, 1, 2, 3, 4, 5, 6, 7, 8, 9, 10, 11, 12, 13, 14, 15, 16, 17], [0, 1, 2, 3, 4, 5, 6, 7, 8, 9, 10, 11, 12, 13, 14, 15, 16, 17, 18], [0, 1, 2, 3, 4, 5, 6, 7, 8, 9, 10, 11, 12, 13, 14, 15, 16, 17, 18], [0, 1, 2, 3, 4, 5, 6, 7, 8, 9, 10, 11, 12, 13, 14, 15, 16, 17, 18], [0, 1, 2, 3, 4, 5, 6, 7, 8, 9, 10, 11, 12, 13, 14, 15, 16, 17, 18, 20, 21], [0, 1, 2, 3, 4, 5, 6, 7, 8, 9, 10, 11, 12, 13, 14, 15, 16, 17, 18, 19, 20, 21, 22], [0, 1, 2, 3, 4, 5, 6, 7, 8, 9, 10, 11, 12, 13, 14, 15, 16, 17, 18, 19, 20, 21, 22, 23], [0, 1, 2, 3, 4, 5, 6, 7, 8, 9, 10, 11, 12, 13, 14, 15, 16, 17, 18, 19, 20, 21, 22, 23, 24]] rfl
          (obs_cons rfl rfl (hob rfl rfl ?_) (obs_cons rfl rfl (hob rfl rfl ?_) (obs_cons rfl rfl (hob rfl rfl ?_) (obs_cons rfl rfl (hob rfl rfl ?_) (obs_cons rfl rfl (hob rfl rfl ?_) (obs_cons rfl rfl (hob rfl rfl ?_) (obs_cons rfl rfl (hob rfl rfl ?_) (obs_cons rfl rfl (hob rfl rfl ?_) (obs_cons rfl rfl (hob rfl rfl ?_) (obs_cons rfl rfl (hob rfl rfl ?_) (obs_cons rfl rfl (hob rfl rfl ?_) (obs_cons rfl rfl (hob rfl rfl ?_) (obs_cons rfl rfl (hob rfl rfl ?_) (obs_cons rfl rfl (hob rfl rfl ?_) (obs_cons rfl rfl (hob rfl rfl ?_) (obs_cons rfl rfl (hob rfl rfl ?_) (obs_cons rfl rfl (hob rfl rfl ?_) (obs_cons rfl rfl (hob rfl rfl ?_) (obs_cons rfl rfl (hob rfl rfl ?_) (obs_cons rfl rfl (hob rfl rfl ?_) (obs_cons rfl rfl (hob rfl rfl ?_) (obs_cons rfl rfl (hob rfl rfl ?_) (obs_cons rfl rfl (hob rfl rfl ?_) (obs_cons rfl rfl (hob rfl rfl ?_) (obs_cons rfl rfl (hob rfl rfl ?_) (obs_cons rfl rfl (hob rfl rfl ?_) obs_nil)))))))))))))))))))))))))) ?_
        · -- 0
          intro v343 e344
          have hw34 : Ext w v343 := hw33.trans e344
          refine deps_nil ?_
          refine wl_move rfl rfl (by decide) ?_
          exact pi_done rfl (Ext.refl _) rfl
        · -- 1
          intro v345 e346
          have hw34 : Ext w v345 := hw33.trans e346
          refine deps_cons rfl rfl fun x347 y348 h349 e350 f351 => ?_
          obtain rfl := h349
          refine deps_nil ?_
          refine wl_cmp rfl rfl rfl false (by decide) (by decide) ?_
          exact pi_done rfl (Ext.refl _) rfl
        · -- 2
          intro v352 e353
          have hw34 : Ext w v352 := hw33.trans e353
          refine deps_cons rfl rfl fun x354 y355 h356 e357 f358 => ?_
          obtain rfl := h356
          refine deps_nil ?_
          refine wl_move rfl rfl (by decide) ?_
          exact pi_done rfl (Ext.refl _) rfl
        · -- 3
          intro v359 e360
          have hw34 : Ext w v359 := hw33.trans e360
          refine deps_cons rfl rfl fun x361 y362 h363 e364 f365 => ?_
          obtain rfl := h363
          refine deps_nil ?_
          refine wl_load rfl rfl (load_agg aggInt (((((((((hb244.updN u250 (by omega)).ext (e254.trans (e260.trans (e267.trans (e274.trans e280))))).updN u287 (by omega)).updN u292 (by omega)).ext (e295.trans (e298.trans (e301.trans (e304.trans (e308.trans e313)))))).updN u320 (by omega)).ext (e324.trans e329)).updN u336 (by omega)).ext (e339.trans e360)) [.bool s228, .slice A228 n228 c228] rfl (Nat.le_of_ble_eq_true rfl) rfl) (by decide) ?_
          exact pi_done rfl (Ext.refl _) rfl
        · -- 4
          intro v366 e367
          have hw34 : Ext w v366 := hw33.trans e367
          refine deps_cons rfl rfl fun x368 y369 h370 e371 f372 => ?_
          obtain rfl := h370
          refine deps_cons rfl rfl fun x373 y374 h375 e376 f377 => ?_
          obtain rfl := h375
          refine deps_nil ?_
          refine wl_call rfl rfl (vs := [.agg #[.bool s228, .slice A228 n228 c228]]) (by kernel_rfl) (by decide) (g_law6_least (((((((((((z228.ext (e232.trans e238)).updT hb243 u245).updT hb248 u250).ext (e254.trans (e260.trans (e267.trans (e274.trans e280))))).updT hb285 u287).updT hb290 u292).ext (e295.trans (e298.trans (e301.trans (e304.trans (e308.trans e313)))))).updT hb318 u320).ext (e324.trans e329)).updT hb334 u336).ext (e339.trans e367))) ?_
          rintro _ v378 ⟨xr380, rfl, r380, e379⟩
          refine ret_intro ?_
          have hw35 : Ext w v378 := hw34.trans e379
          obtain rfl := r380
          exact pi_done rfl e379 rfl
        · -- 5
          intro v381 e382
          have hw34 : Ext w v381 := hw33.trans e382
          refine deps_cons rfl rfl fun x383 y384 h385 e386 f387 => ?_
          obtain rfl := h385
          refine deps_cons rfl rfl fun x388 y389 h390 e391 f392 => ?_
          obtain rfl := h390
          refine deps_nil ?_
          refine wl_pure rfl rfl (v := .bool false) (by decide) (by kernel_rfl) ?_
          exact pi_done rfl (Ext.refl _) rfl
        · -- 6
          intro v393 e394
          have hw34 : Ext w v393 := hw33.trans e394
          refine deps_cons rfl rfl fun x395 y396 h397 e398 f399 => ?_
          obtain rfl := h397
          refine deps_cons rfl rfl fun x400 y401 h402 e403 f404 => ?_
          obtain rfl := h402
          refine deps_nil ?_
          refine wl_pure rfl rfl (v := .bool false) (by decide) (by kernel_rfl) ?_
          exact pi_done rfl (Ext.refl _) rfl
        · -- 7
          intro v405 e406
          have hw34 : Ext w v405 := hw33.trans e406
          refine deps_cons rfl rfl fun x407 y408 h409 e410 f411 => ?_
          obtain rfl := h409
          refine deps_nil ?_
          refine wl_move rfl rfl (by decide) ?_
          exact pi_done rfl (Ext.refl _) rfl
        · -- 8
          intro v412 e413
          have hw34 : Ext w v412 := hw33.trans e413
          refine deps_cons rfl rfl fun x414 y415 h416 e417 f418 => ?_
          obtain rfl := h416
          refine deps_nil ?_
          refine wl_load rfl rfl (load_agg aggInt ((((((((hb249.ext (e254.trans (e260.trans (e267.trans (e274.trans e280))))).updN u287 (by omega)).updN u292 (by omega)).ext (e295.trans (e298.trans (e301.trans (e304.trans (e308.trans e313)))))).updN u320 (by omega)).ext (e324.trans e329)).updN u336 (by omega)).ext (e339.trans e413)) [.bool s229, .slice A229 n229 c229] rfl (Nat.le_of_ble_eq_true rfl) rfl) (by decide) ?_
          exact pi_done rfl (Ext.refl _) rfl
        · -- 9
          intro v419 e420
          have hw34 : Ext w v419 := hw33.trans e420
          refine deps_cons rfl rfl fun x421 y422 h423 e424 f425 => ?_
          obtain rfl := h423
          refine deps_cons rfl rfl fun x426 y427 h428 e429 f430 => ?_
          obtain rfl := h428
          refine deps_nil ?_
          refine wl_call rfl rfl (vs := [.agg #[.bool s229, .slice A229 n229 c229]]) (by kernel_rfl) (by decide) (g_law6_least (((((((((((z229.ext (e232.trans e238)).updT hb243 u245).updT hb248 u250).ext (e254.trans (e260.trans (e267.trans (e274.trans e280))))).updT hb285 u287).updT hb290 u292).ext (e295.trans (e298.trans (e301.trans (e304.trans (e308.trans e313)))))).updT hb318 u320).ext (e324.trans e329)).updT hb334 u336).ext (e339.trans e420))) ?_
          rintro _ v431 ⟨xr433, rfl, r433, e432⟩
          refine ret_intro ?_
          have hw35 : Ext w v431 := hw34.trans e432
          obtain rfl := r433
          exact pi_done rfl e432 rfl
        · -- 10
          intro v434 e435
          have hw34 : Ext w v434 := hw33.trans e435
          refine deps_cons rfl rfl fun x436 y437 h438 e439 f440 => ?_
          obtain rfl := h438
          refine deps_cons rfl rfl fun x441 y442 h443 e444 f445 => ?_
          obtain rfl := h443
          refine deps_nil ?_
          refine wl_pure rfl rfl (v := .bool false) (by decide) (by kernel_rfl) ?_
          exact pi_done rfl (Ext.refl _) rfl
        · -- 11
          intro v446 e447
          have hw34 : Ext w v446 := hw33.trans e447
          refine deps_cons rfl rfl fun x448 y449 h450 e451 f452 => ?_
          obtain rfl := h450
          refine deps_cons rfl rfl fun x453 y454 h455 e456 f457 => ?_
          obtain rfl := h455
          refine deps_nil ?_
          refine wl_pure rfl rfl (v := .bool false) (by decide) (by kernel_rfl) ?_
          exact pi_done rfl (Ext.refl _) rfl
        · -- 12
          intro v458 e459
          have hw34 : Ext w v458 := hw33.trans e459
          refine deps_cons rfl rfl fun x460 y461 h462 e463 f464 => ?_
          obtain rfl := h462
          refine deps_nil ?_
          refine wl_move rfl rfl (by decide) ?_
          exact pi_done rfl (Ext.refl _) rfl
        · -- 13
          intro v465 e466
          have hw34 : Ext w v465 := hw33.trans e466
          refine deps_cons rfl rfl fun x467 y468 h469 e470 f471 => ?_
          obtain rfl := h469
          refine deps_nil ?_
          refine wl_load rfl rfl (load_agg aggInt (((((((((hb244.updN u250 (by omega)).ext (e254.trans (e260.trans (e267.trans (e274.trans e280))))).updN u287 (by omega)).updN u292 (by omega)).ext (e295.trans (e298.trans (e301.trans (e304.trans (e308.trans e313)))))).updN u320 (by omega)).ext (e324.trans e329)).updN u336 (by omega)).ext (e339.trans e466)) [.bool s228, .slice A228 n228 c228] rfl (Nat.le_of_ble_eq_true rfl) rfl) (by decide) ?_
          exact pi_done rfl (Ext.refl _) rfl
        · -- 14
          intro v472 e473
          have hw34 : Ext w v472 := hw33.trans e473
          refine deps_cons rfl rfl fun x474 y475 h476 e477 f478 => ?_
          obtain rfl := h476
          refine deps_nil ?_
          refine wl_load rfl rfl (load_agg aggInt ((((((((hb249.ext (e254.trans (e260.trans (e267.trans (e274.trans e280))))).updN u287 (by omega)).updN u292 (by omega)).ext (e295.trans (e298.trans (e301.trans (e304.trans (e308.trans e313)))))).updN u320 (by omega)).ext (e324.trans e329)).updN u336 (by omega)).ext (e339.trans e473)) [.bool s229, .slice A229 n229 c229] rfl (Nat.le_of_ble_eq_true rfl) rfl) (by decide) ?_
          exact pi_done rfl (Ext.refl _) rfl
        · -- 15
          intro v479 e480
          have hw34 : Ext w v479 := hw33.trans e480
          refine deps_cons rfl rfl fun x481 y482 h483 e484 f485 => ?_
          obtain rfl := h483
          refine deps_cons rfl rfl fun x486 y487 h488 e489 f490 => ?_
          obtain rfl := h488
          refine deps_cons rfl rfl fun x491 y492 h493 e494 f495 => ?_
          obtain rfl := h493
          refine deps_nil ?_
          refine wl_call rfl rfl (vs := [.agg #[.bool s228, .slice A228 n228 c228], .agg #[.bool s229, .slice A229 n229 c229]]) (by kernel_rfl) (by decide) (g_law6_within (((((((((((z228.ext (e232.trans e238)).updT hb243 u245).updT hb248 u250).ext (e254.trans (e260.trans (e267.trans (e274.trans e280))))).updT hb285 u287).updT hb290 u292).ext (e295.trans (e298.trans (e301.trans (e304.trans (e308.trans e313)))))).updT hb318 u320).ext (e324.trans e329)).updT hb334 u336).ext (e339.trans e480)).zi (z228.le (Nat.le_trans L223 (by decide))) (((((((((((z229.ext (e232.trans e238)).updT hb243 u245).updT hb248 u250).ext (e254.trans (e260.trans (e267.trans (e274.trans e280))))).updT hb285 u287).updT hb290 u292).ext (e295.trans (e298.trans (e301.trans (e304.trans (e308.trans e313)))))).updT hb318 u320).ext (e324.trans e329)).updT hb334 u336).ext (e339.trans e480)).zi (z229.le (Nat.le_trans L222 (by decide))) (emod_inM hlz).1 (emod_inM hlz).2) ?_
          rintro _ v496 ⟨xr498, rfl, r498, e497⟩
          refine ret_intro ?_
          have hw35 : Ext w v496 := hw34.trans e497
          obtain rfl := r498
          exact pi_done rfl e497 rfl
        · -- 16
          intro v499 e500
          have hw34 : Ext w v499 := hw33.trans e500
          refine deps_cons rfl rfl fun x501 y502 h503 e504 f505 => ?_
          obtain rfl := h503
          refine deps_cons rfl rfl fun x506 y507 h508 e509 f510 => ?_
          obtain rfl := h508
          refine deps_nil ?_
          refine wl_pure rfl rfl (v := .bool false) (by decide) (by kernel_rfl) ?_
          exact pi_done rfl (Ext.refl _) rfl
        · -- 17
          intro v511 e512
          have hw34 : Ext w v511 := hw33.trans e512
          refine deps_cons rfl rfl fun x513 y514 h515 e516 f517 => ?_
          obtain rfl := h515
          refine deps_cons rfl rfl fun x518 y519 h520 e521 f522 => ?_
          obtain rfl := h520
          refine deps_nil ?_
          refine wl_pure rfl rfl (v := .bool false) (by decide) (by kernel_rfl) ?_
          exact pi_done rfl (Ext.refl _) rfl
        · -- 18
          intro v523 e524
          have hw34 : Ext w v523 := hw33.trans e524
          refine deps_cons rfl rfl fun x525 y526 h527 e528 f529 => ?_
          obtain rfl := h527
          refine deps_nil ?_
          refine wl_move rfl rfl (by decide) ?_
          exact pi_done rfl (Ext.refl _) rfl
        · -- 19
          intro v530 e531
          have hw34 : Ext w v530 := hw33.trans e531
          refine deps_cons rfl rfl fun x532 y533 h534 e535 f536 => ?_
          obtain rfl := h534
          refine deps_nil ?_
          refine wl_load rfl rfl (load_agg aggInt ((((((((hb249.ext (e254.trans (e260.trans (e267.trans (e274.trans e280))))).updN u287 (by omega)).updN u292 (by omega)).ext (e295.trans (e298.trans (e301.trans (e304.trans (e308.trans e313)))))).updN u320 (by omega)).ext (e324.trans e329)).updN u336 (by omega)).ext (e339.trans e531)) [.bool s229, .slice A229 n229 c229] rfl (Nat.le_of_ble_eq_true rfl) rfl) (by decide) ?_
          exact pi_done rfl (Ext.refl _) rfl
        · -- 20
          intro v537 e538
          have hw34 : Ext w v537 := hw33.trans e538
          refine deps_cons rfl rfl fun x539 y540 h541 e542 f543 => ?_
          obtain rfl := h541
          refine deps_nil ?_
          refine wl_load rfl rfl (load_agg aggInt (((((((((((((((hb28.ext e33).updN u40 (by omega)).ext e44).updN u51 (by omega)).ext (e225.trans (e232.trans e238))).updN u245 (by omega)).updN u250 (by omega)).ext (e254.trans (e260.trans (e267.trans (e274.trans e280))))).updN u287 (by omega)).updN u292 (by omega)).ext (e295.trans (e298.trans (e301.trans (e304.trans (e308.trans e313)))))).updN u320 (by omega)).ext (e324.trans e329)).updN u336 (by omega)).ext (e339.trans e538)) [.bool sb, .slice Ab nb cb] rfl (Nat.le_of_ble_eq_true rfl) rfl) (by decide) ?_
          exact pi_done rfl (Ext.refl _) rfl
        · -- 21
          intro v544 e545
          have hw34 : Ext w v544 := hw33.trans e545
          refine deps_cons rfl rfl fun x546 y547 h548 e549 f550 => ?_
          obtain rfl := h548
          refine deps_nil ?_
          refine wl_load rfl rfl (load_agg aggInt (((((((((((hb50.ext (e225.trans (e232.trans e238))).updN u245 (by omega)).updN u250 (by omega)).ext (e254.trans (e260.trans (e267.trans (e274.trans e280))))).updN u287 (by omega)).updN u292 (by omega)).ext (e295.trans (e298.trans (e301.trans (e304.trans (e308.trans e313)))))).updN u320 (by omega)).ext (e324.trans e329)).updN u336 (by omega)).ext (e339.trans e545)) [.bool sd, .slice Ad nd cd] rfl (Nat.le_of_ble_eq_true rfl) rfl) (by decide) ?_
          exact pi_done rfl (Ext.refl _) rfl
        · -- 22
          intro v551 e552
          have hw34 : Ext w v551 := hw33.trans e552
          refine deps_cons rfl rfl fun x553 y554 h555 e556 f557 => ?_
          obtain rfl := h555
          refine deps_cons rfl rfl fun x558 y559 h560 e561 f562 => ?_
          obtain rfl := h560
          refine deps_cons rfl rfl fun x563 y564 h565 e566 f567 => ?_
          obtain rfl := h565
          refine deps_nil ?_
          have L568 : ln ((Int.lcm m n : Int)) ≤ 2097152 := Nat.le_trans (ln_lcmC _ _) (Nat.add_le_add Lm Ln)
          refine wl_call rfl rfl (vs := [.agg #[.bool sb, .slice Ab nb cb], .agg #[.bool sd, .slice Ad nd cd]]) (by kernel_rfl) (by decide) (g_bezout_Lcm hw34.size (hm.ext hw34) (Nat.le_trans lb (by decide)) (hn.ext hw34) (Nat.le_trans ld (by decide))) ?_
          rintro _ v569 ⟨xr571, rfl, r571, e570⟩
          refine ret_intro ?_
          have hw35 : Ext w v569 := hw34.trans e570
          obtain ⟨s572, A572, n572, c572, rfl, z572⟩ := r571
          exact pi_done rfl e570 ⟨_, _, _, _, rfl, z572⟩
        · -- 23
          intro v573 e574
          have hw34 : Ext w v573 := hw33.trans e574
          refine deps_cons rfl rfl fun x575 y576 h577 e578 f579 => ?_
          obtain rfl := h577
          refine deps_cons rfl rfl fun x580 y581 h582 e583 f584 => ?_
          obtain rfl := h582
          refine deps_cons rfl rfl fun x585 y586 h587 e588 f589 => ?_
          obtain ⟨s590, A590, n590, c590, rfl, z590⟩ := h587
          have z590 := z590.ext f589
          refine deps_nil ?_
          refine wl_call rfl rfl (vs := [.agg #[.bool s229, .slice A229 n229 c229], .agg #[.bool s590, .slice A590 n590 c590]]) (by kernel_rfl) (by decide) (g_law6_alike (((((((((((z229.ext (e232.trans e238)).updT hb243 u245).updT hb248 u250).ext (e254.trans (e260.trans (e267.trans (e274.trans e280))))).updT hb285 u287).updT hb290 u292).ext (e295.trans (e298.trans (e301.trans (e304.trans (e308.trans e313)))))).updT hb318 u320).ext (e324.trans e329)).updT hb334 u336).ext (e339.trans e574)) (z229.le (Nat.le_trans L222 (by decide))) z590 (z590.le (Nat.le_trans L341 (by decide)))) ?_
          rintro _ v591 ⟨xr593, rfl, r593, e592⟩
          refine ret_intro ?_
          have hw35 : Ext w v591 := hw34.trans e592
          obtain rfl := r593
          exact pi_done rfl e592 rfl
        · -- 24
          intro v594 e595
          have hw34 : Ext w v594 := hw33.trans e595
          refine deps_cons rfl rfl fun x596 y597 h598 e599 f600 => ?_
          obtain rfl := h598
          refine deps_cons rfl rfl fun x601 y602 h603 e604 f605 => ?_
          obtain rfl := h603
          refine deps_nil ?_
          refine wl_pure rfl rfl (v := .bool false) (by decide) (by kernel_rfl) ?_
          exact pi_done rfl (Ext.refl _) rfl
        · -- 25
          intro v606 e607
          have hw34 : Ext w v606 := hw33.trans e607
          refine deps_cons rfl rfl fun x608 y609 h610 e611 f612 => ?_
          obtain rfl := h610
          refine deps_cons rfl rfl fun x613 y614 h615 e616 f617 => ?_
          obtain rfl := h615
          refine deps_nil ?_
          refine wl_pure rfl rfl (v := .bool false) (by decide) (by kernel_rfl) ?_
          exact pi_done rfl (Ext.refl _) rfl
        · -- all
          intro v618 e619
          have hw34 : Ext w v618 := hw33.trans e619
          refine deps_cons rfl rfl fun x620 y621 h622 e623 f624 => ?_
          obtain rfl := h622
          refine deps_cons rfl rfl fun x625 y626 h627 e628 f629 => ?_
          obtain rfl := h627
          refine deps_cons rfl rfl fun x630 y631 h632 e633 f634 => ?_
          obtain rfl := h632
          refine deps_cons rfl rfl fun x635 y636 h637 e638 f639 => ?_
          obtain rfl := h637
          refine deps_cons rfl rfl fun x640 y641 h642 e643 f644 => ?_
          obtain rfl := h642
          refine deps_cons rfl rfl fun x645 y646 h647 e648 f649 => ?_
          obtain rfl := h647
          refine deps_cons rfl rfl fun x650 y651 h652 e653 f654 => ?_
          obtain rfl := h652
          refine deps_cons rfl rfl fun x655 y656 h657 e658 f659 => ?_
          obtain rfl := h657
          refine deps_cons rfl rfl fun x660 y661 h662 e663 f664 => ?_
          obtain rfl := h662
          refine deps_cons rfl rfl fun x665 y666 h667 e668 f669 => ?_
          obtain rfl := h667
          refine deps_cons rfl rfl fun x670 y671 h672 e673 f674 => ?_
          obtain rfl := h672
          refine deps_cons rfl rfl fun x675 y676 h677 e678 f679 => ?_
          obtain rfl := h677
          refine deps_cons rfl rfl fun x680 y681 h682 e683 f684 => ?_
          obtain rfl := h682
          refine deps_cons rfl rfl fun x685 y686 h687 e688 f689 => ?_
          obtain rfl := h687
          refine deps_cons rfl rfl fun x690 y691 h692 e693 f694 => ?_
          obtain rfl := h692
          refine deps_cons rfl rfl fun x695 y696 h697 e698 f699 => ?_
          obtain rfl := h697
          refine deps_cons rfl rfl fun x700 y701 h702 e703 f704 => ?_
          obtain rfl := h702
          refine deps_cons rfl rfl fun x705 y706 h707 e708 f709 => ?_
          obtain rfl := h707
          refine deps_cons rfl rfl fun x710 y711 h712 e713 f714 => ?_
          obtain rfl := h712
          refine deps_cons rfl rfl fun x715 y716 h717 e718 f719 => ?_
          obtain rfl := h717
          refine deps_cons rfl rfl fun x720 y721 h722 e723 f724 => ?_
          obtain rfl := h722
          refine deps_cons rfl rfl fun x725 y726 h727 e728 f729 => ?_
          obtain rfl := h727
          refine deps_cons rfl rfl fun x730 y731 h732 e733 f734 => ?_
          obtain ⟨s735, A735, n735, c735, rfl, z735⟩ := h732
          have z735 := z735.ext f734
          refine deps_cons rfl rfl fun x736 y737 h738 e739 f740 => ?_
          obtain rfl := h738
          refine deps_cons rfl rfl fun x741 y742 h743 e744 f745 => ?_
          obtain rfl := h743
          refine deps_cons rfl rfl fun x746 y747 h748 e749 f750 => ?_
          obtain rfl := h748
          refine deps_nil ?_
          refine wl_nil ?_
          refine eo_np ?_
          refine eo_then ?_
          refine cw_false rfl ?_
          refine cw_skip ?_
          refine eo_then ?_
          refine cw_seq ?_
          have L751 : ln ((s % (Int.lcm m n : Int)) - x) ≤ 2097153 := Nat.le_trans (ln_sub L223 Lx) (by decide)
          have L753 : ln ((s % (Int.lcm m n : Int)) - y) ≤ 2097153 := Nat.le_trans (ln_sub L223 Ly) (by decide)
          refine cw_draw mix 12 [] [Is (.agg #[.bool sb, .slice Ab nb cb]), Is (.agg #[.bool s228, .slice A228 n228 c228]), Is (.agg #[.bool sa, .slice Aa na ca]), ZR w.heap.size ((s % (Int.lcm m n : Int)) - x), Is (.bool true), Is (.bool true), Is (.agg #[.bool sd, .slice Ad nd cd]), Is (.agg #[.bool s228, .slice A228 n228 c228]), Is (.agg #[.bool sf, .slice Af nf cf]), ZR w.heap.size ((s % (Int.lcm m n : Int)) - y), Is (.bool true), Is (.bool true)] [[], [], [], [1, 2], [0, 3], [4], [5], [5], [5], [5, 7, 8], [5, 6, 9], [5, 10]] [[], [], [], [1, 2], [0, 1, 2, 3], [0, 1, 2, 3, 4], [0, 1, 2, 3, 4, 5], [0, 1, 2, 3, 4, 5], [0, 1, 2, 3, 4, 5], [0, 1, 2, 3, 4, 5, 7, 8], [0, 1, 2, 3, 4, 5, 6, 7, 8, 9], [0, 1, 2, 3, 4, 5, 6, 7, 8, 9, 10], [0, 1, 2, 3, 4, 5, 6, 7, 8, 9, 10, 11]] rfl
            (obs_cons rfl rfl (hob rfl rfl ?_) (obs_cons rfl rfl (hob rfl rfl ?_) (obs_cons rfl rfl (hob rfl rfl ?_) (obs_cons rfl rfl (hob rfl rfl ?_) (obs_cons rfl rfl (hob rfl rfl ?_) (obs_cons rfl rfl (hob rfl rfl ?_) (obs_cons rfl rfl (hob rfl rfl ?_) (obs_cons rfl rfl (hob rfl rfl ?_) (obs_cons rfl rfl (hob rfl rfl ?_) (obs_cons rfl rfl (hob rfl rfl ?_) (obs_cons rfl rfl (hob rfl rfl ?_) (obs_cons rfl rfl (hob rfl rfl ?_) obs_nil)))))))))))) ?_
          · -- 0
            intro v755 e756
            have hw35 : Ext w v755 := hw34.trans e756
            refine deps_nil ?_
            refine wl_load rfl rfl (load_agg aggInt (((((((((((((((hb28.ext e33).updN u40 (by omega)).ext e44).updN u51 (by omega)).ext (e225.trans (e232.trans e238))).updN u245 (by omega)).updN u250 (by omega)).ext (e254.trans (e260.trans (e267.trans (e274.trans e280))))).updN u287 (by omega)).updN u292 (by omega)).ext (e295.trans (e298.trans (e301.trans (e304.trans (e308.trans e313)))))).updN u320 (by omega)).ext (e324.trans e329)).updN u336 (by omega)).ext (e339.trans (e619.trans e756))) [.bool sb, .slice Ab nb cb] rfl (Nat.le_of_ble_eq_true rfl) rfl) (by decide) ?_
            exact pi_done rfl (Ext.refl _) rfl
          · -- 1
            intro v757 e758
            have hw35 : Ext w v757 := hw34.trans e758
            refine deps_nil ?_
            refine wl_load rfl rfl (load_agg aggInt (((((((((hb244.updN u250 (by omega)).ext (e254.trans (e260.trans (e267.trans (e274.trans e280))))).updN u287 (by omega)).updN u292 (by omega)).ext (e295.trans (e298.trans (e301.trans (e304.trans (e308.trans e313)))))).updN u320 (by omega)).ext (e324.trans e329)).updN u336 (by omega)).ext (e339.trans (e619.trans e758))) [.bool s228, .slice A228 n228 c228] rfl (Nat.le_of_ble_eq_true rfl) rfl) (by decide) ?_
            exact pi_done rfl (Ext.refl _) rfl
          · -- 2
            intro v759 e760
            have hw35 : Ext w v759 := hw34.trans e760
            refine deps_nil ?_
            refine wl_load rfl rfl (load_agg aggInt (((((((((((((((((hb17.ext e22).updN u29 (by omega)).ext e33).updN u40 (by omega)).ext e44).updN u51 (by omega)).ext (e225.trans (e232.trans e238))).updN u245 (by omega)).updN u250 (by omega)).ext (e254.trans (e260.trans (e267.trans (e274.trans e280))))).updN u287 (by omega)).updN u292 (by omega)).ext (e295.trans (e298.trans (e301.trans (e304.trans (e308.trans e313)))))).updN u320 (by omega)).ext (e324.trans e329)).updN u336 (by omega)).ext (e339.trans (e619.trans e760))) [.bool sa, .slice Aa na ca] rfl (Nat.le_of_ble_eq_true rfl) rfl) (by decide) ?_
            exact pi_done rfl (Ext.refl _) rfl
          · -- 3
            intro v761 e762
            have hw35 : Ext w v761 := hw34.trans e762
            refine deps_cons rfl rfl fun x763 y764 h765 e766 f767 => ?_
            obtain rfl := h765
            refine deps_cons rfl rfl fun x768 y769 h770 e771 f772 => ?_
            obtain rfl := h770
            refine deps_nil ?_
            have L773 : ln ((s % (Int.lcm m n : Int)) - x) ≤ 2097153 := Nat.le_trans (ln_sub L223 Lx) (by decide)
            refine wl_call rfl rfl (vs := [.agg #[.bool s228, .slice A228 n228 c228], .agg #[.bool sa, .slice Aa na ca]]) (by kernel_rfl) (by decide) (g_ref5_Sub hw35.size (((((((((((z228.ext (e232.trans e238)).updT hb243 u245).updT hb248 u250).ext (e254.trans (e260.trans (e267.trans (e274.trans e280))))).updT hb285 u287).updT hb290 u292).ext (e295.trans (e298.trans (e301.trans (e304.trans (e308.trans e313)))))).updT hb318 u320).ext (e324.trans e329)).updT hb334 u336).ext (e339.trans (e619.trans e762))).zi (z228.le (Nat.le_trans L223 (by decide))) (hx.ext hw35) (Nat.le_trans la (by decide))) ?_
            rintro _ v774 ⟨xr776, rfl, r776, e775⟩
            refine ret_intro ?_
            have hw36 : Ext w v774 := hw35.trans e775
            obtain ⟨s777, A777, n777, c777, rfl, z777⟩ := r776
            exact pi_done rfl e775 ⟨_, _, _, _, rfl, z777⟩
          · -- 4
            intro v778 e779
            have hw35 : Ext w v778 := hw34.trans e779
            refine deps_cons rfl rfl fun x780 y781 h782 e783 f784 => ?_
            obtain rfl := h782
            refine deps_cons rfl rfl fun x785 y786 h787 e788 f789 => ?_
            obtain ⟨s790, A790, n790, c790, rfl, z790⟩ := h787
            have z790 := z790.ext f789
            refine deps_nil ?_
            refine wl_call rfl rfl (vs := [.agg #[.bool sb, .slice Ab nb cb], .agg #[.bool s790, .slice A790 n790 c790]]) (by kernel_rfl) (by decide) (g_law6_divides (hm.ext hw35) (Nat.le_trans lb (by decide)) z790.zi (z790.le (Nat.le_trans L751 (by decide))) (crt_b (Int.dvd_lcm_left m n) d1)) ?_
            rintro _ v791 ⟨xr793, rfl, r793, e792⟩
            refine ret_intro ?_
            have hw36 : Ext w v791 := hw35.trans e792
            obtain rfl := r793
            exact pi_done rfl e792 rfl
          · -- 5
            intro v794 e795
            have hw35 : Ext w v794 := hw34.trans e795
            refine deps_cons rfl rfl fun x796 y797 h798 e799 f800 => ?_
            obtain rfl := h798
            refine deps_nil ?_
            refine wl_move rfl rfl (by decide) ?_
            exact pi_done rfl (Ext.refl _) rfl
          · -- 6
            intro v801 e802
            have hw35 : Ext w v801 := hw34.trans e802
            refine deps_cons rfl rfl fun x803 y804 h805 e806 f807 => ?_
            obtain rfl := h805
            refine deps_nil ?_
            refine wl_load rfl rfl (load_agg aggInt (((((((((((hb50.ext (e225.trans (e232.trans e238))).updN u245 (by omega)).updN u250 (by omega)).ext (e254.trans (e260.trans (e267.trans (e274.trans e280))))).updN u287 (by omega)).updN u292 (by omega)).ext (e295.trans (e298.trans (e301.trans (e304.trans (e308.trans e313)))))).updN u320 (by omega)).ext (e324.trans e329)).updN u336 (by omega)).ext (e339.trans (e619.trans e802))) [.bool sd, .slice Ad nd cd] rfl (Nat.le_of_ble_eq_true rfl) rfl) (by decide) ?_
            exact pi_done rfl (Ext.refl _) rfl
          · -- 7
            intro v808 e809
            have hw35 : Ext w v808 := hw34.trans e809
            refine deps_cons rfl rfl fun x810 y811 h812 e813 f814 => ?_
            obtain rfl := h812
            refine deps_nil ?_
            refine wl_load rfl rfl (load_agg aggInt (((((((((hb244.updN u250 (by omega)).ext (e254.trans (e260.trans (e267.trans (e274.trans e280))))).updN u287 (by omega)).updN u292 (by omega)).ext (e295.trans (e298.trans (e301.trans (e304.trans (e308.trans e313)))))).updN u320 (by omega)).ext (e324.trans e329)).updN u336 (by omega)).ext (e339.trans (e619.trans e809))) [.bool s228, .slice A228 n228 c228] rfl (Nat.le_of_ble_eq_true rfl) rfl) (by decide) ?_
            exact pi_done rfl (Ext.refl _) rfl
          · -- 8
            intro v815 e816
            have hw35 : Ext w v815 := hw34.trans e816
            refine deps_cons rfl rfl fun x817 y818 h819 e820 f821 => ?_
            obtain rfl := h819
            refine deps_nil ?_
            refine wl_load rfl rfl (load_agg aggInt (((((((((((((hb39.ext e44).updN u51 (by omega)).ext (e225.trans (e232.trans e238))).updN u245 (by omega)).updN u250 (by omega)).ext (e254.trans (e260.trans (e267.trans (e274.trans e280))))).updN u287 (by omega)).updN u292 (by omega)).ext (e295.trans (e298.trans (e301.trans (e304.trans (e308.trans e313)))))).updN u320 (by omega)).ext (e324.trans e329)).updN u336 (by omega)).ext (e339.trans (e619.trans e816))) [.bool sf, .slice Af nf cf] rfl (Nat.le_of_ble_eq_true rfl) rfl) (by decide) ?_
            exact pi_done rfl (Ext.refl _) rfl
          · -- 9
            intro v822 e823
            have hw35 : Ext w v822 := hw34.trans e823
            refine deps_cons rfl rfl fun x824 y825 h826 e827 f828 => ?_
            obtain rfl := h826
            refine deps_cons rfl rfl fun x829 y830 h831 e832 f833 => ?_
            obtain rfl := h831
            refine deps_cons rfl rfl fun x834 y835 h836 e837 f838 => ?_
            obtain rfl := h836
            refine deps_nil ?_
            have L839 : ln ((s % (Int.lcm m n : Int)) - y) ≤ 2097153 := Nat.le_trans (ln_sub L223 Ly) (by decide)
            refine wl_call rfl rfl (vs := [.agg #[.bool s228, .slice A228 n228 c228], .agg #[.bool sf, .slice Af nf cf]]) (by kernel_rfl) (by decide) (g_ref5_Sub hw35.size (((((((((((z228.ext (e232.trans e238)).updT hb243 u245).updT hb248 u250).ext (e254.trans (e260.trans (e267.trans (e274.trans e280))))).updT hb285 u287).updT hb290 u292).ext (e295.trans (e298.trans (e301.trans (e304.trans (e308.trans e313)))))).updT hb318 u320).ext (e324.trans e329)).updT hb334 u336).ext (e339.trans (e619.trans e823))).zi (z228.le (Nat.le_trans L223 (by decide))) (hy.ext hw35) (Nat.le_trans lf (by decide))) ?_
            rintro _ v840 ⟨xr842, rfl, r842, e841⟩
            refine ret_intro ?_
            have hw36 : Ext w v840 := hw35.trans e841
            obtain ⟨s843, A843, n843, c843, rfl, z843⟩ := r842
            exact pi_done rfl e841 ⟨_, _, _, _, rfl, z843⟩
          · -- 10
            intro v844 e845
            have hw35 : Ext w v844 := hw34.trans e845
            refine deps_cons rfl rfl fun x846 y847 h848 e849 f850 => ?_
            obtain rfl := h848
            refine deps_cons rfl rfl fun x851 y852 h853 e854 f855 => ?_
            obtain rfl := h853
            refine deps_cons rfl rfl fun x856 y857 h858 e859 f860 => ?_
            obtain ⟨s861, A861, n861, c861, rfl, z861⟩ := h858
            have z861 := z861.ext f860
            refine deps_nil ?_
            refine wl_call rfl rfl (vs := [.agg #[.bool sd, .slice Ad nd cd], .agg #[.bool s861, .slice A861 n861 c861]]) (by kernel_rfl) (by decide) (g_law6_divides (hn.ext hw35) (Nat.le_trans ld (by decide)) z861.zi (z861.le (Nat.le_trans L753 (by decide))) (crt_b (Int.dvd_lcm_right m n) d2)) ?_
            rintro _ v862 ⟨xr864, rfl, r864, e863⟩
            refine ret_intro ?_
            have hw36 : Ext w v862 := hw35.trans e863
            obtain rfl := r864
            exact pi_done rfl e863 rfl
          · -- 11
            intro v865 e866
            have hw35 : Ext w v865 := hw34.trans e866
            refine deps_cons rfl rfl fun x867 y868 h869 e870 f871 => ?_
            obtain rfl := h869
            refine deps_cons rfl rfl fun x872 y873 h874 e875 f876 => ?_
            obtain rfl := h874
            refine deps_nil ?_
            refine wl_pure rfl rfl (v := .bool true) (by decide) (by kernel_rfl) ?_
            exact pi_done rfl (Ext.refl _) rfl
          · -- all
            intro v877 e878
            have hw35 : Ext w v877 := hw34.trans e878
            refine deps_cons rfl rfl fun x879 y880 h881 e882 f883 => ?_
            obtain rfl := h881
            refine deps_cons rfl rfl fun x884 y885 h886 e887 f888 => ?_
            obtain rfl := h886
            refine deps_cons rfl rfl fun x889 y890 h891 e892 f893 => ?_
            obtain rfl := h891
            refine deps_cons rfl rfl fun x894 y895 h896 e897 f898 => ?_
            obtain ⟨s899, A899, n899, c899, rfl, z899⟩ := h896
            have z899 := z899.ext f898
            refine deps_cons rfl rfl fun x900 y901 h902 e903 f904 => ?_
            obtain rfl := h902
            refine deps_cons rfl rfl fun x905 y906 h907 e908 f909 => ?_
            obtain rfl := h907
            refine deps_cons rfl rfl fun x910 y911 h912 e913 f914 => ?_
            obtain rfl := h912
            refine deps_cons rfl rfl fun x915 y916 h917 e918 f919 => ?_
            obtain rfl := h917
            refine deps_cons rfl rfl fun x920 y921 h922 e923 f924 => ?_
            obtain rfl := h922
            refine deps_cons rfl rfl fun x925 y926 h927 e928 f929 => ?_
            obtain ⟨s930, A930, n930, c930, rfl, z930⟩ := h927
            have z930 := z930.ext f929
            refine deps_cons rfl rfl fun x931 y932 h933 e934 f935 => ?_
            obtain rfl := h933
            refine deps_cons rfl rfl fun x936 y937 h938 e939 f940 => ?_
            obtain rfl := h938
            refine deps_nil ?_
            refine wl_assign rfl rfl (by decide) ?_
            refine wl_nil ?_
            refine eo_np ?_
            refine eo_then ?_
            refine cw_ret ?_
            refine eo_ret [.bool true] rfl ⟨rfl, trivial⟩ ?_
            exact bool_of _ _ ⟨_, rfl, rfl, hw35⟩
      ·
        refine cw_region ?_
        refine wl_load rfl rfl (load_agg aggInt ((((((hb17.ext e22).updN u29 (by omega)).ext e33).updN u40 (by omega)).ext e44).updN u51 (by omega)) [.bool sa, .slice Aa na ca] rfl (Nat.le_of_ble_eq_true rfl) rfl) (by decide) ?_
        refine wl_load rfl rfl (load_agg aggInt ((((hb28.ext e33).updN u40 (by omega)).ext e44).updN u51 (by omega)) [.bool sb, .slice Ab nb cb] rfl (Nat.le_of_ble_eq_true rfl) rfl) (by decide) ?_
        refine wl_load rfl rfl (load_agg aggInt ((hb39.ext e44).updN u51 (by omega)) [.bool sf, .slice Af nf cf] rfl (Nat.le_of_ble_eq_true rfl) rfl) (by decide) ?_
        refine wl_load rfl rfl (load_agg aggInt hb50 [.bool sd, .slice Ad nd cd] rfl (Nat.le_of_ble_eq_true rfl) rfl) (by decide) ?_
        refine wl_call rfl rfl (vs := [.agg #[.bool sa, .slice Aa na ca], .agg #[.bool sb, .slice Ab nb cb], .agg #[.bool sf, .slice Af nf cf], .agg #[.bool sd, .slice Ad nd cd]]) (by kernel_rfl) (by decide) (g_bezout_Crt_none hw10.size (hx.ext hw10) (Nat.le_trans la (by decide)) (hm.ext hw10) (Nat.le_trans lb (by decide)) (hy.ext hw10) (Nat.le_trans lf (by decide)) (hn.ext hw10) (Nat.le_trans ld (by decide)) hm0 hn0 hd) ?_
        rintro _ v941 ⟨xr943, rfl, r943, e942⟩
        refine ret_intro ?_
        have hw11 : Ext w v941 := hw10.trans e942
        obtain ⟨a944_0, a944_1, a944_2, rfl, r944_0, r944_1, r944_2⟩ := r943
        obtain ⟨s945, A945, n945, c945, rfl, z945⟩ := r944_0
        obtain ⟨s946, A946, n946, c946, rfl, z946⟩ := r944_1
        obtain rfl := r944_2
        refine wl_move rfl rfl (by decide) ?_
        refine wl_pure rfl rfl (v := .agg #[.bool s945, .slice A945 n945 c945]) (by decide) (by kernel_rfl) ?_
        refine wl_pure rfl rfl (v := .agg #[.bool s946, .slice A946 n946 c946]) (by decide) (by kernel_rfl) ?_
        refine wl_pure rfl rfl (v := .int .i64 6) (by decide) (by kernel_rfl) ?_
        refine wl_alloc rfl (z := .agg #[.bool false, .slice none 0 0]) (vs := [.bool false, .slice none 0 0]) (fun _ => by kernel_rfl) rfl (by decide) fun g947 v948 nb => ?_
        have hb950 := nb.bk
        have ge951 : w.heap.size ≤ g947 := by rw [← nb.at_]; exact hw11.size
        have q952 : g42 < g947 := by rw [← nb.at_]; exact (hb50.ext e942).lt
        have e949 := nb.ext
        clear nb
        have hw12 : Ext w v948 := hw11.trans e949
        refine wl_alloc rfl (z := .agg #[.bool false, .slice none 0 0]) (vs := [.bool false, .slice none 0 0]) (fun _ => by kernel_rfl) rfl (by decide) fun g953 v954 nb => ?_
        have hb956 := nb.bk
        have ge957 : w.heap.size ≤ g953 := by rw [← nb.at_]; exact hw12.size
        have q958 : g947 < g953 := by rw [← nb.at_]; exact hb950.lt
        have e955 := nb.ext
        clear nb
        have hw13 : Ext w v954 := hw12.trans e955
        have hb960 := (hb950.ext e955)
        refine wl_stored rfl rfl rfl aggInt rfl hb960 (Nat.le_of_ble_eq_true rfl) rfl [.bool s945, .slice A945 n945 c945] rfl fun v959 hb961 u962 hs963 => ?_
        have hw14 : Ext w v959 := u962.ext hw13 ge951
        have hb965 := (hb956.updN u962 (by omega))
        refine wl_stored rfl rfl rfl aggInt rfl hb965 (Nat.le_of_ble_eq_true rfl) rfl [.bool s946, .slice A946 n946 c946] rfl fun v964 hb966 u967 hs968 => ?_
        have hw15 : Ext w v964 := u967.ext hw14 ge957
        refine wl_assign rfl rfl (by decide) ?_
        refine wl_nil ?_
        refine eo_then ?_
        refine cw_seq ?_
        refine cw_region ?_
        refine wl_load rfl rfl (load_agg aggInt (((((((((hb17.ext e22).updN u29 (by omega)).ext e33).updN u40 (by omega)).ext e44).updN u51 (by omega)).ext (e942.trans (e949.trans e955))).updN u962 (by omega)).updN u967 (by omega)) [.bool sa, .slice Aa na ca] rfl (Nat.le_of_ble_eq_true rfl) rfl) (by decide) ?_
        refine wl_load rfl rfl (load_agg aggInt (((((hb39.ext e44).updN u51 (by omega)).ext (e942.trans (e949.trans e955))).updN u962 (by omega)).updN u967 (by omega)) [.bool sf, .slice Af nf cf] rfl (Nat.le_of_ble_eq_true rfl) rfl) (by decide) ?_
        refine wl_bslice rfl rfl (by decide) (k := 2) (e := 27) [.bool sa, .slice Aa na ca, .bool sf, .slice Af nf cf] (fun _ => by kernel_rfl) fun g969 v970 nb => ?_
        have hb972 := nb.bk
        have ge973 : w.heap.size ≤ g969 := by rw [← nb.at_]; exact hw15.size
        have q974 : g953 < g969 := by rw [← nb.at_]; exact hb966.lt
        have e971 := nb.ext
        clear nb
        have hw16 : Ext w v970 := hw15.trans e971
        refine wl_load rfl rfl (load_agg aggInt ((((((((hb28.ext e33).updN u40 (by omega)).ext e44).updN u51 (by omega)).ext (e942.trans (e949.trans e955))).updN u962 (by omega)).updN u967 (by omega)).ext e971) [.bool sb, .slice Ab nb cb] rfl (Nat.le_of_ble_eq_true rfl) rfl) (by decide) ?_
        refine wl_load rfl rfl (load_agg aggInt ((((hb50.ext (e942.trans (e949.trans e955))).updN u962 (by omega)).updN u967 (by omega)).ext e971) [.bool sd, .slice Ad nd cd] rfl (Nat.le_of_ble_eq_true rfl) rfl) (by decide) ?_
        refine wl_bslice rfl rfl (by decide) (k := 2) (e := 27) [.bool sb, .slice Ab nb cb, .bool sd, .slice Ad nd cd] (fun _ => by kernel_rfl) fun g975 v976 nb => ?_
        have hb978 := nb.bk
        have ge979 : w.heap.size ≤ g975 := by rw [← nb.at_]; exact hw16.size
        have q980 : g969 < g975 := by rw [← nb.at_]; exact hb972.lt
        have e977 := nb.ext
        clear nb
        have hw17 : Ext w v976 := hw16.trans e977
        refine wl_call rfl rfl (vs := [.slice (some ⟨g969, 0, none⟩) 2 2, .slice (some ⟨g975, 0, none⟩) 2 2]) (by kernel_rfl) (by decide) (g_bezout_CrtAll_none hw17.size (zl_two (hb972.ext e977) (hx.ext hw17) (hy.ext hw17)) (zl_two hb978 (hm.ext hw17) (hn.ext hw17)) (by decide) (two_le (Nat.le_trans la (by decide)) (Nat.le_trans lf (by decide))) (two_le (Nat.le_trans lb (by decide)) (Nat.le_trans ld (by decide))) (two_sum (by omega)) h0 (two_none hd)) ?_
        rintro _ v981 ⟨xr983, rfl, r983, e982⟩
        refine ret_intro ?_
        have hw18 : Ext w v981 := hw17.trans e982
        obtain ⟨a984_0, a984_1, a984_2, rfl, r984_0, r984_1, r984_2⟩ := r983
        obtain ⟨s985, A985, n985, c985, rfl, z985⟩ := r984_0
        obtain ⟨s986, A986, n986, c986, rfl, z986⟩ := r984_1
        obtain rfl := r984_2
        refine wl_move rfl rfl (by decide) ?_
        refine wl_pure rfl rfl (v := .agg #[.bool s985, .slice A985 n985 c985]) (by decide) (by kernel_rfl) ?_
        refine wl_pure rfl rfl (v := .agg #[.bool s986, .slice A986 n986 c986]) (by decide) (by kernel_rfl) ?_
        refine wl_pure rfl rfl (v := .int .i64 6) (by decide) (by kernel_rfl) ?_
        refine wl_alloc rfl (z := .agg #[.bool false, .slice none 0 0]) (vs := [.bool false, .slice none 0 0]) (fun _ => by kernel_rfl) rfl (by decide) fun g987 v988 nb => ?_
        have hb990 := nb.bk
        have ge991 : w.heap.size ≤ g987 := by rw [← nb.at_]; exact hw18.size
        have q992 : g975 < g987 := by rw [← nb.at_]; exact (hb978.ext e982).lt
        have e989 := nb.ext
        clear nb
        have hw19 : Ext w v988 := hw18.trans e989
        refine wl_alloc rfl (z := .agg #[.bool false, .slice none 0 0]) (vs := [.bool false, .slice none 0 0]) (fun _ => by kernel_rfl) rfl (by decide) fun g993 v994 nb => ?_
        have hb996 := nb.bk
        have ge997 : w.heap.size ≤ g993 := by rw [← nb.at_]; exact hw19.size
        have q998 : g987 < g993 := by rw [← nb.at_]; exact hb990.lt
        have e995 := nb.ext
        clear nb
        have hw20 : Ext w v994 := hw19.trans e995
        have hb1000 := (hb990.ext e995)
        refine wl_stored rfl rfl rfl aggInt rfl hb1000 (Nat.le_of_ble_eq_true rfl) rfl [.bool s985, .slice A985 n985 c985] rfl fun v999 hb1001 u1002 hs1003 => ?_
        have hw21 : Ext w v999 := u1002.ext hw20 ge991
        have hb1005 := (hb996.updN u1002 (by omega))
        refine wl_stored rfl rfl rfl aggInt rfl hb1005 (Nat.le_of_ble_eq_true rfl) rfl [.bool s986, .slice A986 n986 c986] rfl fun v1004 hb1006 u1007 hs1008 => ?_
        have hw22 : Ext w v1004 := u1007.ext hw21 ge997
        refine wl_assign rfl rfl (by decide) ?_
        refine wl_nil ?_
        refine eo_then ?_
        refine cw_seq ?_
        refine cw_seq ?_
        refine cw_region ?_
        refine wl_load rfl rfl (load_agg aggInt ((((hb961.updN u967 (by omega)).ext (e971.trans (e977.trans (e982.trans (e989.trans e995))))).updN u1002 (by omega)).updN u1007 (by omega)) [.bool s945, .slice A945 n945 c945] rfl (Nat.le_of_ble_eq_true rfl) rfl) (by decide) ?_
        refine wl_load rfl rfl (load_agg aggInt (hb1001.updN u1007 (by omega)) [.bool s985, .slice A985 n985 c985] rfl (Nat.le_of_ble_eq_true rfl) rfl) (by decide) ?_
        refine wl_call rfl rfl (vs := [.agg #[.bool s945, .slice A945 n945 c945], .agg #[.bool s985, .slice A985 n985 c985]]) (by kernel_rfl) (by decide) (g_law6_alike ((((((z945.ext (e949.trans e955)).updT hb960 u962).updT hb965 u967).ext (e971.trans (e977.trans (e982.trans (e989.trans e995))))).updT hb1000 u1002).updT hb1005 u1007) (z945.le (Nat.le_trans (show ln 0 ≤ 0 by decide) (by decide))) (((z985.ext (e989.trans e995)).updT hb1000 u1002).updT hb1005 u1007) (z985.le (Nat.le_trans (show ln 0 ≤ 0 by decide) (by decide)))) ?_
        rintro _ v1009 ⟨xr1011, rfl, r1011, e1010⟩
        refine ret_intro ?_
        have hw23 : Ext w v1009 := hw22.trans e1010
        obtain rfl := r1011
        refine wl_pure rfl rfl (v := .bool false) (by decide) (by kernel_rfl) ?_
        refine wl_move rfl rfl (by decide) ?_
        refine wl_load rfl rfl (load_agg aggInt ((((hb966.ext (e971.trans (e977.trans (e982.trans (e989.trans e995))))).updN u1002 (by omega)).updN u1007 (by omega)).ext e1010) [.bool s946, .slice A946 n946 c946] rfl (Nat.le_of_ble_eq_true rfl) rfl) (by decide) ?_
        refine wl_load rfl rfl (load_agg aggInt (hb1006.ext e1010) [.bool s986, .slice A986 n986 c986] rfl (Nat.le_of_ble_eq_true rfl) rfl) (by decide) ?_
        refine wl_call rfl rfl (vs := [.agg #[.bool s946, .slice A946 n946 c946], .agg #[.bool s986, .slice A986 n986 c986]]) (by kernel_rfl) (by decide) (g_law6_alike (((((((z946.ext (e949.trans e955)).updT hb960 u962).updT hb965 u967).ext (e971.trans (e977.trans (e982.trans (e989.trans e995))))).updT hb1000 u1002).updT hb1005 u1007).ext e1010) (z946.le (Nat.le_trans (show ln 0 ≤ 0 by decide) (by decide))) ((((z986.ext (e989.trans e995)).updT hb1000 u1002).updT hb1005 u1007).ext e1010) (z986.le (Nat.le_trans (show ln 0 ≤ 0 by decide) (by decide)))) ?_
        rintro _ v1012 ⟨xr1014, rfl, r1014, e1013⟩
        refine ret_intro ?_
        have hw24 : Ext w v1012 := hw23.trans e1013
        obtain rfl := r1014
        refine wl_pure rfl rfl (v := .bool false) (by decide) (by kernel_rfl) ?_
        refine wl_pure rfl rfl (v := .bool false) (by decide) (by kernel_rfl) ?_
        refine wl_move rfl rfl (by decide) ?_
        refine wl_move rfl rfl (by decide) ?_
        refine wl_move rfl rfl (by decide) ?_
        refine wl_cmp rfl rfl rfl false (by decide) (by decide) ?_
        refine wl_pure rfl rfl (v := .bool false) (by decide) (by kernel_rfl) ?_
        refine wl_nil ?_
        refine eo_then ?_
        refine cw_false rfl ?_
        refine cw_skip ?_
        refine eo_then ?_
        refine cw_seq ?_
        refine cw_seq ?_
        refine cw_region ?_
        refine wl_load rfl rfl (load_agg aggInt (((((((((((hb28.ext e33).updN u40 (by omega)).ext e44).updN u51 (by omega)).ext (e942.trans (e949.trans e955))).updN u962 (by omega)).updN u967 (by omega)).ext (e971.trans (e977.trans (e982.trans (e989.trans e995))))).updN u1002 (by omega)).updN u1007 (by omega)).ext (e1010.trans e1013)) [.bool sb, .slice Ab nb cb] rfl (Nat.le_of_ble_eq_true rfl) rfl) (by decide) ?_
        refine wl_call rfl rfl (vs := [.agg #[.bool sb, .slice Ab nb cb]]) (by kernel_rfl) (by decide) (g_ref5_Sign (hm.ext hw24) (Nat.le_trans lb (by decide))) ?_
        rintro _ v1015 ⟨xr1017, rfl, r1017, e1016⟩
        refine ret_intro ?_
        have hw25 : Ext w v1015 := hw24.trans e1016
        obtain rfl := r1017
        refine wl_cmp rfl rfl rfl false (scmp_eq_f hm0) (by decide) ?_
        refine wl_move rfl rfl (by decide) ?_
        refine wl_load rfl rfl (load_agg aggInt (((((((hb50.ext (e942.trans (e949.trans e955))).updN u962 (by omega)).updN u967 (by omega)).ext (e971.trans (e977.trans (e982.trans (e989.trans e995))))).updN u1002 (by omega)).updN u1007 (by omega)).ext (e1010.trans (e1013.trans e1016))) [.bool sd, .slice Ad nd cd] rfl (Nat.le_of_ble_eq_true rfl) rfl) (by decide) ?_
        refine wl_call rfl rfl (vs := [.agg #[.bool sd, .slice Ad nd cd]]) (by kernel_rfl) (by decide) (g_ref5_Sign (hn.ext hw25) (Nat.le_trans ld (by decide))) ?_
        rintro _ v1018 ⟨xr1020, rfl, r1020, e1019⟩
        refine ret_intro ?_
        have hw26 : Ext w v1018 := hw25.trans e1019
        obtain rfl := r1020
        refine wl_cmp rfl rfl rfl false (scmp_eq_f hn0) (by decide) ?_
        refine wl_pure rfl rfl (v := .bool false) (by decide) (by kernel_rfl) ?_
        refine wl_nil ?_
        refine eo_then ?_
        refine cw_false rfl ?_
        refine cw_skip ?_
        refine eo_then ?_
        refine cw_seq ?_
        refine cw_region ?_
        refine wl_load rfl rfl (load_agg aggInt (((((((((((hb28.ext e33).updN u40 (by omega)).ext e44).updN u51 (by omega)).ext (e942.trans (e949.trans e955))).updN u962 (by omega)).updN u967 (by omega)).ext (e971.trans (e977.trans (e982.trans (e989.trans e995))))).updN u1002 (by omega)).updN u1007 (by omega)).ext (e1010.trans (e1013.trans (e1016.trans e1019)))) [.bool sb, .slice Ab nb cb] rfl (Nat.le_of_ble_eq_true rfl) rfl) (by decide) ?_
        refine wl_load rfl rfl (load_agg aggInt (((((((hb50.ext (e942.trans (e949.trans e955))).updN u962 (by omega)).updN u967 (by omega)).ext (e971.trans (e977.trans (e982.trans (e989.trans e995))))).updN u1002 (by omega)).updN u1007 (by omega)).ext (e1010.trans (e1013.trans (e1016.trans e1019)))) [.bool sd, .slice Ad nd cd] rfl (Nat.le_of_ble_eq_true rfl) rfl) (by decide) ?_
        have L1021 : ln ((Int.gcd m n : Int)) ≤ 1048576 := Nat.le_trans (ln_gcd _ _) (Nat.max_le.2 ⟨Nat.le_trans Lm (by decide), Nat.le_trans Ln (by decide)⟩)
        refine wl_call rfl rfl (vs := [.agg #[.bool sb, .slice Ab nb cb], .agg #[.bool sd, .slice Ad nd cd]]) (by kernel_rfl) (by decide) (g_bezout_Gcd hw26.size (hm.ext hw26) (Nat.le_trans lb (by decide)) (hn.ext hw26) (Nat.le_trans ld (by decide))) ?_
        rintro _ v1022 ⟨xr1024, rfl, r1024, e1023⟩
        refine ret_intro ?_
        have hw27 : Ext w v1022 := hw26.trans e1023
        obtain ⟨s1025, A1025, n1025, c1025, rfl, z1025⟩ := r1024
        refine wl_alloc rfl (z := .agg #[.bool false, .slice none 0 0]) (vs := [.bool false, .slice none 0 0]) (fun _ => by kernel_rfl) rfl (by decide) fun g1026 v1027 nb => ?_
        have hb1029 := nb.bk
        have ge1030 : w.heap.size ≤ g1026 := by rw [← nb.at_]; exact hw27.size
        have q1031 : g993 < g1026 := by rw [← nb.at_]; exact (hb1006.ext (e1010.trans (e1013.trans (e1016.trans (e1019.trans e1023))))).lt
        have e1028 := nb.ext
        clear nb
        have hw28 : Ext w v1027 := hw27.trans e1028
        have hb1033 := hb1029
        refine wl_stored rfl rfl rfl aggInt rfl hb1033 (Nat.le_of_ble_eq_true rfl) rfl [.bool s1025, .slice A1025 n1025 c1025] rfl fun v1032 hb1034 u1035 hs1036 => ?_
        have hw29 : Ext w v1032 := u1035.ext hw28 ge1030
        refine wl_nil ?_
        refine eo_then ?_
        refine cw_seq ?_
        refine cw_region ?_
        refine wl_load rfl rfl (load_agg aggInt ((((((((((hb39.ext e44).updN u51 (by omega)).ext (e942.trans (e949.trans e955))).updN u962 (by omega)).updN u967 (by omega)).ext (e971.trans (e977.trans (e982.trans (e989.trans e995))))).updN u1002 (by omega)).updN u1007 (by omega)).ext (e1010.trans (e1013.trans (e1016.trans (e1019.trans (e1023.trans e1028)))))).updN u1035 (by omega)) [.bool sf, .slice Af nf cf] rfl (Nat.le_of_ble_eq_true rfl) rfl) (by decide) ?_
        refine wl_load rfl rfl (load_agg aggInt ((((((((((((((hb17.ext e22).updN u29 (by omega)).ext e33).updN u40 (by omega)).ext e44).updN u51 (by omega)).ext (e942.trans (e949.trans e955))).updN u962 (by omega)).updN u967 (by omega)).ext (e971.trans (e977.trans (e982.trans (e989.trans e995))))).updN u1002 (by omega)).updN u1007 (by omega)).ext (e1010.trans (e1013.trans (e1016.trans (e1019.trans (e1023.trans e1028)))))).updN u1035 (by omega)) [.bool sa, .slice Aa na ca] rfl (Nat.le_of_ble_eq_true rfl) rfl) (by decide) ?_
        have L1037 : ln (y - x) ≤ 1048577 := Nat.le_trans (ln_sub Ly Lx) (by decide)
        refine wl_call rfl rfl (vs := [.agg #[.bool sf, .slice Af nf cf], .agg #[.bool sa, .slice Aa na ca]]) (by kernel_rfl) (by decide) (g_ref5_Sub hw29.size (hy.ext hw29) (Nat.le_trans lf (by decide)) (hx.ext hw29) (Nat.le_trans la (by decide))) ?_
        rintro _ v1038 ⟨xr1040, rfl, r1040, e1039⟩
        refine ret_intro ?_
        have hw30 : Ext w v1038 := hw29.trans e1039
        obtain ⟨s1041, A1041, n1041, c1041, rfl, z1041⟩ := r1040
        refine wl_alloc rfl (z := .agg #[.bool false, .slice none 0 0]) (vs := [.bool false, .slice none 0 0]) (fun _ => by kernel_rfl) rfl (by decide) fun g1042 v1043 nb => ?_
        have hb1045 := nb.bk
        have ge1046 : w.heap.size ≤ g1042 := by rw [← nb.at_]; exact hw30.size
        have q1047 : g1026 < g1042 := by rw [← nb.at_]; exact (hb1034.ext e1039).lt
        have e1044 := nb.ext
        clear nb
        have hw31 : Ext w v1043 := hw30.trans e1044
        have hb1049 := hb1045
        refine wl_stored rfl rfl rfl aggInt rfl hb1049 (Nat.le_of_ble_eq_true rfl) rfl [.bool s1041, .slice A1041 n1041 c1041] rfl fun v1048 hb1050 u1051 hs1052 => ?_
        have hw32 : Ext w v1048 := u1051.ext hw31 ge1046
        refine wl_nil ?_
        refine eo_then ?_
        refine cw_seq ?_
        refine cw_seq ?_
        refine cw_region ?_
        refine wl_load rfl rfl (load_agg aggInt ((hb1034.ext (e1039.trans e1044)).updN u1051 (by omega)) [.bool s1025, .slice A1025 n1025 c1025] rfl (Nat.le_of_ble_eq_true rfl) rfl) (by decide) ?_
        refine wl_load rfl rfl (load_agg aggInt hb1050 [.bool s1041, .slice A1041 n1041 c1041] rfl (Nat.le_of_ble_eq_true rfl) rfl) (by decide) ?_
        refine wl_call rfl rfl (vs := [.agg #[.bool s1025, .slice A1025 n1025 c1025], .agg #[.bool s1041, .slice A1041 n1041 c1041]]) (by kernel_rfl) (by decide) (g_law6_divides_f ((((z1025.ext e1028).updT hb1033 u1035).ext (e1039.trans e1044)).updT hb1049 u1051).zi (z1025.le (Nat.le_trans L1021 (by decide))) ((z1041.ext e1044).updT hb1049 u1051).zi (z1041.le (Nat.le_trans L1037 (by decide))) hd) ?_
        rintro _ v1053 ⟨xr1055, rfl, r1055, e1054⟩
        refine ret_intro ?_
        have hw33 : Ext w v1053 := hw32.trans e1054
        obtain rfl := r1055
        refine wl_pure rfl rfl (v := .bool true) (by decide) (by kernel_rfl) ?_
        refine wl_nil ?_
        refine eo_then ?_
        refine cw_true rfl ?_
        refine cw_seq ?_
        refine cw_region ?_
        refine wl_move rfl rfl (by decide) ?_
        refine wl_cmp rfl rfl rfl true (by decide) (by decide) ?_
        refine wl_move rfl rfl (by decide) ?_
        refine wl_load rfl rfl (load_agg aggInt (((((((((hb961.updN u967 (by omega)).ext (e971.trans (e977.trans (e982.trans (e989.trans e995))))).updN u1002 (by omega)).updN u1007 (by omega)).ext (e1010.trans (e1013.trans (e1016.trans (e1019.trans (e1023.trans e1028)))))).updN u1035 (by omega)).ext (e1039.trans e1044)).updN u1051 (by omega)).ext e1054) [.bool s945, .slice A945 n945 c945] rfl (Nat.le_of_ble_eq_true rfl) rfl) (by decide) ?_
        refine wl_pure rfl rfl (v := .agg #[.bool false, .slice none 0 0]) (by decide) (by kernel_rfl) ?_
        refine wl_call rfl rfl (vs := [.agg #[.bool s945, .slice A945 n945 c945], .agg #[.bool false, .slice none 0 0]]) (by kernel_rfl) (by decide) (g_law6_alike (((((((((((z945.ext (e949.trans e955)).updT hb960 u962).updT hb965 u967).ext (e971.trans (e977.trans (e982.trans (e989.trans e995))))).updT hb1000 u1002).updT hb1005 u1007).ext (e1010.trans (e1013.trans (e1016.trans (e1019.trans (e1023.trans e1028)))))).updT hb1033 u1035).ext (e1039.trans e1044)).updT hb1049 u1051).ext e1054) (z945.le (Nat.le_trans (show ln 0 ≤ 0 by decide) (by decide))) (Zr.zero (w := v1053) (base := w.heap.size)) ((Zr.zero (w := v1053) (base := w.heap.size)).le (Nat.le_trans (by decide : ln 0 ≤ 0) (by decide)))) ?_
        rintro _ v1056 ⟨xr1058, rfl, r1058, e1057⟩
        refine ret_intro ?_
        have hw34 : Ext w v1056 := hw33.trans e1057
        obtain rfl := r1058
        refine wl_pure rfl rfl (v := .bool true) (by decide) (by kernel_rfl) ?_
        refine wl_move rfl rfl (by decide) ?_
        refine wl_load rfl rfl (load_agg aggInt ((((((((hb966.ext (e971.trans (e977.trans (e982.trans (e989.trans e995))))).updN u1002 (by omega)).updN u1007 (by omega)).ext (e1010.trans (e1013.trans (e1016.trans (e1019.trans (e1023.trans e1028)))))).updN u1035 (by omega)).ext (e1039.trans e1044)).updN u1051 (by omega)).ext (e1054.trans e1057)) [.bool s946, .slice A946 n946 c946] rfl (Nat.le_of_ble_eq_true rfl) rfl) (by decide) ?_
        refine wl_pure rfl rfl (v := .agg #[.bool false, .slice none 0 0]) (by decide) (by kernel_rfl) ?_
        refine wl_call rfl rfl (vs := [.agg #[.bool s946, .slice A946 n946 c946], .agg #[.bool false, .slice none 0 0]]) (by kernel_rfl) (by decide) (g_law6_alike (((((((((((z946.ext (e949.trans e955)).updT hb960 u962).updT hb965 u967).ext (e971.trans (e977.trans (e982.trans (e989.trans e995))))).updT hb1000 u1002).updT hb1005 u1007).ext (e1010.trans (e1013.trans (e1016.trans (e1019.trans (e1023.trans e1028)))))).updT hb1033 u1035).ext (e1039.trans e1044)).updT hb1049 u1051).ext (e1054.trans e1057)) (z946.le (Nat.le_trans (show ln 0 ≤ 0 by decide) (by decide))) (Zr.zero (w := v1056) (base := w.heap.size)) ((Zr.zero (w := v1056) (base := w.heap.size)).le (Nat.le_trans (by decide : ln 0 ≤ 0) (by decide)))) ?_
        rintro _ v1059 ⟨xr1061, rfl, r1061, e1060⟩
        refine ret_intro ?_
        have hw35 : Ext w v1059 := hw34.trans e1060
        obtain rfl := r1061
        refine wl_pure rfl rfl (v := .bool true) (by decide) (by kernel_rfl) ?_
        refine wl_assign rfl rfl (by decide) ?_
        refine wl_nil ?_
        refine eo_then ?_
        refine cw_ret ?_
        refine eo_thenR ?_
        refine eo_ret [.bool true] rfl ⟨rfl, trivial⟩ ?_
        exact bool_of _ _ ⟨_, rfl, rfl, hw35⟩
end Go.Proofs.Ytmaconeeonkdgaa
