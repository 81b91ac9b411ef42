/- bezout.Inverse, frac.Recover -/
import Derived.Test.YtmaconeeonkdgaaFr
import Derived.Test.YtmaconeeonkdgaaRec
namespace Go.Proofs.Ytmaconeeonkdgaa
open Go.RowKit

theorem Bez.ln_u {x y u v : Int} {N : Nat} (h : Bez x y u v) (hx : ln x ≤ N) (hy : ln y ≤ N) : ln u ≤ N + 1 := by
  by_cases h0 : y = 0
  · rw [(h.zero h0).1]
    refine Nat.le_trans (ln_w1 (x := x.sign) ?_ ?_) (by omega) <;> (rcases Int.lt_trichotomy x 0 with h | h | h <;> simp [Int.sign_eq_neg_one_of_neg, Int.sign_eq_one_of_pos, h])
  · refine Nat.le_trans (ln_mono (y := y) ?_) (Nat.le_succ_of_le hy)
    have h1 := h.lo h0
    have h2 := h.hi h0
    have h3 : 0 < Int.gcd x y := Int.gcd_pos_of_ne_zero_right x h0
    have h4 : u * 1 ≤ u * (Int.gcd x y : Int) := Int.mul_le_mul_of_nonneg_left (by omega) h1
    omega
theorem Bez.ln_v {x y u v : Int} {N : Nat} (h : Bez x y u v) (hx : ln x ≤ N) (hy : ln y ≤ N) : ln v ≤ N + 1 := by
  by_cases h0 : y = 0
  · rw [(h.zero h0).2, ln_zero]; omega
  · refine Nat.le_trans (ln_mono (y := x.natAbs + 1) ?_) (Nat.le_trans (ln_add (a := N) (b := 1) (by rw [ln_abs]; exact hx) (by rw [ln_one]; exact Nat.le_refl _)) ?_)
    · have h1 := h.lo h0
      have h2 := h.hi h0
      have h3 : 0 < Int.gcd x y := Int.gcd_pos_of_ne_zero_right x h0
      have e := h.eq
      have h4 : u * 1 ≤ u * (Int.gcd x y : Int) := Int.mul_le_mul_of_nonneg_left (by omega) h1
      have h5 : u.natAbs ≤ y.natAbs := by omega
      have hgy : Int.gcd x y ≤ y.natAbs := Nat.le_of_dvd (by omega) (Int.gcd_dvd_natAbs_right x y)
      have h6 : (y * v).natAbs ≤ (x.natAbs + 1) * y.natAbs := by
        have e2 : y * v = Int.gcd x y - x * u := by omega
        have h7 : (x * u).natAbs ≤ x.natAbs * y.natAbs := by rw [Int.natAbs_mul]; exact Nat.mul_le_mul_left _ h5
        rw [e2, Nat.add_mul, Nat.one_mul]
        omega
      rw [Int.natAbs_mul, Nat.mul_comm] at h6
      have h8 := Nat.le_of_mul_le_mul_right h6 (by omega)
      omega
    · refine Nat.le_of_eq ?_
      have : 1 ≤ N := by
        refine Nat.pos_of_ne_zero fun hN => h0 ?_
        have h1 : ln y = 0 := by omega
        have := len_wd_zero.1 (show (wd y.natAbs).length = 0 from h1)
        omega
      omega
theorem root_bd {m : Int} {k : Nat} (hm : 0 < m) (h : IsRoot (Int.natAbs ((m - 1).tdiv 2)) 2 k) : k ≤ Int.natAbs ((m - 1).tdiv 2) ∧ 2 * (k * k) < m.natAbs ∧ (∀ N : Int, (2 * (N.natAbs * N.natAbs) < m.natAbs → N.natAbs ≤ k)) ∧ k < m.natAbs := by
  have e : Int.natAbs ((m - 1).tdiv 2) = (m.natAbs - 1) / 2 := by
    rw [Int.natAbs_tdiv]
    show (m - 1).natAbs / 2 = _
    congr 1
    omega
  have h1 := h.1
  have h2 := h.2
  rw [Nat.pow_two] at h1 h2
  rw [e] at h1 h2
  refine ⟨h.le_self (by decide), by omega, fun N hN => sq_le (by omega), by have := h.le_self (by decide); omega⟩
theorem RecI.ln_x {m r x y t u : Int} (h : RecI m r x y t u) : ln x ≤ ln m := ln_mono (by have := h.xm; have := h.yx; have := h.y0; omega)
theorem RecI.ln_y {m r x y t u : Int} (h : RecI m r x y t u) : ln y ≤ ln m := ln_mono (by have := h.xm; have := h.yx; have := h.y0; omega)
theorem RecI.ln_u {m r x y t u : Int} (h : RecI m r x y t u) (_ : 0 < m) : ln u ≤ ln m := ln_mono (by
  have h1 := h.det
  have h2 : 1 ≤ x.natAbs := by have := h.yx; have := h.y0; omega
  have h3 : u.natAbs ≤ x.natAbs * u.natAbs := Nat.le_mul_of_pos_left _ h2
  omega)
theorem RecI.ln_t {m r x y t u : Int} (h : RecI m r x y t u) (_ : 0 < m) : ln t ≤ ln m := ln_mono h.tb

set_option maxHeartbeats 4000000 in
theorem g_bezout_one_t {w : World} {sa : Bool} {Aa : Option Addr} {na ca : Nat} {x : Int} (hx : Zi w sa Aa na ca x) (la : na ≤ 17179869184) (h1 : x = 1) :
    Calls Try.prog 62 #[.agg #[.bool sa, .slice Aa na ca]] w (Gv w (Is (.bool true))) := by
  have Lx : ln x ≤ 17179869184 := Nat.le_trans hx.ln la
  refine sx_enter Try.func62 rfl (n := 7) rfl (Nat.le_of_ble_eq_true rfl) (args := [.agg #[.bool sa, .slice Aa na ca]]) ?_
  refine cw_keep [(0, .agg #[.bool sa, .slice Aa na ca])] ⟨rfl, trivial⟩ ?_
  refine cw_seq ?_
  -- region 0
  refine cw_region ?_
  refine wl_box rfl rfl (vs := [.bool sa, .slice Aa na ca]) rfl (by decide) fun g1 v2 nb => ?_
  have hb4 := nb.bk
  have ge5 : w.heap.size ≤ g1 := by rw [← nb.at_]; exact (Ext.refl w).size
  have e3 := nb.ext
  clear nb
  have hw1 : Ext w v2 := (Ext.refl w).trans e3
  refine wl_assign rfl rfl (by decide) ?_
  refine wl_nil ?_
  refine eo_then ?_
  refine cw_seq ?_
  -- region 1, in whatever order
  refine cw_draw mix 4 [] [Is (.agg #[.bool sa, .slice Aa na ca]), ZR w.heap.size (1), Is (.int .i64 (scmp x 1)), Is (.bool true)] [[], [], [0, 1], [2]] [[], [], [0, 1], [0, 1, 2], [0, 1, 2, 3]] rfl
    (obs_cons rfl rfl (hob rfl rfl ?_) (obs_cons rfl rfl (hob rfl rfl ?_) (obs_cons rfl rfl (hob rfl rfl ?_) (obs_cons rfl rfl (hob rfl rfl ?_) obs_nil)))) ?_
  · -- 0
    intro v7 e8
    have hw2 : Ext w v7 := hw1.trans e8
    refine deps_nil ?_
    refine wl_load rfl rfl (load_agg aggInt (hb4.ext e8) [.bool sa, .slice Aa na ca] rfl (Nat.le_of_ble_eq_true rfl) rfl) (by decide) ?_
    exact pi_done rfl (Ext.refl _) rfl
  · -- 1
    intro v9 e10
    have hw2 : Ext w v9 := hw1.trans e10
    refine deps_nil ?_
    refine wl_call rfl rfl (vs := [.int .i64 1]) (by kernel_rfl) (by decide) (g_zint_Of hw2.size (by decide) (by decide)) ?_
    rintro _ v11 ⟨xr13, rfl, r13, e12⟩
    refine ret_intro ?_
    have hw3 : Ext w v11 := hw2.trans e12
    obtain ⟨s14, A14, n14, c14, rfl, z14⟩ := r13
    exact pi_done rfl e12 ⟨_, _, _, _, rfl, z14⟩
  · -- 2
    intro v15 e16
    have hw2 : Ext w v15 := hw1.trans e16
    refine deps_cons rfl rfl fun x17 y18 h19 e20 f21 => ?_
    obtain rfl := h19
    refine deps_cons rfl rfl fun x22 y23 h24 e25 f26 => ?_
    obtain ⟨s27, A27, n27, c27, rfl, z27⟩ := h24
    have z27 := z27.ext f26
    refine deps_nil ?_
    refine wl_call rfl rfl (vs := [.agg #[.bool sa, .slice Aa na ca], .agg #[.bool s27, .slice A27 n27 c27]]) (by kernel_rfl) (by decide) (g_zint_Cmp (hx.ext hw2) (Nat.le_trans la (by decide)) z27.zi (z27.le (Nat.le_trans (show ln (1) ≤ 1 by decide +kernel) (by decide)))) ?_
    rintro _ v28 ⟨xr30, rfl, r30, e29⟩
    refine ret_intro ?_
    have hw3 : Ext w v28 := hw2.trans e29
    obtain rfl := r30
    exact pi_done rfl e29 rfl
  · -- 3
    intro v31 e32
    have hw2 : Ext w v31 := hw1.trans e32
    refine deps_cons rfl rfl fun x33 y34 h35 e36 f37 => ?_
    obtain rfl := h35
    refine deps_nil ?_
    refine wl_cmp rfl rfl rfl true (scmp_eq_t h1) (by decide) ?_
    exact pi_done rfl (Ext.refl _) rfl
  · -- all
    intro v38 e39
    have hw2 : Ext w v38 := hw1.trans e39
    refine deps_cons rfl rfl fun x40 y41 h42 e43 f44 => ?_
    obtain rfl := h42
    refine deps_cons rfl rfl fun x45 y46 h47 e48 f49 => ?_
    obtain ⟨s50, A50, n50, c50, rfl, z50⟩ := h47
    have z50 := z50.ext f49
    refine deps_cons rfl rfl fun x51 y52 h53 e54 f55 => ?_
    obtain rfl := h53
    refine deps_cons rfl rfl fun x56 y57 h58 e59 f60 => ?_
    obtain rfl := h58
    refine deps_nil ?_
    refine wl_assign rfl rfl (by decide) ?_
    refine wl_nil ?_
    refine eo_np ?_
    refine eo_then ?_
    refine cw_ret ?_
    refine eo_ret [.bool true] rfl ⟨rfl, trivial⟩ ?_
    exact ⟨_, rfl, rfl, hw2⟩
set_option maxHeartbeats 4000000 in
theorem g_bezout_one_f {w : World} {sa : Bool} {Aa : Option Addr} {na ca : Nat} {x : Int} (hx : Zi w sa Aa na ca x) (la : na ≤ 17179869184) (h1 : x ≠ 1) :
    Calls Try.prog 62 #[.agg #[.bool sa, .slice Aa na ca]] w (Gv w (Is (.bool false))) := by
  have Lx : ln x ≤ 17179869184 := Nat.le_trans hx.ln la
  refine sx_enter Try.func62 rfl (n := 7) rfl (Nat.le_of_ble_eq_true rfl) (args := [.agg #[.bool sa, .slice Aa na ca]]) ?_
  refine cw_keep [(0, .agg #[.bool sa, .slice Aa na ca])] ⟨rfl, trivial⟩ ?_
  refine cw_seq ?_
  -- region 0
  refine cw_region ?_
  refine wl_box rfl rfl (vs := [.bool sa, .slice Aa na ca]) rfl (by decide) fun g1 v2 nb => ?_
  have hb4 := nb.bk
  have ge5 : w.heap.size ≤ g1 := by rw [← nb.at_]; exact (Ext.refl w).size
  have e3 := nb.ext
  clear nb
  have hw1 : Ext w v2 := (Ext.refl w).trans e3
  refine wl_assign rfl rfl (by decide) ?_
  refine wl_nil ?_
  refine eo_then ?_
  refine cw_seq ?_
  -- region 1, in whatever order
  refine cw_draw mix 4 [] [Is (.agg #[.bool sa, .slice Aa na ca]), ZR w.heap.size (1), Is (.int .i64 (scmp x 1)), Is (.bool false)] [[], [], [0, 1], [2]] [[], [], [0, 1], [0, 1, 2], [0, 1, 2, 3]] rfl
    (obs_cons rfl rfl (hob rfl rfl ?_) (obs_cons rfl rfl (hob rfl rfl ?_) (obs_cons rfl rfl (hob rfl rfl ?_) (obs_cons rfl rfl (hob rfl rfl ?_) obs_nil)))) ?_
  · -- 0
    intro v7 e8
    have hw2 : Ext w v7 := hw1.trans e8
    refine deps_nil ?_
    refine wl_load rfl rfl (load_agg aggInt (hb4.ext e8) [.bool sa, .slice Aa na ca] rfl (Nat.le_of_ble_eq_true rfl) rfl) (by decide) ?_
    exact pi_done rfl (Ext.refl _) rfl
  · -- 1
    intro v9 e10
    have hw2 : Ext w v9 := hw1.trans e10
    refine deps_nil ?_
    refine wl_call rfl rfl (vs := [.int .i64 1]) (by kernel_rfl) (by decide) (g_zint_Of hw2.size (by decide) (by decide)) ?_
    rintro _ v11 ⟨xr13, rfl, r13, e12⟩
    refine ret_intro ?_
    have hw3 : Ext w v11 := hw2.trans e12
    obtain ⟨s14, A14, n14, c14, rfl, z14⟩ := r13
    exact pi_done rfl e12 ⟨_, _, _, _, rfl, z14⟩
  · -- 2
    intro v15 e16
    have hw2 : Ext w v15 := hw1.trans e16
    refine deps_cons rfl rfl fun x17 y18 h19 e20 f21 => ?_
    obtain rfl := h19
    refine deps_cons rfl rfl fun x22 y23 h24 e25 f26 => ?_
    obtain ⟨s27, A27, n27, c27, rfl, z27⟩ := h24
    have z27 := z27.ext f26
    refine deps_nil ?_
    refine wl_call rfl rfl (vs := [.agg #[.bool sa, .slice Aa na ca], .agg #[.bool s27, .slice A27 n27 c27]]) (by kernel_rfl) (by decide) (g_zint_Cmp (hx.ext hw2) (Nat.le_trans la (by decide)) z27.zi (z27.le (Nat.le_trans (show ln (1) ≤ 1 by decide +kernel) (by decide)))) ?_
    rintro _ v28 ⟨xr30, rfl, r30, e29⟩
    refine ret_intro ?_
    have hw3 : Ext w v28 := hw2.trans e29
    obtain rfl := r30
    exact pi_done rfl e29 rfl
  · -- 3
    intro v31 e32
    have hw2 : Ext w v31 := hw1.trans e32
    refine deps_cons rfl rfl fun x33 y34 h35 e36 f37 => ?_
    obtain rfl := h35
    refine deps_nil ?_
    refine wl_cmp rfl rfl rfl false (scmp_eq_f h1) (by decide) ?_
    exact pi_done rfl (Ext.refl _) rfl
  · -- all
    intro v38 e39
    have hw2 : Ext w v38 := hw1.trans e39
    refine deps_cons rfl rfl fun x40 y41 h42 e43 f44 => ?_
    obtain rfl := h42
    refine deps_cons rfl rfl fun x45 y46 h47 e48 f49 => ?_
    obtain ⟨s50, A50, n50, c50, rfl, z50⟩ := h47
    have z50 := z50.ext f49
    refine deps_cons rfl rfl fun x51 y52 h53 e54 f55 => ?_
    obtain rfl := h53
    refine deps_cons rfl rfl fun x56 y57 h58 e59 f60 => ?_
    obtain rfl := h58
    refine deps_nil ?_
    refine wl_assign rfl rfl (by decide) ?_
    refine wl_nil ?_
    refine eo_np ?_
    refine eo_then ?_
    refine cw_ret ?_
    refine eo_ret [.bool false] rfl ⟨rfl, trivial⟩ ?_
    exact ⟨_, rfl, rfl, hw2⟩

set_option maxHeartbeats 4000000 in
theorem g_bezout_Inverse_zeroI {w : World} {sa : Bool} {Aa : Option Addr} {na ca : Nat} {x : Int} {sb : Bool} {Ab : Option Addr} {nb cb : Nat} {y : Int} (hx : Zi w sa Aa na ca x) (la : na ≤ 17179869184) (hy : Zi w sb Ab nb cb y) (lb : nb ≤ 17179869184) (h0 : y = 0) :
    Calls Try.prog 22 #[.agg #[.bool sa, .slice Aa na ca], .agg #[.bool sb, .slice Ab nb cb]] w (Gv w (T2 (ZR w.heap.size (0)) (Is (.int .i64 4)))) := by
  have Lx : ln x ≤ 17179869184 := Nat.le_trans hx.ln la
  have Ly : ln y ≤ 17179869184 := Nat.le_trans hy.ln lb
  refine sx_enter Try.func22 rfl (n := 25) rfl (Nat.le_of_ble_eq_true rfl) (args := [.agg #[.bool sa, .slice Aa na ca], .agg #[.bool sb, .slice Ab nb cb]]) ?_
  refine cw_keep [(0, .agg #[.bool sa, .slice Aa na ca]), (1, .agg #[.bool sb, .slice Ab nb cb])] ⟨rfl, rfl, trivial⟩ ?_
  refine cw_seq ?_
  -- region 0
  refine cw_region ?_
  refine wl_box rfl rfl (vs := [.bool sa, .slice Aa na ca]) rfl (by decide) fun g1 v2 nb => ?_
  have hb4 := nb.bk
  have ge5 : w.heap.size ≤ g1 := by rw [← nb.at_]; exact (Ext.refl w).size
  have e3 := nb.ext
  clear nb
  have hw1 : Ext w v2 := (Ext.refl w).trans e3
  refine wl_box rfl rfl (vs := [.bool sb, .slice Ab nb cb]) rfl (by decide) fun g6 v7 nb => ?_
  have hb9 := nb.bk
  have ge10 : w.heap.size ≤ g6 := by rw [← nb.at_]; exact hw1.size
  have q11 : g1 < g6 := by rw [← nb.at_]; exact hb4.lt
  have e8 := nb.ext
  clear nb
  have hw2 : Ext w v7 := hw1.trans e8
  refine wl_alloc rfl (z := .agg #[.bool false, .slice none 0 0]) (vs := [.bool false, .slice none 0 0]) (fun _ => by kernel_rfl) rfl (by decide) fun g12 v13 nb => ?_
  have hb15 := nb.bk
  have ge16 : w.heap.size ≤ g12 := by rw [← nb.at_]; exact hw2.size
  have q17 : g6 < g12 := by rw [← nb.at_]; exact hb9.lt
  have e14 := nb.ext
  clear nb
  have hw3 : Ext w v13 := hw2.trans e14
  refine wl_assign rfl rfl (by decide) ?_
  refine wl_nil ?_
  refine eo_then ?_
  refine cw_seq ?_
  refine cw_seq ?_
  -- region 1
  refine cw_region ?_
  refine wl_load rfl rfl (load_agg aggInt (hb9.ext e14) [.bool sb, .slice Ab nb cb] rfl (Nat.le_of_ble_eq_true rfl) rfl) (by decide) ?_
  refine wl_call rfl rfl (vs := [.agg #[.bool sb, .slice Ab nb cb]]) (by kernel_rfl) (by decide) (g_zint_Sign (hy.ext hw3) (Nat.le_trans lb (by decide))) ?_
  rintro _ v18 ⟨xr20, rfl, r20, e19⟩
  refine ret_intro ?_
  have hw4 : Ext w v18 := hw3.trans e19
  obtain rfl := r20
  refine wl_cmp rfl rfl rfl true (scmp_eq_t h0) (by decide) ?_
  refine wl_nil ?_
  refine eo_then ?_
  refine cw_true rfl ?_
  refine cw_seq ?_
  -- region 2
  refine cw_region ?_
  refine wl_pure rfl rfl (v := .agg #[.bool false, .slice none 0 0]) (by decide) (by kernel_rfl) ?_
  have hb22 := (hb15.ext e19)
  refine wl_stored rfl rfl rfl aggInt rfl hb22 (Nat.le_of_ble_eq_true rfl) rfl [.bool false, .slice none 0 0] rfl fun v21 hb23 u24 hs25 => ?_
  have hw5 : Ext w v21 := u24.ext hw4 ge16
  refine wl_assign rfl rfl (by decide) ?_
  refine wl_nil ?_
  refine eo_then ?_
  refine cw_ret ?_
  refine eo_thenR ?_
  refine eo_ret [.agg #[.bool false, .slice none 0 0], .int .i64 4] rfl ⟨⟨_, rfl, load_agg aggInt hb23 [.bool false, .slice none 0 0] rfl (Nat.le_of_ble_eq_true rfl) rfl⟩, rfl, trivial⟩ ?_
  exact ⟨_, rfl, ⟨_, _, rfl, ⟨_, _, _, _, rfl, ((Zr.zero (w := v18) (base := w.heap.size)).updT hb22 u24)⟩, rfl⟩, hw5⟩
theorem g_bezout_Inverse_zero {w : World} {sa : Bool} {Aa : Option Addr} {na ca : Nat} {x : Int} {sb : Bool} {Ab : Option Addr} {nb cb : Nat} {y : Int} {b : Nat} (hb : b ≤ w.heap.size)  (hx : Zi w sa Aa na ca x) (la : na ≤ 17179869184) (hy : Zi w sb Ab nb cb y) (lb : nb ≤ 17179869184) (h0 : y = 0) :
    Calls Try.prog 22 #[.agg #[.bool sa, .slice Aa na ca], .agg #[.bool sb, .slice Ab nb cb]] w (Gv w (T2 (ZR b (0)) (Is (.int .i64 4)))) := (g_bezout_Inverse_zeroI hx la hy lb h0).mono (Gv.imp (T2.imp (ZR.imp hb) Is.imp))
set_option maxHeartbeats 4000000 in
theorem g_bezout_Inverse_noneI {w : World} {sa : Bool} {Aa : Option Addr} {na ca : Nat} {x : Int} {sb : Bool} {Ab : Option Addr} {nb cb : Nat} {y : Int} (hx : Zi w sa Aa na ca x) (la : na ≤ 17179869184) (hy : Zi w sb Ab nb cb y) (lb : nb ≤ 17179869184) (h0 : y ≠ 0) (hg : (Int.gcd x y : Int) ≠ 1) :
    Calls Try.prog 22 #[.agg #[.bool sa, .slice Aa na ca], .agg #[.bool sb, .slice Ab nb cb]] w (Gv w (T2 (ZR w.heap.size (0)) (Is (.int .i64 6)))) := by
  have Lx : ln x ≤ 17179869184 := Nat.le_trans hx.ln la
  have Ly : ln y ≤ 17179869184 := Nat.le_trans hy.ln lb
  refine sx_enter Try.func22 rfl (n := 25) rfl (Nat.le_of_ble_eq_true rfl) (args := [.agg #[.bool sa, .slice Aa na ca], .agg #[.bool sb, .slice Ab nb cb]]) ?_
  refine cw_keep [(0, .agg #[.bool sa, .slice Aa na ca]), (1, .agg #[.bool sb, .slice Ab nb cb])] ⟨rfl, rfl, trivial⟩ ?_
  refine cw_seq ?_
  -- region 0
  refine cw_region ?_
  refine wl_box rfl rfl (vs := [.bool sa, .slice Aa na ca]) rfl (by decide) fun g1 v2 nb => ?_
  have hb4 := nb.bk
  have ge5 : w.heap.size ≤ g1 := by rw [← nb.at_]; exact (Ext.refl w).size
  have e3 := nb.ext
  clear nb
  have hw1 : Ext w v2 := (Ext.refl w).trans e3
  refine wl_box rfl rfl (vs := [.bool sb, .slice Ab nb cb]) rfl (by decide) fun g6 v7 nb => ?_
  have hb9 := nb.bk
  have ge10 : w.heap.size ≤ g6 := by rw [← nb.at_]; exact hw1.size
  have q11 : g1 < g6 := by rw [← nb.at_]; exact hb4.lt
  have e8 := nb.ext
  clear nb
  have hw2 : Ext w v7 := hw1.trans e8
  refine wl_alloc rfl (z := .agg #[.bool false, .slice none 0 0]) (vs := [.bool false, .slice none 0 0]) (fun _ => by kernel_rfl) rfl (by decide) fun g12 v13 nb => ?_
  have hb15 := nb.bk
  have ge16 : w.heap.size ≤ g12 := by rw [← nb.at_]; exact hw2.size
  have q17 : g6 < g12 := by rw [← nb.at_]; exact hb9.lt
  have e14 := nb.ext
  clear nb
  have hw3 : Ext w v13 := hw2.trans e14
  refine wl_assign rfl rfl (by decide) ?_
  refine wl_nil ?_
  refine eo_then ?_
  refine cw_seq ?_
  refine cw_seq ?_
  -- region 1
  refine cw_region ?_
  refine wl_load rfl rfl (load_agg aggInt (hb9.ext e14) [.bool sb, .slice Ab nb cb] rfl (Nat.le_of_ble_eq_true rfl) rfl) (by decide) ?_
  refine wl_call rfl rfl (vs := [.agg #[.bool sb, .slice Ab nb cb]]) (by kernel_rfl) (by decide) (g_zint_Sign (hy.ext hw3) (Nat.le_trans lb (by decide))) ?_
  rintro _ v18 ⟨xr20, rfl, r20, e19⟩
  refine ret_intro ?_
  have hw4 : Ext w v18 := hw3.trans e19
  obtain rfl := r20
  refine wl_cmp rfl rfl rfl false (scmp_eq_f h0) (by decide) ?_
  refine wl_nil ?_
  refine eo_then ?_
  refine cw_false rfl ?_
  refine cw_skip ?_
  refine eo_then ?_
  refine cw_seq ?_
  -- region 3
  refine cw_region ?_
  refine wl_load rfl rfl (load_agg aggInt (hb4.ext (e8.trans (e14.trans e19))) [.bool sa, .slice Aa na ca] rfl (Nat.le_of_ble_eq_true rfl) rfl) (by decide) ?_
  refine wl_load rfl rfl (load_agg aggInt (hb9.ext (e14.trans e19)) [.bool sb, .slice Ab nb cb] rfl (Nat.le_of_ble_eq_true rfl) rfl) (by decide) ?_
  refine wl_call rfl rfl (vs := [.agg #[.bool sa, .slice Aa na ca], .agg #[.bool sb, .slice Ab nb cb]]) (by kernel_rfl) (by decide) (g_bezout_Ext hw4.size (hx.ext hw4) (Nat.le_trans la (by decide)) (hy.ext hw4) (Nat.le_trans lb (by decide))) ?_
  rintro _ v21 ⟨u24, v25, p26, xr23, rfl, r23, e22⟩
  have L27 : ln ((Int.gcd x y : Int)) ≤ 17179869184 := Nat.le_trans (ln_gcd _ _) (Nat.max_le.2 ⟨Nat.le_trans Lx (by decide), Nat.le_trans Ly (by decide)⟩)
  have L28 : ln (u24) ≤ 17179869185 := (p26.ln_u Lx Ly)
  have L29 : ln (v25) ≤ 17179869185 := (p26.ln_v Lx Ly)
  refine ret_intro ?_
  have hw5 : Ext w v21 := hw4.trans e22
  obtain ⟨a30_0, a30_1, a30_2, rfl, r30_0, r30_1, r30_2⟩ := r23
  obtain ⟨s31, A31, n31, c31, rfl, z31⟩ := r30_0
  obtain ⟨s32, A32, n32, c32, rfl, z32⟩ := r30_1
  obtain ⟨s33, A33, n33, c33, rfl, z33⟩ := r30_2
  refine wl_move rfl rfl (by decide) ?_
  refine wl_pure rfl rfl (v := .agg #[.bool s31, .slice A31 n31 c31]) (by decide) (by kernel_rfl) ?_
  refine wl_pure rfl rfl (v := .agg #[.bool s32, .slice A32 n32 c32]) (by decide) (by kernel_rfl) ?_
  refine wl_pure rfl rfl (v := .agg #[.bool s33, .slice A33 n33 c33]) (by decide) (by kernel_rfl) ?_
  refine wl_alloc rfl (z := .agg #[.bool false, .slice none 0 0]) (vs := [.bool false, .slice none 0 0]) (fun _ => by kernel_rfl) rfl (by decide) fun g34 v35 nb => ?_
  have hb37 := nb.bk
  have ge38 : w.heap.size ≤ g34 := by rw [← nb.at_]; exact hw5.size
  have q39 : g12 < g34 := by rw [← nb.at_]; exact (hb15.ext (e19.trans e22)).lt
  have e36 := nb.ext
  clear nb
  have hw6 : Ext w v35 := hw5.trans e36
  refine wl_alloc rfl (z := .agg #[.bool false, .slice none 0 0]) (vs := [.bool false, .slice none 0 0]) (fun _ => by kernel_rfl) rfl (by decide) fun g40 v41 nb => ?_
  have hb43 := nb.bk
  have ge44 : w.heap.size ≤ g40 := by rw [← nb.at_]; exact hw6.size
  have q45 : g34 < g40 := by rw [← nb.at_]; exact hb37.lt
  have e42 := nb.ext
  clear nb
  have hw7 : Ext w v41 := hw6.trans e42
  refine wl_alloc rfl (z := .agg #[.bool false, .slice none 0 0]) (vs := [.bool false, .slice none 0 0]) (fun _ => by kernel_rfl) rfl (by decide) fun g46 v47 nb => ?_
  have hb49 := nb.bk
  have ge50 : w.heap.size ≤ g46 := by rw [← nb.at_]; exact hw7.size
  have q51 : g40 < g46 := by rw [← nb.at_]; exact hb43.lt
  have e48 := nb.ext
  clear nb
  have hw8 : Ext w v47 := hw7.trans e48
  have hb53 := (hb37.ext (e42.trans e48))
  refine wl_stored rfl rfl rfl aggInt rfl hb53 (Nat.le_of_ble_eq_true rfl) rfl [.bool s31, .slice A31 n31 c31] rfl fun v52 hb54 u55 hs56 => ?_
  have hw9 : Ext w v52 := u55.ext hw8 ge38
  have hb58 := ((hb43.ext e48).updN u55 (by omega))
  refine wl_stored rfl rfl rfl aggInt rfl hb58 (Nat.le_of_ble_eq_true rfl) rfl [.bool s32, .slice A32 n32 c32] rfl fun v57 hb59 u60 hs61 => ?_
  have hw10 : Ext w v57 := u60.ext hw9 ge44
  have hb63 := ((hb49.updN u55 (by omega)).updN u60 (by omega))
  refine wl_stored rfl rfl rfl aggInt rfl hb63 (Nat.le_of_ble_eq_true rfl) rfl [.bool s33, .slice A33 n33 c33] rfl fun v62 hb64 u65 hs66 => ?_
  have hw11 : Ext w v62 := u65.ext hw10 ge50
  refine wl_nil ?_
  refine eo_then ?_
  refine cw_seq ?_
  refine cw_seq ?_
  -- region 4
  refine cw_region ?_
  refine wl_load rfl rfl (load_agg aggInt ((hb54.updN u60 (by omega)).updN u65 (by omega)) [.bool s31, .slice A31 n31 c31] rfl (Nat.le_of_ble_eq_true rfl) rfl) (by decide) ?_
  refine wl_call rfl rfl (vs := [.agg #[.bool s31, .slice A31 n31 c31]]) (by kernel_rfl) (by decide) (g_bezout_one_f ((((z31.ext (e36.trans (e42.trans e48))).updT hb53 u55).updT hb58 u60).updT hb63 u65).zi (z31.le (Nat.le_trans L27 (by decide))) hg) ?_
  rintro _ v67 ⟨xr69, rfl, r69, e68⟩
  refine ret_intro ?_
  have hw12 : Ext w v67 := hw11.trans e68
  obtain rfl := r69
  refine wl_pure rfl rfl (v := .bool true) (by decide) (by kernel_rfl) ?_
  refine wl_nil ?_
  refine eo_then ?_
  refine cw_true rfl ?_
  refine cw_seq ?_
  -- region 5
  refine cw_region ?_
  refine wl_pure rfl rfl (v := .agg #[.bool false, .slice none 0 0]) (by decide) (by kernel_rfl) ?_
  have hb71 := (((((hb15.ext (e19.trans (e22.trans (e36.trans (e42.trans e48))))).updN u55 (by omega)).updN u60 (by omega)).updN u65 (by omega)).ext e68)
  refine wl_stored rfl rfl rfl aggInt rfl hb71 (Nat.le_of_ble_eq_true rfl) rfl [.bool false, .slice none 0 0] rfl fun v70 hb72 u73 hs74 => ?_
  have hw13 : Ext w v70 := u73.ext hw12 ge16
  refine wl_assign rfl rfl (by decide) ?_
  refine wl_nil ?_
  refine eo_then ?_
  refine cw_ret ?_
  refine eo_thenR ?_
  refine eo_ret [.agg #[.bool false, .slice none 0 0], .int .i64 6] rfl ⟨⟨_, rfl, load_agg aggInt hb72 [.bool false, .slice none 0 0] rfl (Nat.le_of_ble_eq_true rfl) rfl⟩, rfl, trivial⟩ ?_
  exact ⟨_, rfl, ⟨_, _, rfl, ⟨_, _, _, _, rfl, ((Zr.zero (w := v67) (base := w.heap.size)).updT hb71 u73)⟩, rfl⟩, hw13⟩
theorem g_bezout_Inverse_none {w : World} {sa : Bool} {Aa : Option Addr} {na ca : Nat} {x : Int} {sb : Bool} {Ab : Option Addr} {nb cb : Nat} {y : Int} {b : Nat} (hb : b ≤ w.heap.size)  (hx : Zi w sa Aa na ca x) (la : na ≤ 17179869184) (hy : Zi w sb Ab nb cb y) (lb : nb ≤ 17179869184) (h0 : y ≠ 0) (hg : (Int.gcd x y : Int) ≠ 1) :
    Calls Try.prog 22 #[.agg #[.bool sa, .slice Aa na ca], .agg #[.bool sb, .slice Ab nb cb]] w (Gv w (T2 (ZR b (0)) (Is (.int .i64 6)))) := (g_bezout_Inverse_noneI hx la hy lb h0 hg).mono (Gv.imp (T2.imp (ZR.imp hb) Is.imp))
set_option maxHeartbeats 4000000 in
theorem g_bezout_Inverse_okI {w : World} {sa : Bool} {Aa : Option Addr} {na ca : Nat} {x : Int} {sb : Bool} {Ab : Option Addr} {nb cb : Nat} {y : Int} (hx : Zi w sa Aa na ca x) (la : na ≤ 17179869184) (hy : Zi w sb Ab nb cb y) (lb : nb ≤ 17179869184) (h0 : y ≠ 0) (hg : (Int.gcd x y : Int) = 1) :
    Calls Try.prog 22 #[.agg #[.bool sa, .slice Aa na ca], .agg #[.bool sb, .slice Ab nb cb]] w (fun e w' => ∃ u v, Bez x y u v ∧ Gv w (T2 (ZR w.heap.size u) (Is (.int .i64 0))) e w') := by
  have Lx : ln x ≤ 17179869184 := Nat.le_trans hx.ln la
  have Ly : ln y ≤ 17179869184 := Nat.le_trans hy.ln lb
  refine sx_enter Try.func22 rfl (n := 25) rfl (Nat.le_of_ble_eq_true rfl) (args := [.agg #[.bool sa, .slice Aa na ca], .agg #[.bool sb, .slice Ab nb cb]]) ?_
  refine cw_keep [(0, .agg #[.bool sa, .slice Aa na ca]), (1, .agg #[.bool sb, .slice Ab nb cb])] ⟨rfl, rfl, trivial⟩ ?_
  refine cw_seq ?_
  -- region 0
  refine cw_region ?_
  refine wl_box rfl rfl (vs := [.bool sa, .slice Aa na ca]) rfl (by decide) fun g1 v2 nb => ?_
  have hb4 := nb.bk
  have ge5 : w.heap.size ≤ g1 := by rw [← nb.at_]; exact (Ext.refl w).size
  have e3 := nb.ext
  clear nb
  have hw1 : Ext w v2 := (Ext.refl w).trans e3
  refine wl_box rfl rfl (vs := [.bool sb, .slice Ab nb cb]) rfl (by decide) fun g6 v7 nb => ?_
  have hb9 := nb.bk
  have ge10 : w.heap.size ≤ g6 := by rw [← nb.at_]; exact hw1.size
  have q11 : g1 < g6 := by rw [← nb.at_]; exact hb4.lt
  have e8 := nb.ext
  clear nb
  have hw2 : Ext w v7 := hw1.trans e8
  refine wl_alloc rfl (z := .agg #[.bool false, .slice none 0 0]) (vs := [.bool false, .slice none 0 0]) (fun _ => by kernel_rfl) rfl (by decide) fun g12 v13 nb => ?_
  have hb15 := nb.bk
  have ge16 : w.heap.size ≤ g12 := by rw [← nb.at_]; exact hw2.size
  have q17 : g6 < g12 := by rw [← nb.at_]; exact hb9.lt
  have e14 := nb.ext
  clear nb
  have hw3 : Ext w v13 := hw2.trans e14
  refine wl_assign rfl rfl (by decide) ?_
  refine wl_nil ?_
  refine eo_then ?_
  refine cw_seq ?_
  refine cw_seq ?_
  -- region 1
  refine cw_region ?_
  refine wl_load rfl rfl (load_agg aggInt (hb9.ext e14) [.bool sb, .slice Ab nb cb] rfl (Nat.le_of_ble_eq_true rfl) rfl) (by decide) ?_
  refine wl_call rfl rfl (vs := [.agg #[.bool sb, .slice Ab nb cb]]) (by kernel_rfl) (by decide) (g_zint_Sign (hy.ext hw3) (Nat.le_trans lb (by decide))) ?_
  rintro _ v18 ⟨xr20, rfl, r20, e19⟩
  refine ret_intro ?_
  have hw4 : Ext w v18 := hw3.trans e19
  obtain rfl := r20
  refine wl_cmp rfl rfl rfl false (scmp_eq_f h0) (by decide) ?_
  refine wl_nil ?_
  refine eo_then ?_
  refine cw_false rfl ?_
  refine cw_skip ?_
  refine eo_then ?_
  refine cw_seq ?_
  -- region 3
  refine cw_region ?_
  refine wl_load rfl rfl (load_agg aggInt (hb4.ext (e8.trans (e14.trans e19))) [.bool sa, .slice Aa na ca] rfl (Nat.le_of_ble_eq_true rfl) rfl) (by decide) ?_
  refine wl_load rfl rfl (load_agg aggInt (hb9.ext (e14.trans e19)) [.bool sb, .slice Ab nb cb] rfl (Nat.le_of_ble_eq_true rfl) rfl) (by decide) ?_
  refine wl_call rfl rfl (vs := [.agg #[.bool sa, .slice Aa na ca], .agg #[.bool sb, .slice Ab nb cb]]) (by kernel_rfl) (by decide) (g_bezout_Ext hw4.size (hx.ext hw4) (Nat.le_trans la (by decide)) (hy.ext hw4) (Nat.le_trans lb (by decide))) ?_
  rintro _ v21 ⟨u24, v25, p26, xr23, rfl, r23, e22⟩
  have L27 : ln ((Int.gcd x y : Int)) ≤ 17179869184 := Nat.le_trans (ln_gcd _ _) (Nat.max_le.2 ⟨Nat.le_trans Lx (by decide), Nat.le_trans Ly (by decide)⟩)
  have L28 : ln (u24) ≤ 17179869185 := (p26.ln_u Lx Ly)
  have L29 : ln (v25) ≤ 17179869185 := (p26.ln_v Lx Ly)
  refine ret_intro ?_
  have hw5 : Ext w v21 := hw4.trans e22
  obtain ⟨a30_0, a30_1, a30_2, rfl, r30_0, r30_1, r30_2⟩ := r23
  obtain ⟨s31, A31, n31, c31, rfl, z31⟩ := r30_0
  obtain ⟨s32, A32, n32, c32, rfl, z32⟩ := r30_1
  obtain ⟨s33, A33, n33, c33, rfl, z33⟩ := r30_2
  refine wl_move rfl rfl (by decide) ?_
  refine wl_pure rfl rfl (v := .agg #[.bool s31, .slice A31 n31 c31]) (by decide) (by kernel_rfl) ?_
  refine wl_pure rfl rfl (v := .agg #[.bool s32, .slice A32 n32 c32]) (by decide) (by kernel_rfl) ?_
  refine wl_pure rfl rfl (v := .agg #[.bool s33, .slice A33 n33 c33]) (by decide) (by kernel_rfl) ?_
  refine wl_alloc rfl (z := .agg #[.bool false, .slice none 0 0]) (vs := [.bool false, .slice none 0 0]) (fun _ => by kernel_rfl) rfl (by decide) fun g34 v35 nb => ?_
  have hb37 := nb.bk
  have ge38 : w.heap.size ≤ g34 := by rw [← nb.at_]; exact hw5.size
  have q39 : g12 < g34 := by rw [← nb.at_]; exact (hb15.ext (e19.trans e22)).lt
  have e36 := nb.ext
  clear nb
  have hw6 : Ext w v35 := hw5.trans e36
  refine wl_alloc rfl (z := .agg #[.bool false, .slice none 0 0]) (vs := [.bool false, .slice none 0 0]) (fun _ => by kernel_rfl) rfl (by decide) fun g40 v41 nb => ?_
  have hb43 := nb.bk
  have ge44 : w.heap.size ≤ g40 := by rw [← nb.at_]; exact hw6.size
  have q45 : g34 < g40 := by rw [← nb.at_]; exact hb37.lt
  have e42 := nb.ext
  clear nb
  have hw7 : Ext w v41 := hw6.trans e42
  refine wl_alloc rfl (z := .agg #[.bool false, .slice none 0 0]) (vs := [.bool false, .slice none 0 0]) (fun _ => by kernel_rfl) rfl (by decide) fun g46 v47 nb => ?_
  have hb49 := nb.bk
  have ge50 : w.heap.size ≤ g46 := by rw [← nb.at_]; exact hw7.size
  have q51 : g40 < g46 := by rw [← nb.at_]; exact hb43.lt
  have e48 := nb.ext
  clear nb
  have hw8 : Ext w v47 := hw7.trans e48
  have hb53 := (hb37.ext (e42.trans e48))
  refine wl_stored rfl rfl rfl aggInt rfl hb53 (Nat.le_of_ble_eq_true rfl) rfl [.bool s31, .slice A31 n31 c31] rfl fun v52 hb54 u55 hs56 => ?_
  have hw9 : Ext w v52 := u55.ext hw8 ge38
  have hb58 := ((hb43.ext e48).updN u55 (by omega))
  refine wl_stored rfl rfl rfl aggInt rfl hb58 (Nat.le_of_ble_eq_true rfl) rfl [.bool s32, .slice A32 n32 c32] rfl fun v57 hb59 u60 hs61 => ?_
  have hw10 : Ext w v57 := u60.ext hw9 ge44
  have hb63 := ((hb49.updN u55 (by omega)).updN u60 (by omega))
  refine wl_stored rfl rfl rfl aggInt rfl hb63 (Nat.le_of_ble_eq_true rfl) rfl [.bool s33, .slice A33 n33 c33] rfl fun v62 hb64 u65 hs66 => ?_
  have hw11 : Ext w v62 := u65.ext hw10 ge50
  refine wl_nil ?_
  refine eo_then ?_
  refine cw_seq ?_
  refine cw_seq ?_
  -- region 4
  refine cw_region ?_
  refine wl_load rfl rfl (load_agg aggInt ((hb54.updN u60 (by omega)).updN u65 (by omega)) [.bool s31, .slice A31 n31 c31] rfl (Nat.le_of_ble_eq_true rfl) rfl) (by decide) ?_
  refine wl_call rfl rfl (vs := [.agg #[.bool s31, .slice A31 n31 c31]]) (by kernel_rfl) (by decide) (g_bezout_one_t ((((z31.ext (e36.trans (e42.trans e48))).updT hb53 u55).updT hb58 u60).updT hb63 u65).zi (z31.le (Nat.le_trans L27 (by decide))) hg) ?_
  rintro _ v67 ⟨xr69, rfl, r69, e68⟩
  refine ret_intro ?_
  have hw12 : Ext w v67 := hw11.trans e68
  obtain rfl := r69
  refine wl_pure rfl rfl (v := .bool false) (by decide) (by kernel_rfl) ?_
  refine wl_nil ?_
  refine eo_then ?_
  refine cw_false rfl ?_
  refine cw_skip ?_
  refine eo_then ?_
  refine cw_seq ?_
  -- region 6
  refine cw_region ?_
  refine wl_load rfl rfl (load_agg aggInt ((hb59.updN u65 (by omega)).ext e68) [.bool s32, .slice A32 n32 c32] rfl (Nat.le_of_ble_eq_true rfl) rfl) (by decide) ?_
  have hb71 := (((((hb15.ext (e19.trans (e22.trans (e36.trans (e42.trans e48))))).updN u55 (by omega)).updN u60 (by omega)).updN u65 (by omega)).ext e68)
  refine wl_stored rfl rfl rfl aggInt rfl hb71 (Nat.le_of_ble_eq_true rfl) rfl [.bool s32, .slice A32 n32 c32] rfl fun v70 hb72 u73 hs74 => ?_
  have hw13 : Ext w v70 := u73.ext hw12 ge16
  refine wl_assign rfl rfl (by decide) ?_
  refine wl_nil ?_
  refine eo_then ?_
  refine cw_ret ?_
  refine eo_ret [.agg #[.bool s32, .slice A32 n32 c32], .int .i64 0] rfl ⟨⟨_, rfl, load_agg aggInt hb72 [.bool s32, .slice A32 n32 c32] rfl (Nat.le_of_ble_eq_true rfl) rfl⟩, rfl, trivial⟩ ?_
  exact ⟨u24, v25, p26, _, rfl, ⟨_, _, rfl, ⟨_, _, _, _, rfl, ((((((z32.ext (e36.trans (e42.trans e48))).updT hb53 u55).updT hb58 u60).updT hb63 u65).ext e68).updT hb71 u73)⟩, rfl⟩, hw13⟩
theorem g_bezout_Inverse_ok {w : World} {sa : Bool} {Aa : Option Addr} {na ca : Nat} {x : Int} {sb : Bool} {Ab : Option Addr} {nb cb : Nat} {y : Int} {b : Nat} (hb : b ≤ w.heap.size)  (hx : Zi w sa Aa na ca x) (la : na ≤ 17179869184) (hy : Zi w sb Ab nb cb y) (lb : nb ≤ 17179869184) (h0 : y ≠ 0) (hg : (Int.gcd x y : Int) = 1) :
    Calls Try.prog 22 #[.agg #[.bool sa, .slice Aa na ca], .agg #[.bool sb, .slice Ab nb cb]] w (fun e w' => ∃ u v, Bez x y u v ∧ Gv w (T2 (ZR b u) (Is (.int .i64 0))) e w') := (g_bezout_Inverse_okI hx la hy lb h0 hg).mono fun e w2 h => (by obtain ⟨u, v, h1, h2⟩ := h; exact ⟨u, v, h1, Gv.imp (T2.imp (ZR.imp hb) Is.imp) _ _ h2⟩)

set_option maxHeartbeats 4000000 in
theorem g_frac_RecoverI {w : World} {sa : Bool} {Aa : Option Addr} {na ca : Nat} {r : Int} {sb : Bool} {Ab : Option Addr} {nb cb : Nat} {m : Int} (hr : Zi w sa Aa na ca r) (la : na ≤ 4194304) (hm : Zi w sb Ab nb cb m) (lb : nb ≤ 4194304) (hm0 : 0 < m) {N D : Int} (h1 : 2 * (N.natAbs * N.natAbs) < m.natAbs) (h2 : 2 * (D.natAbs * D.natAbs) < m.natAbs) (hD0 : 0 < D) (hco : Int.gcd N D = 1) (hc : m ∣ N - D * r) (hdm : Int.gcd D m = 1) :
    Calls Try.prog 25 #[.agg #[.bool sa, .slice Aa na ca], .agg #[.bool sb, .slice Ab nb cb]] w (Gv w (T2 (FR w.heap.size (N) (D)) (Is (.int .i64 0)))) := by
  have Lr : ln r ≤ 4194304 := Nat.le_trans hr.ln la
  have Lm : ln m ≤ 4194304 := Nat.le_trans hm.ln lb
  refine sx_enter Try.func25 rfl (n := 103) rfl (Nat.le_of_ble_eq_true rfl) (args := [.agg #[.bool sa, .slice Aa na ca], .agg #[.bool sb, .slice Ab nb cb]]) ?_
  refine cw_keep [(0, .agg #[.bool sa, .slice Aa na ca]), (1, .agg #[.bool sb, .slice Ab nb cb])] ⟨rfl, rfl, trivial⟩ ?_
  refine cw_seq ?_
  -- region 0
  refine cw_region ?_
  refine wl_box rfl rfl (vs := [.bool sa, .slice Aa na ca]) rfl (by decide) fun g1 v2 nb => ?_
  have hb4 := nb.bk
  have ge5 : w.heap.size ≤ g1 := by rw [← nb.at_]; exact (Ext.refl w).size
  have e3 := nb.ext
  clear nb
  have hw1 : Ext w v2 := (Ext.refl w).trans e3
  refine wl_box rfl rfl (vs := [.bool sb, .slice Ab nb cb]) rfl (by decide) fun g6 v7 nb => ?_
  have hb9 := nb.bk
  have ge10 : w.heap.size ≤ g6 := by rw [← nb.at_]; exact hw1.size
  have q11 : g1 < g6 := by rw [← nb.at_]; exact hb4.lt
  have e8 := nb.ext
  clear nb
  have hw2 : Ext w v7 := hw1.trans e8
  refine wl_alloc rfl (z := .agg #[.bool false, .slice none 0 0, .bool false, .slice none 0 0]) (vs := [.bool false, .slice none 0 0, .bool false, .slice none 0 0]) (fun _ => by kernel_rfl) rfl (by decide) fun g12 v13 nb => ?_
  have hb15 := nb.bk
  have ge16 : w.heap.size ≤ g12 := by rw [← nb.at_]; exact hw2.size
  have q17 : g6 < g12 := by rw [← nb.at_]; exact hb9.lt
  have e14 := nb.ext
  clear nb
  have hw3 : Ext w v13 := hw2.trans e14
  refine wl_assign rfl rfl (by decide) ?_
  refine wl_nil ?_
  refine eo_then ?_
  refine cw_seq ?_
  refine cw_seq ?_
  -- region 1
  refine cw_region ?_
  refine wl_load rfl rfl (load_agg aggInt (hb9.ext e14) [.bool sb, .slice Ab nb cb] rfl (Nat.le_of_ble_eq_true rfl) rfl) (by decide) ?_
  refine wl_call rfl rfl (vs := [.agg #[.bool sb, .slice Ab nb cb]]) (by kernel_rfl) (by decide) (g_zint_Sign (hm.ext hw3) (Nat.le_trans lb (by decide))) ?_
  rintro _ v18 ⟨xr20, rfl, r20, e19⟩
  refine ret_intro ?_
  have hw4 : Ext w v18 := hw3.trans e19
  obtain rfl := r20
  refine wl_cmp rfl rfl rfl false (scmp_le_f hm0) (by decide) ?_
  refine wl_nil ?_
  refine eo_then ?_
  refine cw_false rfl ?_
  refine cw_skip ?_
  refine eo_then ?_
  refine cw_seq ?_
  -- region 3, in whatever order
  have L22 : ln (m - 1) ≤ 4194305 := Nat.le_trans (ln_sub Lm (show ln (1) ≤ 1 by decide +kernel)) (by decide)
  have L25 : ln (((m - 1)).tdiv 2) ≤ 4194305 := Nat.le_trans (ln_tdiv _ _) L22
  have L26 : ln (((m - 1)).tmod 2) ≤ 4194305 := Nat.le_trans (ln_tmod _ _) L22
  refine cw_drawA mix 11 [6, 7, 8] [9, 10] [Is (.agg #[.bool sb, .slice Ab nb cb]), ZR w.heap.size (1), ZR w.heap.size (m - 1), ZR w.heap.size (2), T3 (ZR w.heap.size ((m - 1).tdiv 2)) (ZR w.heap.size ((m - 1).tmod 2)) (Is (.int .i64 0)), T3 (ZR w.heap.size ((m - 1).tdiv 2)) (ZR w.heap.size ((m - 1).tmod 2)) (Is (.int .i64 0)), ZR w.heap.size ((m - 1).tdiv 2), ZR w.heap.size ((m - 1).tmod 2), Is (.int .i64 0), PR v18.heap.size 27 [.bool false, .slice none 0 0], PR v18.heap.size 27 [.bool false, .slice none 0 0]] [[], [], [0, 1], [], [2, 3], [4], [5], [5], [5], [], []] [[], [], [0, 1], [0, 1, 2], [0, 1, 2, 3], [0, 1, 2, 3, 4], [0, 1, 2, 3, 4, 5], [0, 1, 2, 3, 4, 5], [0, 1, 2, 3, 4, 5], [], [], [0, 1, 2, 3, 4, 5, 6, 9, 10], [0, 1, 2, 3, 4, 5, 6, 7, 9, 10, 11], [0, 1, 2, 3, 4, 5, 6, 7, 8, 9, 10, 11, 12]] rfl rfl ⟨fun _ _ h => PR.old h, fun _ _ h => PR.old h, trivial⟩
    (obs_cons rfl rfl (hob rfl rfl ?_) (obs_cons rfl rfl (hob rfl rfl ?_) (obs_cons rfl rfl (hob rfl rfl ?_) (obs_cons rfl rfl (hob rfl rfl ?_) (obs_cons rfl rfl (hob rfl rfl ?_) (obs_cons rfl rfl (hob rfl rfl ?_) (obs_float rfl rfl (fob rfl ?_) (obs_float rfl rfl (fob rfl ?_) (obs_float rfl rfl (fob rfl ?_) (obs_cons rfl rfl (hobA rfl ?_) (obs_cons rfl rfl (hobA rfl ?_) obs_nil))))))))))) ?_
  · -- 0
    intro v35 e36
    have hw5 : Ext w v35 := hw4.trans e36
    refine deps_nil ?_
    refine wl_load rfl rfl (load_agg aggInt (hb9.ext (e14.trans (e19.trans e36))) [.bool sb, .slice Ab nb cb] rfl (Nat.le_of_ble_eq_true rfl) rfl) (by decide) ?_
    exact pi_done rfl (Ext.refl _) rfl
  · -- 1
    intro v37 e38
    have hw5 : Ext w v37 := hw4.trans e38
    refine deps_nil ?_
    refine wl_call rfl rfl (vs := [.int .i64 1]) (by kernel_rfl) (by decide) (g_zint_Of hw5.size (by decide) (by decide)) ?_
    rintro _ v39 ⟨xr41, rfl, r41, e40⟩
    refine ret_intro ?_
    have hw6 : Ext w v39 := hw5.trans e40
    obtain ⟨s42, A42, n42, c42, rfl, z42⟩ := r41
    exact pi_done rfl e40 ⟨_, _, _, _, rfl, z42⟩
  · -- 2
    intro v43 e44
    have hw5 : Ext w v43 := hw4.trans e44
    refine deps_cons rfl rfl fun x45 y46 h47 e48 f49 => ?_
    obtain rfl := h47
    refine deps_cons rfl rfl fun x50 y51 h52 e53 f54 => ?_
    obtain ⟨s55, A55, n55, c55, rfl, z55⟩ := h52
    have z55 := z55.ext f54
    refine deps_nil ?_
    have L56 : ln (m - 1) ≤ 4194305 := Nat.le_trans (ln_sub Lm (show ln (1) ≤ 1 by decide +kernel)) (by decide)
    refine wl_call rfl rfl (vs := [.agg #[.bool sb, .slice Ab nb cb], .agg #[.bool s55, .slice A55 n55 c55]]) (by kernel_rfl) (by decide) (g_zint_Sub hw5.size (hm.ext hw5) (Nat.le_trans lb (by decide)) z55.zi (z55.le (Nat.le_trans (show ln (1) ≤ 1 by decide +kernel) (by decide)))) ?_
    rintro _ v57 ⟨xr59, rfl, r59, e58⟩
    refine ret_intro ?_
    have hw6 : Ext w v57 := hw5.trans e58
    obtain ⟨s60, A60, n60, c60, rfl, z60⟩ := r59
    exact pi_done rfl e58 ⟨_, _, _, _, rfl, z60⟩
  · -- 3
    intro v61 e62
    have hw5 : Ext w v61 := hw4.trans e62
    refine deps_nil ?_
    refine wl_call rfl rfl (vs := [.int .i64 2]) (by kernel_rfl) (by decide) (g_zint_Of hw5.size (by decide) (by decide)) ?_
    rintro _ v63 ⟨xr65, rfl, r65, e64⟩
    refine ret_intro ?_
    have hw6 : Ext w v63 := hw5.trans e64
    obtain ⟨s66, A66, n66, c66, rfl, z66⟩ := r65
    exact pi_done rfl e64 ⟨_, _, _, _, rfl, z66⟩
  · -- 4
    intro v67 e68
    have hw5 : Ext w v67 := hw4.trans e68
    refine deps_cons rfl rfl fun x69 y70 h71 e72 f73 => ?_
    obtain ⟨s74, A74, n74, c74, rfl, z74⟩ := h71
    have z74 := z74.ext f73
    refine deps_cons rfl rfl fun x75 y76 h77 e78 f79 => ?_
    obtain ⟨s80, A80, n80, c80, rfl, z80⟩ := h77
    have z80 := z80.ext f79
    refine deps_nil ?_
    have L81 : ln (((m - 1)).tdiv 2) ≤ 4194305 := Nat.le_trans (ln_tdiv _ _) L22
    have L82 : ln (((m - 1)).tmod 2) ≤ 4194305 := Nat.le_trans (ln_tmod _ _) L22
    refine wl_call rfl rfl (vs := [.agg #[.bool s74, .slice A74 n74 c74], .agg #[.bool s80, .slice A80 n80 c80]]) (by kernel_rfl) (by decide) (g_zint_Trunc hw5.size z74.zi (z74.le (Nat.le_trans L22 (by decide))) z80.zi (z80.le (Nat.le_trans (show ln (2) ≤ 1 by decide +kernel) (by decide))) (by decide)) ?_
    rintro _ v83 ⟨xr85, rfl, r85, e84⟩
    refine ret_intro ?_
    have hw6 : Ext w v83 := hw5.trans e84
    obtain ⟨a86_0, a86_1, a86_2, rfl, r86_0, r86_1, r86_2⟩ := r85
    obtain ⟨s87, A87, n87, c87, rfl, z87⟩ := r86_0
    obtain ⟨s88, A88, n88, c88, rfl, z88⟩ := r86_1
    obtain rfl := r86_2
    exact pi_done rfl e84 ⟨_, _, _, rfl, ⟨_, _, _, _, rfl, z87⟩, ⟨_, _, _, _, rfl, z88⟩, rfl⟩
  · -- 5
    intro v89 e90
    have hw5 : Ext w v89 := hw4.trans e90
    refine deps_cons rfl rfl fun x91 y92 h93 e94 f95 => ?_
    obtain ⟨a96_0, a96_1, a96_2, rfl, r96_0, r96_1, r96_2⟩ := h93
    obtain ⟨s97, A97, n97, c97, rfl, z97⟩ := r96_0
    obtain ⟨s98, A98, n98, c98, rfl, z98⟩ := r96_1
    obtain rfl := r96_2
    have z97 := z97.ext f95
    have z98 := z98.ext f95
    refine deps_nil ?_
    refine wl_move rfl rfl (by decide) ?_
    exact pi_done rfl (Ext.refl _) ⟨_, _, _, rfl, ⟨_, _, _, _, rfl, z97⟩, ⟨_, _, _, _, rfl, z98⟩, rfl⟩
  · -- 6
    intro v99 e100
    have hw5 : Ext w v99 := hw4.trans e100
    refine deps_cons rfl rfl fun x101 y102 h103 e104 f105 => ?_
    obtain ⟨a106_0, a106_1, a106_2, rfl, r106_0, r106_1, r106_2⟩ := h103
    obtain ⟨s107, A107, n107, c107, rfl, z107⟩ := r106_0
    obtain ⟨s108, A108, n108, c108, rfl, z108⟩ := r106_1
    obtain rfl := r106_2
    have z107 := z107.ext f105
    have z108 := z108.ext f105
    refine deps_nil ?_
    exact ⟨.agg #[.bool s107, .slice A107 n107 c107], rfl, rfl, fun _ => by kernel_rfl, ⟨_, _, _, _, rfl, z107⟩⟩
  · -- 7
    intro v109 e110
    have hw5 : Ext w v109 := hw4.trans e110
    refine deps_cons rfl rfl fun x111 y112 h113 e114 f115 => ?_
    obtain ⟨a116_0, a116_1, a116_2, rfl, r116_0, r116_1, r116_2⟩ := h113
    obtain ⟨s117, A117, n117, c117, rfl, z117⟩ := r116_0
    obtain ⟨s118, A118, n118, c118, rfl, z118⟩ := r116_1
    obtain rfl := r116_2
    have z117 := z117.ext f115
    have z118 := z118.ext f115
    refine deps_nil ?_
    exact ⟨.agg #[.bool s118, .slice A118 n118 c118], rfl, rfl, fun _ => by kernel_rfl, ⟨_, _, _, _, rfl, z118⟩⟩
  · -- 8
    intro v119 e120
    have hw5 : Ext w v119 := hw4.trans e120
    refine deps_cons rfl rfl fun x121 y122 h123 e124 f125 => ?_
    obtain ⟨a126_0, a126_1, a126_2, rfl, r126_0, r126_1, r126_2⟩ := h123
    obtain ⟨s127, A127, n127, c127, rfl, z127⟩ := r126_0
    obtain ⟨s128, A128, n128, c128, rfl, z128⟩ := r126_1
    obtain rfl := r126_2
    have z127 := z127.ext f125
    have z128 := z128.ext f125
    refine deps_nil ?_
    exact ⟨.int .i64 0, rfl, rfl, fun _ => by kernel_rfl, rfl⟩
  · -- 9
    intro v129 e130
    have hw5 : Ext w v129 := hw4.trans e130
    refine deps_nil ?_
    refine wl_alloc rfl (z := .agg #[.bool false, .slice none 0 0]) (vs := [.bool false, .slice none 0 0]) (fun _ => by kernel_rfl) rfl (by decide) fun g131 v132 nb => ?_
    exact pi_done rfl nb.ext ⟨⟨_, rfl, by rw [← nb.at_]; exact e130.size, nb.bk⟩, _, rfl, Nat.le_of_eq nb.at_⟩
  · -- 10
    intro v133 e134
    have hw5 : Ext w v133 := hw4.trans e134
    refine deps_nil ?_
    refine wl_alloc rfl (z := .agg #[.bool false, .slice none 0 0]) (vs := [.bool false, .slice none 0 0]) (fun _ => by kernel_rfl) rfl (by decide) fun g135 v136 nb => ?_
    exact pi_done rfl nb.ext ⟨⟨_, rfl, by rw [← nb.at_]; exact e134.size, nb.bk⟩, _, rfl, Nat.le_of_eq nb.at_⟩
  · -- all
    intro v137 e138
    have hw5 : Ext w v137 := hw4.trans e138
    refine deps_cons rfl rfl fun x139 y140 h141 e142 f143 => ?_
    obtain rfl := h141
    refine deps_cons rfl rfl fun x144 y145 h146 e147 f148 => ?_
    obtain ⟨s149, A149, n149, c149, rfl, z149⟩ := h146
    have z149 := z149.ext f148
    refine deps_cons rfl rfl fun x150 y151 h152 e153 f154 => ?_
    obtain ⟨s155, A155, n155, c155, rfl, z155⟩ := h152
    have z155 := z155.ext f154
    refine deps_cons rfl rfl fun x156 y157 h158 e159 f160 => ?_
    obtain ⟨s161, A161, n161, c161, rfl, z161⟩ := h158
    have z161 := z161.ext f160
    refine deps_cons rfl rfl fun x162 y163 h164 e165 f166 => ?_
    obtain ⟨a167_0, a167_1, a167_2, rfl, r167_0, r167_1, r167_2⟩ := h164
    obtain ⟨s168, A168, n168, c168, rfl, z168⟩ := r167_0
    obtain ⟨s169, A169, n169, c169, rfl, z169⟩ := r167_1
    obtain rfl := r167_2
    have z168 := z168.ext f166
    have z169 := z169.ext f166
    refine deps_cons rfl rfl fun x170 y171 h172 e173 f174 => ?_
    obtain ⟨a175_0, a175_1, a175_2, rfl, r175_0, r175_1, r175_2⟩ := h172
    obtain ⟨s176, A176, n176, c176, rfl, z176⟩ := r175_0
    obtain ⟨s177, A177, n177, c177, rfl, z177⟩ := r175_1
    obtain rfl := r175_2
    have z176 := z176.ext f174
    have z177 := z177.ext f174
    refine deps_cons rfl rfl fun x178 y179 h180 e181 f182 => ?_
    obtain ⟨s183, A183, n183, c183, rfl, z183⟩ := h180
    have z183 := z183.ext f182
    refine deps_cons rfl rfl fun x184 y185 h186 e187 f188 => ?_
    obtain ⟨s189, A189, n189, c189, rfl, z189⟩ := h186
    have z189 := z189.ext f188
    refine deps_cons rfl rfl fun x190 y191 h192 e193 f194 => ?_
    obtain rfl := h192
    refine deps_cons rfl rfl fun x195 y196 h197 e198 f199 => ?_
    obtain ⟨g200, rfl, ge202, hb201⟩ := h197
    have hb201 := hb201.ext f199
    have q203 : g12 < g200 := Nat.lt_of_lt_of_le (hb15.ext e19).lt ge202
    have ge202 : w.heap.size ≤ g200 := Nat.le_trans hw4.size ge202
    refine deps_cons rfl rfl fun x204 y205 h206 e207 f208 => ?_
    obtain ⟨g209, rfl, ge211, hb210⟩ := h206
    have hb210 := hb210.ext f208
    have q212 : g12 < g209 := Nat.lt_of_lt_of_le (hb15.ext e19).lt ge211
    have ge211 : w.heap.size ≤ g209 := Nat.le_trans hw4.size ge211
    refine deps_nil ?_
    intro hdist
    have q213 : g209 ≠ g200 := fun e => hdist 10 (by decide) 9 (by decide) (by decide) _ _ rfl rfl _ rfl (by rw [e]; rfl)
    clear hdist
    have hb215 := hb201
    refine wl_stored rfl rfl rfl aggInt rfl hb215 (Nat.le_of_ble_eq_true rfl) rfl [.bool s183, .slice A183 n183 c183] rfl fun v214 hb216 u217 hs218 => ?_
    have hw6 : Ext w v214 := u217.ext hw5 ge202
    have hb220 := (hb210.updN u217 (by omega))
    refine wl_stored rfl rfl rfl aggInt rfl hb220 (Nat.le_of_ble_eq_true rfl) rfl [.bool s189, .slice A189 n189 c189] rfl fun v219 hb221 u222 hs223 => ?_
    have hw7 : Ext w v219 := u222.ext hw6 ge211
    refine wl_assign rfl rfl (by decide) ?_
    refine wl_nil ?_
    refine eo_np ?_
    refine eo_then ?_
    refine cw_seq ?_
    -- region 4
    refine cw_region ?_
    refine wl_pure rfl rfl (v := .pointer (some ⟨g200, 1, none⟩)) (by decide) (by kernel_rfl) ?_
    refine wl_load rfl rfl (load_cell cellWords (hb216.updN u222 (by omega)) rfl) (by decide) ?_
    refine wl_call rfl rfl (vs := [.slice A183 n183 c183]) (by kernel_rfl) (by decide) (g_divnat_Sqrt hw7.size ((z183.updT hb215 u217).updT hb220 u222).zi.wi (z183.le (Nat.le_trans L25 (by decide)))) ?_
    rintro _ v224 ⟨k227, p228, xr226, rfl, r226, e225⟩
    have hkk := root_bd hm0 p228
    have L229a : (wd k227).length ≤ 4194305 := Nat.le_trans (len_wd_mono (hkk.1)) L25
    have L229b : (wd (Int.natAbs ((m - 1).tdiv 2) - k227 * k227)).length ≤ 4194305 := Nat.le_trans (len_wd_mono (Nat.sub_le _ _)) L25
    refine ret_intro ?_
    have hw8 : Ext w v224 := hw7.trans e225
    obtain ⟨a230_0, a230_1, rfl, r230_0, r230_1⟩ := r226
    obtain ⟨A231, n231, c231, rfl, j231, o231⟩ := r230_0
    obtain ⟨A232, n232, c232, rfl, j232, o232⟩ := r230_1
    refine wl_move rfl rfl (by decide) ?_
    refine wl_pure rfl rfl (v := .slice A231 n231 c231) (by decide) (by kernel_rfl) ?_
    refine wl_pure rfl rfl (v := .slice A232 n232 c232) (by decide) (by kernel_rfl) ?_
    refine wl_assign rfl rfl (by decide) ?_
    refine wl_assign rfl rfl (by decide) ?_
    refine wl_nil ?_
    refine eo_then ?_
    refine cw_seq ?_
    -- region 5
    refine cw_region ?_
    refine wl_move rfl rfl (by decide) ?_
    refine wl_pure rfl rfl (v := .agg #[.bool false, .slice A231 n231 c231]) (by decide) (by kernel_rfl) ?_
    refine wl_alloc rfl (z := .agg #[.bool false, .slice none 0 0]) (vs := [.bool false, .slice none 0 0]) (fun _ => by kernel_rfl) rfl (by decide) fun g233 v234 nb => ?_
    have hb236 := nb.bk
    have ge237 : w.heap.size ≤ g233 := by rw [← nb.at_]; exact hw8.size
    have q238 : g200 < g233 := by rw [← nb.at_]; exact ((hb216.updN u222 (by omega)).ext e225).lt
    have q239 : g209 < g233 := by rw [← nb.at_]; exact (hb221.ext e225).lt
    have e235 := nb.ext
    clear nb
    have hw9 : Ext w v234 := hw8.trans e235
    have hb241 := hb236
    refine wl_stored rfl rfl rfl aggInt rfl hb241 (Nat.le_of_ble_eq_true rfl) rfl [.bool false, .slice A231 n231 c231] rfl fun v240 hb242 u243 hs244 => ?_
    have hw10 : Ext w v240 := u243.ext hw9 ge237
    refine wl_nil ?_
    refine eo_then ?_
    refine cw_seq ?_
    -- region 6
    refine cw_region ?_
    refine wl_load rfl rfl (load_agg aggInt (((((hb9.ext (e14.trans (e19.trans e138))).updN u217 (by omega)).updN u222 (by omega)).ext (e225.trans e235)).updN u243 (by omega)) [.bool sb, .slice Ab nb cb] rfl (Nat.le_of_ble_eq_true rfl) rfl) (by decide) ?_
    have L245 : ln ((Int.natAbs m : Int)) ≤ 4194304 := (by rw [ln_abs]; exact Lm)
    refine wl_call rfl rfl (vs := [.agg #[.bool sb, .slice Ab nb cb]]) (by kernel_rfl) (by decide) (g_zint_Abs hw10.size (hm.ext hw10) (Nat.le_trans lb (by decide))) ?_
    rintro _ v246 ⟨xr248, rfl, r248, e247⟩
    refine ret_intro ?_
    have hw11 : Ext w v246 := hw10.trans e247
    obtain ⟨s249, A249, n249, c249, rfl, z249⟩ := r248
    refine wl_call rfl rfl (vs := [.int .i64 0]) (by kernel_rfl) (by decide) (g_zint_Of hw11.size (by decide) (by decide)) ?_
    rintro _ v250 ⟨xr252, rfl, r252, e251⟩
    refine ret_intro ?_
    have hw12 : Ext w v250 := hw11.trans e251
    obtain ⟨s253, A253, n253, c253, rfl, z253⟩ := r252
    refine wl_alloc rfl (z := .agg #[.bool false, .slice none 0 0]) (vs := [.bool false, .slice none 0 0]) (fun _ => by kernel_rfl) rfl (by decide) fun g254 v255 nb => ?_
    have hb257 := nb.bk
    have ge258 : w.heap.size ≤ g254 := by rw [← nb.at_]; exact hw12.size
    have q259 : g233 < g254 := by rw [← nb.at_]; exact (hb242.ext (e247.trans e251)).lt
    have e256 := nb.ext
    clear nb
    have hw13 : Ext w v255 := hw12.trans e256
    refine wl_alloc rfl (z := .agg #[.bool false, .slice none 0 0]) (vs := [.bool false, .slice none 0 0]) (fun _ => by kernel_rfl) rfl (by decide) fun g260 v261 nb => ?_
    have hb263 := nb.bk
    have ge264 : w.heap.size ≤ g260 := by rw [← nb.at_]; exact hw13.size
    have q265 : g254 < g260 := by rw [← nb.at_]; exact hb257.lt
    have e262 := nb.ext
    clear nb
    have hw14 : Ext w v261 := hw13.trans e262
    have hb267 := (hb257.ext e262)
    refine wl_stored rfl rfl rfl aggInt rfl hb267 (Nat.le_of_ble_eq_true rfl) rfl [.bool s249, .slice A249 n249 c249] rfl fun v266 hb268 u269 hs270 => ?_
    have hw15 : Ext w v266 := u269.ext hw14 ge258
    have hb272 := (hb263.updN u269 (by omega))
    refine wl_stored rfl rfl rfl aggInt rfl hb272 (Nat.le_of_ble_eq_true rfl) rfl [.bool s253, .slice A253 n253 c253] rfl fun v271 hb273 u274 hs275 => ?_
    have hw16 : Ext w v271 := u274.ext hw15 ge264
    refine wl_nil ?_
    refine eo_then ?_
    refine cw_seq ?_
    -- region 7
    refine cw_region ?_
    refine wl_load rfl rfl (load_agg aggInt ((((((((hb4.ext (e8.trans (e14.trans (e19.trans e138)))).updN u217 (by omega)).updN u222 (by omega)).ext (e225.trans e235)).updN u243 (by omega)).ext (e247.trans (e251.trans (e256.trans e262)))).updN u269 (by omega)).updN u274 (by omega)) [.bool sa, .slice Aa na ca] rfl (Nat.le_of_ble_eq_true rfl) rfl) (by decide) ?_
    refine wl_load rfl rfl (load_agg aggInt ((((((((hb9.ext (e14.trans (e19.trans e138))).updN u217 (by omega)).updN u222 (by omega)).ext (e225.trans e235)).updN u243 (by omega)).ext (e247.trans (e251.trans (e256.trans e262)))).updN u269 (by omega)).updN u274 (by omega)) [.bool sb, .slice Ab nb cb] rfl (Nat.le_of_ble_eq_true rfl) rfl) (by decide) ?_
    have L276 : ln (r % m) ≤ 4194304 := Nat.le_trans (ln_emod (by omega)) Lm
    refine wl_call rfl rfl (vs := [.agg #[.bool sa, .slice Aa na ca], .agg #[.bool sb, .slice Ab nb cb]]) (by kernel_rfl) (by decide) (g_zint_Mod hw16.size (hr.ext hw16) (Nat.le_trans la (by decide)) (hm.ext hw16) (Nat.le_trans lb (by decide)) (by omega)) ?_
    rintro _ v277 ⟨xr279, rfl, r279, e278⟩
    refine ret_intro ?_
    have hw17 : Ext w v277 := hw16.trans e278
    obtain ⟨a280_0, a280_1, rfl, r280_0, r280_1⟩ := r279
    obtain ⟨s281, A281, n281, c281, rfl, z281⟩ := r280_0
    obtain rfl := r280_1
    refine wl_move rfl rfl (by decide) ?_
    refine wl_pure rfl rfl (v := .agg #[.bool s281, .slice A281 n281 c281]) (by decide) (by kernel_rfl) ?_
    refine wl_pure rfl rfl (v := .int .i64 0) (by decide) (by kernel_rfl) ?_
    refine wl_alloc rfl (z := .agg #[.bool false, .slice none 0 0]) (vs := [.bool false, .slice none 0 0]) (fun _ => by kernel_rfl) rfl (by decide) fun g282 v283 nb => ?_
    have hb285 := nb.bk
    have ge286 : w.heap.size ≤ g282 := by rw [← nb.at_]; exact hw17.size
    have q287 : g260 < g282 := by rw [← nb.at_]; exact (hb273.ext e278).lt
    have e284 := nb.ext
    clear nb
    have hw18 : Ext w v283 := hw17.trans e284
    have hb289 := hb285
    refine wl_stored rfl rfl rfl aggInt rfl hb289 (Nat.le_of_ble_eq_true rfl) rfl [.bool s281, .slice A281 n281 c281] rfl fun v288 hb290 u291 hs292 => ?_
    have hw19 : Ext w v288 := u291.ext hw18 ge286
    refine wl_assign rfl rfl (by decide) ?_
    refine wl_nil ?_
    refine eo_then ?_
    refine cw_seq ?_
    -- region 8
    refine cw_region ?_
    refine wl_call rfl rfl (vs := [.int .i64 1]) (by kernel_rfl) (by decide) (g_zint_Of hw19.size (by decide) (by decide)) ?_
    rintro _ v293 ⟨xr295, rfl, r295, e294⟩
    refine ret_intro ?_
    have hw20 : Ext w v293 := hw19.trans e294
    obtain ⟨s296, A296, n296, c296, rfl, z296⟩ := r295
    refine wl_alloc rfl (z := .agg #[.bool false, .slice none 0 0]) (vs := [.bool false, .slice none 0 0]) (fun _ => by kernel_rfl) rfl (by decide) fun g297 v298 nb => ?_
    have hb300 := nb.bk
    have ge301 : w.heap.size ≤ g297 := by rw [← nb.at_]; exact hw20.size
    have q302 : g282 < g297 := by rw [← nb.at_]; exact (hb290.ext e294).lt
    have e299 := nb.ext
    clear nb
    have hw21 : Ext w v298 := hw20.trans e299
    have hb304 := hb300
    refine wl_stored rfl rfl rfl aggInt rfl hb304 (Nat.le_of_ble_eq_true rfl) rfl [.bool s296, .slice A296 n296 c296] rfl fun v303 hb305 u306 hs307 => ?_
    have hw22 : Ext w v303 := u306.ext hw21 ge301
    refine wl_nil ?_
    refine eo_then ?_
    refine cw_seq ?_
    refine cw_block ?_
    refine cw_loop (T := World × Int × Int × Int × Int × ZC × ZC × ZC × ZC)
      (fun ⟨wr, x, y, t, u, k0, k1, k2, k3⟩ => [(2, .pointer (some ⟨g1, 0, none⟩)), (3, .pointer (some ⟨g6, 0, none⟩)), (4, .pointer (some ⟨g12, 0, none⟩)), (5, .int .i64 0), (11, .pointer (some ⟨g233, 0, none⟩)), (12, .pointer (some ⟨g254, 0, none⟩)), (13, .pointer (some ⟨g260, 0, none⟩)), (14, .pointer (some ⟨g282, 0, none⟩)), (16, .pointer (some ⟨g297, 0, none⟩))])
      (fun ⟨wr, x, y, t, u, k0, k1, k2, k3⟩ => wr)
      (fun ⟨wr, x, y, t, u, k0, k1, k2, k3⟩ => (Ext w wr) ∧ (RecI m r x y t u) ∧ ((k227 : Int) < x) ∧ (Bk wr g1 27 [.bool sa, .slice Aa na ca]) ∧ (Bk wr g6 27 [.bool sb, .slice Ab nb cb]) ∧ (Bk wr g12 29 [.bool false, .slice none 0 0, .bool false, .slice none 0 0]) ∧ (Bk wr g233 27 [.bool false, .slice A231 n231 c231]) ∧ (Bk wr g254 27 [.bool k0.s, .slice k0.A k0.n k0.c]) ∧ (Bk wr g260 27 [.bool k2.s, .slice k2.A k2.n k2.c]) ∧ (Bk wr g282 27 [.bool k1.s, .slice k1.A k1.n k1.c]) ∧ (Bk wr g297 27 [.bool k3.s, .slice k3.A k3.n k3.c]) ∧ (Zr wr w.heap.size false A231 n231 c231 ((k227 : Nat) : Int)) ∧ (Zr wr w.heap.size k0.s k0.A k0.n k0.c x) ∧ (Zr wr w.heap.size k1.s k1.A k1.n k1.c y) ∧ (Zr wr w.heap.size k2.s k2.A k2.n k2.c t) ∧ (Zr wr w.heap.size k3.s k3.A k3.n k3.c u))
      (fun ⟨wr, x, y, t, u, k0, k1, k2, k3⟩ => y.natAbs)
      (⟨v303, _, _, _, _, ⟨s249, A249, n249, c249⟩, ⟨s281, A281, n281, c281⟩, ⟨s253, A253, n253, c253⟩, ⟨s296, A296, n296, c296⟩⟩ : World × Int × Int × Int × Int × ZC × ZC × ZC × ZC) ⟨hw22, RecI.init hm0, (by have := hkk.2.2.2; omega), ((((((((((((hb4.ext (e8.trans (e14.trans (e19.trans e138)))).updN u217 (by omega)).updN u222 (by omega)).ext (e225.trans e235)).updN u243 (by omega)).ext (e247.trans (e251.trans (e256.trans e262)))).updN u269 (by omega)).updN u274 (by omega)).ext (e278.trans e284)).updN u291 (by omega)).ext (e294.trans e299)).updN u306 (by omega)), ((((((((((((hb9.ext (e14.trans (e19.trans e138))).updN u217 (by omega)).updN u222 (by omega)).ext (e225.trans e235)).updN u243 (by omega)).ext (e247.trans (e251.trans (e256.trans e262)))).updN u269 (by omega)).updN u274 (by omega)).ext (e278.trans e284)).updN u291 (by omega)).ext (e294.trans e299)).updN u306 (by omega)), ((((((((((((hb15.ext (e19.trans e138)).updN u217 (by omega)).updN u222 (by omega)).ext (e225.trans e235)).updN u243 (by omega)).ext (e247.trans (e251.trans (e256.trans e262)))).updN u269 (by omega)).updN u274 (by omega)).ext (e278.trans e284)).updN u291 (by omega)).ext (e294.trans e299)).updN u306 (by omega)), (((((((hb242.ext (e247.trans (e251.trans (e256.trans e262)))).updN u269 (by omega)).updN u274 (by omega)).ext (e278.trans e284)).updN u291 (by omega)).ext (e294.trans e299)).updN u306 (by omega)), (((((hb268.updN u274 (by omega)).ext (e278.trans e284)).updN u291 (by omega)).ext (e294.trans e299)).updN u306 (by omega)), ((((hb273.ext (e278.trans e284)).updN u291 (by omega)).ext (e294.trans e299)).updN u306 (by omega)), ((hb290.ext (e294.trans e299)).updN u306 (by omega)), hb305, ((((((((((Zr_nat j231 o231).ext e235).updT hb241 u243).ext (e247.trans (e251.trans (e256.trans e262)))).updT hb267 u269).updT hb272 u274).ext (e278.trans e284)).updT hb289 u291).ext (e294.trans e299)).updT hb304 u306), (((((((z249.ext (e251.trans (e256.trans e262))).updT hb267 u269).updT hb272 u274).ext (e278.trans e284)).updT hb289 u291).ext (e294.trans e299)).updT hb304 u306), ((((z281.ext e284).updT hb289 u291).ext (e294.trans e299)).updT hb304 u306), (((((((z253.ext (e256.trans e262)).updT hb267 u269).updT hb272 u274).ext (e278.trans e284)).updT hb289 u291).ext (e294.trans e299)).updT hb304 u306), ((z296.ext e299).updT hb304 u306)⟩ rfl ⟨rfl, rfl, rfl, rfl, rfl, rfl, rfl, rfl, rfl, trivial⟩ ?_
    rintro ⟨wr, x, y, t, u, k0, k1, k2, k3⟩ ⟨hw1, hI, hxk, b_2, b_3, b_4, b_11, b_12, b_13, b_14, b_16, zkk, zk0, zk1, zk2, zk3⟩
    refine cw_re [(2, .pointer (some ⟨g1, 0, none⟩)), (3, .pointer (some ⟨g6, 0, none⟩)), (4, .pointer (some ⟨g12, 0, none⟩)), (5, .int .i64 0), (11, .pointer (some ⟨g233, 0, none⟩)), (12, .pointer (some ⟨g254, 0, none⟩)), (13, .pointer (some ⟨g260, 0, none⟩)), (14, .pointer (some ⟨g282, 0, none⟩)), (16, .pointer (some ⟨g297, 0, none⟩))] wr rfl ⟨rfl, rfl, rfl, rfl, rfl, rfl, rfl, rfl, rfl, trivial⟩ ?_
    have Lx : ln x ≤ 4194305 := Nat.le_trans (hI.ln_x) (Nat.le_trans Lm (by decide))
    have Ly : ln y ≤ 4194305 := Nat.le_trans (hI.ln_y) (Nat.le_trans Lm (by decide))
    have Lt : ln t ≤ 4194305 := Nat.le_trans (hI.ln_t hm0) (Nat.le_trans Lm (by decide))
    have Lu : ln u ≤ 4194305 := Nat.le_trans (hI.ln_u hm0) (Nat.le_trans Lm (by decide))
    refine cw_seq ?_
    refine cw_seq ?_
    by_cases hgt : ((k227 : Nat) : Int) < y
    ·
      -- region 9
      refine cw_region ?_
      refine wl_load rfl rfl (load_agg aggInt b_14 [.bool k1.s, .slice k1.A k1.n k1.c] rfl (Nat.le_of_ble_eq_true rfl) rfl) (by decide) ?_
      refine wl_load rfl rfl (load_agg aggInt b_11 [.bool false, .slice A231 n231 c231] rfl (Nat.le_of_ble_eq_true rfl) rfl) (by decide) ?_
      refine wl_call rfl rfl (vs := [.agg #[.bool k1.s, .slice k1.A k1.n k1.c], .agg #[.bool false, .slice A231 n231 c231]]) (by kernel_rfl) (by decide) (g_zint_Cmp zk1.zi (zk1.le (Nat.le_trans Ly (by decide))) zkk.zi (zkk.le (Nat.le_trans (show ln ((k227 : Nat) : Int) ≤ 4194305 by rw [ln_nat]; exact L229a) (by decide)))) ?_
      rintro _ v308 ⟨xr310, rfl, r310, e309⟩
      refine ret_intro ?_
      have hw2 : Ext w v308 := hw1.trans e309
      obtain rfl := r310
      refine wl_cmp rfl rfl rfl true (scmp_gt_t hgt) (by decide) ?_
      refine wl_nil ?_
      refine eo_then ?_
      refine cw_true rfl ?_
      refine cw_skip ?_
      refine eo_then ?_
      refine cw_block ?_
      refine cw_seq ?_
      -- region 10
      refine cw_region ?_
      refine wl_load rfl rfl (load_agg aggInt (b_12.ext e309) [.bool k0.s, .slice k0.A k0.n k0.c] rfl (Nat.le_of_ble_eq_true rfl) rfl) (by decide) ?_
      refine wl_load rfl rfl (load_agg aggInt (b_14.ext e309) [.bool k1.s, .slice k1.A k1.n k1.c] rfl (Nat.le_of_ble_eq_true rfl) rfl) (by decide) ?_
      have L311 : ln ((x).tdiv y) ≤ 4194305 := Nat.le_trans (ln_tdiv _ _) Lx
      have L312 : ln ((x).tmod y) ≤ 4194305 := Nat.le_trans (ln_tmod _ _) Lx
      refine wl_call rfl rfl (vs := [.agg #[.bool k0.s, .slice k0.A k0.n k0.c], .agg #[.bool k1.s, .slice k1.A k1.n k1.c]]) (by kernel_rfl) (by decide) (g_zint_Trunc hw2.size (zk0.ext e309).zi (zk0.le (Nat.le_trans Lx (by decide))) (zk1.ext e309).zi (zk1.le (Nat.le_trans Ly (by decide))) (by omega)) ?_
      rintro _ v313 ⟨xr315, rfl, r315, e314⟩
      refine ret_intro ?_
      have hw3 : Ext w v313 := hw2.trans e314
      obtain ⟨a316_0, a316_1, a316_2, rfl, r316_0, r316_1, r316_2⟩ := r315
      obtain ⟨s317, A317, n317, c317, rfl, z317⟩ := r316_0
      obtain ⟨s318, A318, n318, c318, rfl, z318⟩ := r316_1
      obtain rfl := r316_2
      refine wl_move rfl rfl (by decide) ?_
      refine wl_pure rfl rfl (v := .agg #[.bool s317, .slice A317 n317 c317]) (by decide) (by kernel_rfl) ?_
      refine wl_pure rfl rfl (v := .agg #[.bool s318, .slice A318 n318 c318]) (by decide) (by kernel_rfl) ?_
      refine wl_pure rfl rfl (v := .int .i64 0) (by decide) (by kernel_rfl) ?_
      refine wl_alloc rfl (z := .agg #[.bool false, .slice none 0 0]) (vs := [.bool false, .slice none 0 0]) (fun _ => by kernel_rfl) rfl (by decide) fun g319 v320 nb => ?_
      have hb322 := nb.bk
      have ge323 : w.heap.size ≤ g319 := by rw [← nb.at_]; exact hw3.size
      have q324 : g297 < g319 := by rw [← nb.at_]; exact (b_16.ext (e309.trans e314)).lt
      have e321 := nb.ext
      clear nb
      have hw4 : Ext w v320 := hw3.trans e321
      refine wl_alloc rfl (z := .agg #[.bool false, .slice none 0 0]) (vs := [.bool false, .slice none 0 0]) (fun _ => by kernel_rfl) rfl (by decide) fun g325 v326 nb => ?_
      have hb328 := nb.bk
      have ge329 : w.heap.size ≤ g325 := by rw [← nb.at_]; exact hw4.size
      have q330 : g319 < g325 := by rw [← nb.at_]; exact hb322.lt
      have e327 := nb.ext
      clear nb
      have hw5 : Ext w v326 := hw4.trans e327
      have hb332 := (hb322.ext e327)
      refine wl_stored rfl rfl rfl aggInt rfl hb332 (Nat.le_of_ble_eq_true rfl) rfl [.bool s317, .slice A317 n317 c317] rfl fun v331 hb333 u334 hs335 => ?_
      have hw6 : Ext w v331 := u334.ext hw5 ge323
      have hb337 := (hb328.updN u334 (by omega))
      refine wl_stored rfl rfl rfl aggInt rfl hb337 (Nat.le_of_ble_eq_true rfl) rfl [.bool s318, .slice A318 n318 c318] rfl fun v336 hb338 u339 hs340 => ?_
      have hw7 : Ext w v336 := u339.ext hw6 ge329
      refine wl_assign rfl rfl (by decide) ?_
      refine wl_nil ?_
      refine eo_then ?_
      refine cw_seq ?_
      -- region 11, certain
      refine cw_keep [(2, .pointer (some ⟨g1, 0, none⟩)), (3, .pointer (some ⟨g6, 0, none⟩)), (4, .pointer (some ⟨g12, 0, none⟩)), (5, .int .i64 0), (11, .pointer (some ⟨g233, 0, none⟩)), (12, .pointer (some ⟨g254, 0, none⟩)), (13, .pointer (some ⟨g260, 0, none⟩)), (14, .pointer (some ⟨g282, 0, none⟩)), (16, .pointer (some ⟨g297, 0, none⟩)), (52, .agg #[.bool k1.s, .slice k1.A k1.n k1.c]), (53, .agg #[.bool false, .slice A231 n231 c231]), (54, .int .i64 (scmp y ((k227 : Nat) : Int))), (55, .bool true), (57, .agg #[.bool k0.s, .slice k0.A k0.n k0.c]), (58, .agg #[.bool k1.s, .slice k1.A k1.n k1.c]), (59, .tuple #[.agg #[.bool s317, .slice A317 n317 c317], .agg #[.bool s318, .slice A318 n318 c318], .int .i64 0]), (56, .tuple #[.agg #[.bool s317, .slice A317 n317 c317], .agg #[.bool s318, .slice A318 n318 c318], .int .i64 0]), (60, .agg #[.bool s317, .slice A317 n317 c317]), (61, .agg #[.bool s318, .slice A318 n318 c318]), (62, .int .i64 0), (17, .pointer (some ⟨g319, 0, none⟩)), (18, .pointer (some ⟨g325, 0, none⟩)), (19, .int .i64 0)] ⟨rfl, rfl, rfl, rfl, rfl, rfl, rfl, rfl, rfl, rfl, rfl, rfl, rfl, rfl, rfl, rfl, rfl, rfl, rfl, rfl, rfl, rfl, rfl, trivial⟩ ?_
      obtain ⟨v341, hv, e342⟩ : ∃ v, v = v336.drew ∧ Ext v336 v := ⟨_, rfl, (Ext.refl _).drew⟩
      have hw8 : Ext w v341 := hw7.trans e342
      have hb344 := ((((b_12.ext (e309.trans (e314.trans (e321.trans e327)))).updN u334 (by omega)).updN u339 (by omega)).ext e342)
      obtain ⟨v343, hr348, hb345, u346, hs347⟩ := run_stored (P := Try.prog) (us := [.bool k1.s, .slice k1.A k1.n k1.c]) (off := 0) aggInt rfl hb344 (Nat.le_of_ble_eq_true rfl) rfl [.bool k1.s, .slice k1.A k1.n k1.c] rfl
      have hw9 : Ext w v343 := u346.ext hw8 ge258
      have hb350 := (((((b_14.ext (e309.trans (e314.trans (e321.trans e327)))).updN u334 (by omega)).updN u339 (by omega)).ext e342).updN u346 (by omega))
      obtain ⟨v349, hr354, hb351, u352, hs353⟩ := run_stored (P := Try.prog) (us := [.bool s318, .slice A318 n318 c318]) (off := 0) aggInt rfl hb350 (Nat.le_of_ble_eq_true rfl) rfl [.bool s318, .slice A318 n318 c318] rfl
      have hw10 : Ext w v349 := u352.ext hw9 ge286
      refine cw_det mix (w := v341) [.agg #[.bool k1.s, .slice k1.A k1.n k1.c], .agg #[.bool s318, .slice A318 n318 c318], undef, undef] [v341, v343, v349] [2, 3] [[], [], [0], [1]] [[], [], [0], [0, 1, 2]] [(0, 0), (1, 0), (1, 1), (2, 0), (3, 1)] rfl hv ?_ ?_
      ·
        refine dobs_val ([(2, .pointer (some ⟨g1, 0, none⟩)), (3, .pointer (some ⟨g6, 0, none⟩)), (4, .pointer (some ⟨g12, 0, none⟩)), (5, .int .i64 0), (11, .pointer (some ⟨g233, 0, none⟩)), (12, .pointer (some ⟨g254, 0, none⟩)), (13, .pointer (some ⟨g260, 0, none⟩)), (14, .pointer (some ⟨g282, 0, none⟩)), (16, .pointer (some ⟨g297, 0, none⟩)), (52, .agg #[.bool k1.s, .slice k1.A k1.n k1.c]), (53, .agg #[.bool false, .slice A231 n231 c231]), (54, .int .i64 (scmp y ((k227 : Nat) : Int))), (55, .bool true), (57, .agg #[.bool k0.s, .slice k0.A k0.n k0.c]), (58, .agg #[.bool k1.s, .slice k1.A k1.n k1.c]), (59, .tuple #[.agg #[.bool s317, .slice A317 n317 c317], .agg #[.bool s318, .slice A318 n318 c318], .int .i64 0]), (56, .tuple #[.agg #[.bool s317, .slice A317 n317 c317], .agg #[.bool s318, .slice A318 n318 c318], .int .i64 0]), (60, .agg #[.bool s317, .slice A317 n317 c317]), (61, .agg #[.bool s318, .slice A318 n318 c318]), (62, .int .i64 0), (17, .pointer (some ⟨g319, 0, none⟩)), (18, .pointer (some ⟨g325, 0, none⟩)), (19, .int .i64 0)]) rfl rfl rfl rfl rfl (rd_load rfl (load_agg aggInt ((((b_14.ext (e309.trans (e314.trans (e321.trans e327)))).updN u334 (by omega)).updN u339 (by omega)).ext e342) [.bool k1.s, .slice k1.A k1.n k1.c] rfl (Nat.le_of_ble_eq_true rfl) rfl)) ?_
        refine dobs_val ([(2, .pointer (some ⟨g1, 0, none⟩)), (3, .pointer (some ⟨g6, 0, none⟩)), (4, .pointer (some ⟨g12, 0, none⟩)), (5, .int .i64 0), (11, .pointer (some ⟨g233, 0, none⟩)), (12, .pointer (some ⟨g254, 0, none⟩)), (13, .pointer (some ⟨g260, 0, none⟩)), (14, .pointer (some ⟨g282, 0, none⟩)), (16, .pointer (some ⟨g297, 0, none⟩)), (52, .agg #[.bool k1.s, .slice k1.A k1.n k1.c]), (53, .agg #[.bool false, .slice A231 n231 c231]), (54, .int .i64 (scmp y ((k227 : Nat) : Int))), (55, .bool true), (57, .agg #[.bool k0.s, .slice k0.A k0.n k0.c]), (58, .agg #[.bool k1.s, .slice k1.A k1.n k1.c]), (59, .tuple #[.agg #[.bool s317, .slice A317 n317 c317], .agg #[.bool s318, .slice A318 n318 c318], .int .i64 0]), (56, .tuple #[.agg #[.bool s317, .slice A317 n317 c317], .agg #[.bool s318, .slice A318 n318 c318], .int .i64 0]), (60, .agg #[.bool s317, .slice A317 n317 c317]), (61, .agg #[.bool s318, .slice A318 n318 c318]), (62, .int .i64 0), (17, .pointer (some ⟨g319, 0, none⟩)), (18, .pointer (some ⟨g325, 0, none⟩)), (19, .int .i64 0)]) rfl rfl rfl rfl rfl (rd_load rfl (load_agg aggInt (hb338.ext e342) [.bool s318, .slice A318 n318 c318] rfl (Nat.le_of_ble_eq_true rfl) rfl)) ?_
        refine dobs_val ([(2, .pointer (some ⟨g1, 0, none⟩)), (3, .pointer (some ⟨g6, 0, none⟩)), (4, .pointer (some ⟨g12, 0, none⟩)), (5, .int .i64 0), (11, .pointer (some ⟨g233, 0, none⟩)), (12, .pointer (some ⟨g254, 0, none⟩)), (13, .pointer (some ⟨g260, 0, none⟩)), (14, .pointer (some ⟨g282, 0, none⟩)), (16, .pointer (some ⟨g297, 0, none⟩)), (52, .agg #[.bool k1.s, .slice k1.A k1.n k1.c]), (53, .agg #[.bool false, .slice A231 n231 c231]), (54, .int .i64 (scmp y ((k227 : Nat) : Int))), (55, .bool true), (57, .agg #[.bool k0.s, .slice k0.A k0.n k0.c]), (58, .agg #[.bool k1.s, .slice k1.A k1.n k1.c]), (59, .tuple #[.agg #[.bool s317, .slice A317 n317 c317], .agg #[.bool s318, .slice A318 n318 c318], .int .i64 0]), (56, .tuple #[.agg #[.bool s317, .slice A317 n317 c317], .agg #[.bool s318, .slice A318 n318 c318], .int .i64 0]), (60, .agg #[.bool s317, .slice A317 n317 c317]), (61, .agg #[.bool s318, .slice A318 n318 c318]), (62, .int .i64 0), (17, .pointer (some ⟨g319, 0, none⟩)), (18, .pointer (some ⟨g325, 0, none⟩)), (19, .int .i64 0)]) rfl rfl rfl rfl rfl (rd_load rfl (load_agg aggInt ((hb338.ext e342).updN u346 (by omega)) [.bool s318, .slice A318 n318 c318] rfl (Nat.le_of_ble_eq_true rfl) rfl)) ?_
        refine dobs_sto ((63, .agg #[.bool k1.s, .slice k1.A k1.n k1.c]) :: [(2, .pointer (some ⟨g1, 0, none⟩)), (3, .pointer (some ⟨g6, 0, none⟩)), (4, .pointer (some ⟨g12, 0, none⟩)), (5, .int .i64 0), (11, .pointer (some ⟨g233, 0, none⟩)), (12, .pointer (some ⟨g254, 0, none⟩)), (13, .pointer (some ⟨g260, 0, none⟩)), (14, .pointer (some ⟨g282, 0, none⟩)), (16, .pointer (some ⟨g297, 0, none⟩)), (52, .agg #[.bool k1.s, .slice k1.A k1.n k1.c]), (53, .agg #[.bool false, .slice A231 n231 c231]), (54, .int .i64 (scmp y ((k227 : Nat) : Int))), (55, .bool true), (57, .agg #[.bool k0.s, .slice k0.A k0.n k0.c]), (58, .agg #[.bool k1.s, .slice k1.A k1.n k1.c]), (59, .tuple #[.agg #[.bool s317, .slice A317 n317 c317], .agg #[.bool s318, .slice A318 n318 c318], .int .i64 0]), (56, .tuple #[.agg #[.bool s317, .slice A317 n317 c317], .agg #[.bool s318, .slice A318 n318 c318], .int .i64 0]), (60, .agg #[.bool s317, .slice A317 n317 c317]), (61, .agg #[.bool s318, .slice A318 n318 c318]), (62, .int .i64 0), (17, .pointer (some ⟨g319, 0, none⟩)), (18, .pointer (some ⟨g325, 0, none⟩)), (19, .int .i64 0)]) rfl rfl rfl rfl rfl (rd_store rfl rfl hr348) ?_
        refine dobs_sto ((64, .agg #[.bool s318, .slice A318 n318 c318]) :: [(2, .pointer (some ⟨g1, 0, none⟩)), (3, .pointer (some ⟨g6, 0, none⟩)), (4, .pointer (some ⟨g12, 0, none⟩)), (5, .int .i64 0), (11, .pointer (some ⟨g233, 0, none⟩)), (12, .pointer (some ⟨g254, 0, none⟩)), (13, .pointer (some ⟨g260, 0, none⟩)), (14, .pointer (some ⟨g282, 0, none⟩)), (16, .pointer (some ⟨g297, 0, none⟩)), (52, .agg #[.bool k1.s, .slice k1.A k1.n k1.c]), (53, .agg #[.bool false, .slice A231 n231 c231]), (54, .int .i64 (scmp y ((k227 : Nat) : Int))), (55, .bool true), (57, .agg #[.bool k0.s, .slice k0.A k0.n k0.c]), (58, .agg #[.bool k1.s, .slice k1.A k1.n k1.c]), (59, .tuple #[.agg #[.bool s317, .slice A317 n317 c317], .agg #[.bool s318, .slice A318 n318 c318], .int .i64 0]), (56, .tuple #[.agg #[.bool s317, .slice A317 n317 c317], .agg #[.bool s318, .slice A318 n318 c318], .int .i64 0]), (60, .agg #[.bool s317, .slice A317 n317 c317]), (61, .agg #[.bool s318, .slice A318 n318 c318]), (62, .int .i64 0), (17, .pointer (some ⟨g319, 0, none⟩)), (18, .pointer (some ⟨g325, 0, none⟩)), (19, .int .i64 0)]) rfl rfl rfl rfl rfl (rd_store rfl rfl hr354) ?_
        exact dobs_nil
      clear hv
      refine eo_keep [(2, .pointer (some ⟨g1, 0, none⟩)), (3, .pointer (some ⟨g6, 0, none⟩)), (4, .pointer (some ⟨g12, 0, none⟩)), (5, .int .i64 0), (11, .pointer (some ⟨g233, 0, none⟩)), (12, .pointer (some ⟨g254, 0, none⟩)), (13, .pointer (some ⟨g260, 0, none⟩)), (14, .pointer (some ⟨g282, 0, none⟩)), (16, .pointer (some ⟨g297, 0, none⟩)), (52, .agg #[.bool k1.s, .slice k1.A k1.n k1.c]), (53, .agg #[.bool false, .slice A231 n231 c231]), (54, .int .i64 (scmp y ((k227 : Nat) : Int))), (55, .bool true), (57, .agg #[.bool k0.s, .slice k0.A k0.n k0.c]), (58, .agg #[.bool k1.s, .slice k1.A k1.n k1.c]), (59, .tuple #[.agg #[.bool s317, .slice A317 n317 c317], .agg #[.bool s318, .slice A318 n318 c318], .int .i64 0]), (56, .tuple #[.agg #[.bool s317, .slice A317 n317 c317], .agg #[.bool s318, .slice A318 n318 c318], .int .i64 0]), (60, .agg #[.bool s317, .slice A317 n317 c317]), (61, .agg #[.bool s318, .slice A318 n318 c318]), (62, .int .i64 0), (17, .pointer (some ⟨g319, 0, none⟩)), (18, .pointer (some ⟨g325, 0, none⟩)), (19, .int .i64 0), (63, .agg #[.bool k1.s, .slice k1.A k1.n k1.c]), (64, .agg #[.bool s318, .slice A318 n318 c318])] ⟨rfl, rfl, rfl, rfl, rfl, rfl, rfl, rfl, rfl, rfl, rfl, rfl, rfl, rfl, rfl, rfl, rfl, rfl, rfl, rfl, rfl, rfl, rfl, rfl, rfl, trivial⟩ ?_
      refine eo_then ?_
      -- region 12, in whatever order
      have L355 : ln ((x.tdiv y) * u) ≤ 8388610 := Nat.le_trans (ln_mul L311 Lu) (by decide)
      have L357 : ln (t - ((x.tdiv y) * u)) ≤ 8388611 := Nat.le_trans (ln_sub Lt L355) (by decide)
      refine cw_draw mix 6 [] [Is (.agg #[.bool k3.s, .slice k3.A k3.n k3.c]), Is (.agg #[.bool k2.s, .slice k2.A k2.n k2.c]), Is (.agg #[.bool s317, .slice A317 n317 c317]), Is (.agg #[.bool k3.s, .slice k3.A k3.n k3.c]), ZR w.heap.size ((x.tdiv y) * u), ZR w.heap.size (t - ((x.tdiv y) * u))] [[], [], [], [], [2, 3], [1, 4]] [[], [], [], [], [2, 3], [1, 2, 3, 4], [0, 1, 2, 3, 4, 5], [0, 1, 2, 3, 4, 5, 6]] rfl
        (obs_cons rfl rfl (hob rfl rfl ?_) (obs_cons rfl rfl (hob rfl rfl ?_) (obs_cons rfl rfl (hob rfl rfl ?_) (obs_cons rfl rfl (hob rfl rfl ?_) (obs_cons rfl rfl (hob rfl rfl ?_) (obs_cons rfl rfl (hob rfl rfl ?_) obs_nil)))))) ?_
      · -- 0
        intro v359 e360
        have hw11 : Ext w v359 := hw10.trans e360
        refine deps_nil ?_
        refine wl_load rfl rfl (load_agg aggInt (((((((b_16.ext (e309.trans (e314.trans (e321.trans e327)))).updN u334 (by omega)).updN u339 (by omega)).ext e342).updN u346 (by omega)).updN u352 (by omega)).ext e360) [.bool k3.s, .slice k3.A k3.n k3.c] rfl (Nat.le_of_ble_eq_true rfl) rfl) (by decide) ?_
        exact pi_done rfl (Ext.refl _) rfl
      · -- 1
        intro v361 e362
        have hw11 : Ext w v361 := hw10.trans e362
        refine deps_nil ?_
        refine wl_load rfl rfl (load_agg aggInt (((((((b_13.ext (e309.trans (e314.trans (e321.trans e327)))).updN u334 (by omega)).updN u339 (by omega)).ext e342).updN u346 (by omega)).updN u352 (by omega)).ext e362) [.bool k2.s, .slice k2.A k2.n k2.c] rfl (Nat.le_of_ble_eq_true rfl) rfl) (by decide) ?_
        exact pi_done rfl (Ext.refl _) rfl
      · -- 2
        intro v363 e364
        have hw11 : Ext w v363 := hw10.trans e364
        refine deps_nil ?_
        refine wl_load rfl rfl (load_agg aggInt (((((hb333.updN u339 (by omega)).ext e342).updN u346 (by omega)).updN u352 (by omega)).ext e364) [.bool s317, .slice A317 n317 c317] rfl (Nat.le_of_ble_eq_true rfl) rfl) (by decide) ?_
        exact pi_done rfl (Ext.refl _) rfl
      · -- 3
        intro v365 e366
        have hw11 : Ext w v365 := hw10.trans e366
        refine deps_nil ?_
        refine wl_load rfl rfl (load_agg aggInt (((((((b_16.ext (e309.trans (e314.trans (e321.trans e327)))).updN u334 (by omega)).updN u339 (by omega)).ext e342).updN u346 (by omega)).updN u352 (by omega)).ext e366) [.bool k3.s, .slice k3.A k3.n k3.c] rfl (Nat.le_of_ble_eq_true rfl) rfl) (by decide) ?_
        exact pi_done rfl (Ext.refl _) rfl
      · -- 4
        intro v367 e368
        have hw11 : Ext w v367 := hw10.trans e368
        refine deps_cons rfl rfl fun x369 y370 h371 e372 f373 => ?_
        obtain rfl := h371
        refine deps_cons rfl rfl fun x374 y375 h376 e377 f378 => ?_
        obtain rfl := h376
        refine deps_nil ?_
        have L379 : ln ((x.tdiv y) * u) ≤ 8388610 := Nat.le_trans (ln_mul L311 Lu) (by decide)
        refine wl_call rfl rfl (vs := [.agg #[.bool s317, .slice A317 n317 c317], .agg #[.bool k3.s, .slice k3.A k3.n k3.c]]) (by kernel_rfl) (by decide) (g_zint_Mul hw11.size (((((((z317.ext (e321.trans e327)).updT hb332 u334).updT hb337 u339).ext e342).updT hb344 u346).updT hb350 u352).ext e368).zi (z317.le (Nat.le_trans L311 (by decide))) (((((((zk3.ext (e309.trans (e314.trans (e321.trans e327)))).updT hb332 u334).updT hb337 u339).ext e342).updT hb344 u346).updT hb350 u352).ext e368).zi (zk3.le (Nat.le_trans Lu (by decide)))) ?_
        rintro _ v380 ⟨xr382, rfl, r382, e381⟩
        refine ret_intro ?_
        have hw12 : Ext w v380 := hw11.trans e381
        obtain ⟨s383, A383, n383, c383, rfl, z383⟩ := r382
        exact pi_done rfl e381 ⟨_, _, _, _, rfl, z383⟩
      · -- 5
        intro v384 e385
        have hw11 : Ext w v384 := hw10.trans e385
        refine deps_cons rfl rfl fun x386 y387 h388 e389 f390 => ?_
        obtain rfl := h388
        refine deps_cons rfl rfl fun x391 y392 h393 e394 f395 => ?_
        obtain ⟨s396, A396, n396, c396, rfl, z396⟩ := h393
        have z396 := z396.ext f395
        refine deps_nil ?_
        have L397 : ln (t - ((x.tdiv y) * u)) ≤ 8388611 := Nat.le_trans (ln_sub Lt L355) (by decide)
        refine wl_call rfl rfl (vs := [.agg #[.bool k2.s, .slice k2.A k2.n k2.c], .agg #[.bool s396, .slice A396 n396 c396]]) (by kernel_rfl) (by decide) (g_zint_Sub hw11.size (((((((zk2.ext (e309.trans (e314.trans (e321.trans e327)))).updT hb332 u334).updT hb337 u339).ext e342).updT hb344 u346).updT hb350 u352).ext e385).zi (zk2.le (Nat.le_trans Lt (by decide))) z396.zi (z396.le (Nat.le_trans L355 (by decide)))) ?_
        rintro _ v398 ⟨xr400, rfl, r400, e399⟩
        refine ret_intro ?_
        have hw12 : Ext w v398 := hw11.trans e399
        obtain ⟨s401, A401, n401, c401, rfl, z401⟩ := r400
        exact pi_done rfl e399 ⟨_, _, _, _, rfl, z401⟩
      · -- all
        intro v402 e403
        have hw11 : Ext w v402 := hw10.trans e403
        refine deps_cons rfl rfl fun x404 y405 h406 e407 f408 => ?_
        obtain rfl := h406
        refine deps_cons rfl rfl fun x409 y410 h411 e412 f413 => ?_
        obtain rfl := h411
        refine deps_cons rfl rfl fun x414 y415 h416 e417 f418 => ?_
        obtain rfl := h416
        refine deps_cons rfl rfl fun x419 y420 h421 e422 f423 => ?_
        obtain rfl := h421
        refine deps_cons rfl rfl fun x424 y425 h426 e427 f428 => ?_
        obtain ⟨s429, A429, n429, c429, rfl, z429⟩ := h426
        have z429 := z429.ext f428
        refine deps_cons rfl rfl fun x430 y431 h432 e433 f434 => ?_
        obtain ⟨s435, A435, n435, c435, rfl, z435⟩ := h432
        have z435 := z435.ext f434
        refine deps_nil ?_
        have hb437 := (((((((b_13.ext (e309.trans (e314.trans (e321.trans e327)))).updN u334 (by omega)).updN u339 (by omega)).ext e342).updN u346 (by omega)).updN u352 (by omega)).ext e403)
        refine wl_stored rfl rfl rfl aggInt rfl hb437 (Nat.le_of_ble_eq_true rfl) rfl [.bool k3.s, .slice k3.A k3.n k3.c] rfl fun v436 hb438 u439 hs440 => ?_
        have hw12 : Ext w v436 := u439.ext hw11 ge264
        have hb442 := ((((((((b_16.ext (e309.trans (e314.trans (e321.trans e327)))).updN u334 (by omega)).updN u339 (by omega)).ext e342).updN u346 (by omega)).updN u352 (by omega)).ext e403).updN u439 (by omega))
        refine wl_stored rfl rfl rfl aggInt rfl hb442 (Nat.le_of_ble_eq_true rfl) rfl [.bool s435, .slice A435 n435 c435] rfl fun v441 hb443 u444 hs445 => ?_
        have hw13 : Ext w v441 := u444.ext hw12 ge301
        refine wl_nil ?_
        refine eo_np ?_
        refine eo_block_normal ?_
        refine eo_round (⟨v441, _, _, _, _, ⟨k1.s, k1.A, k1.n, k1.c⟩, ⟨s318, A318, n318, c318⟩, ⟨k3.s, k3.A, k3.n, k3.c⟩, ⟨s435, A435, n435, c435⟩⟩ : World × Int × Int × Int × Int × ZC × ZC × ZC × ZC) ⟨hw13, hI.step (by omega), hgt, (((((((((b_2.ext (e309.trans (e314.trans (e321.trans e327)))).updN u334 (by omega)).updN u339 (by omega)).ext e342).updN u346 (by omega)).updN u352 (by omega)).ext e403).updN u439 (by omega)).updN u444 (by omega)), (((((((((b_3.ext (e309.trans (e314.trans (e321.trans e327)))).updN u334 (by omega)).updN u339 (by omega)).ext e342).updN u346 (by omega)).updN u352 (by omega)).ext e403).updN u439 (by omega)).updN u444 (by omega)), (((((((((b_4.ext (e309.trans (e314.trans (e321.trans e327)))).updN u334 (by omega)).updN u339 (by omega)).ext e342).updN u346 (by omega)).updN u352 (by omega)).ext e403).updN u439 (by omega)).updN u444 (by omega)), (((((((((b_11.ext (e309.trans (e314.trans (e321.trans e327)))).updN u334 (by omega)).updN u339 (by omega)).ext e342).updN u346 (by omega)).updN u352 (by omega)).ext e403).updN u439 (by omega)).updN u444 (by omega)), ((((hb345.updN u352 (by omega)).ext e403).updN u439 (by omega)).updN u444 (by omega)), (hb438.updN u444 (by omega)), (((hb351.ext e403).updN u439 (by omega)).updN u444 (by omega)), hb443, (((((((((zkk.ext (e309.trans (e314.trans (e321.trans e327)))).updT hb332 u334).updT hb337 u339).ext e342).updT hb344 u346).updT hb350 u352).ext e403).updT hb437 u439).updT hb442 u444), (((((((((zk1.ext (e309.trans (e314.trans (e321.trans e327)))).updT hb332 u334).updT hb337 u339).ext e342).updT hb344 u346).updT hb350 u352).ext e403).updT hb437 u439).updT hb442 u444), (((((((((z318.ext (e321.trans e327)).updT hb332 u334).updT hb337 u339).ext e342).updT hb344 u346).updT hb350 u352).ext e403).updT hb437 u439).updT hb442 u444), (((((((((zk3.ext (e309.trans (e314.trans (e321.trans e327)))).updT hb332 u334).updT hb337 u339).ext e342).updT hb344 u346).updT hb350 u352).ext e403).updT hb437 u439).updT hb442 u444), ((z435.updT hb437 u439).updT hb442 u444)⟩ (tmod_abs (x := x) (show y ≠ 0 by omega)) rfl ⟨rfl, rfl, rfl, rfl, rfl, rfl, rfl, rfl, rfl, trivial⟩
    ·
      have HD := rec_done hm0 hI (by omega) hxk hkk.2.1 (hkk.2.2.1 N h1) (hkk.2.2.1 D h2) hD0 hco hc
      -- region 9
      refine cw_region ?_
      refine wl_load rfl rfl (load_agg aggInt b_14 [.bool k1.s, .slice k1.A k1.n k1.c] rfl (Nat.le_of_ble_eq_true rfl) rfl) (by decide) ?_
      refine wl_load rfl rfl (load_agg aggInt b_11 [.bool false, .slice A231 n231 c231] rfl (Nat.le_of_ble_eq_true rfl) rfl) (by decide) ?_
      refine wl_call rfl rfl (vs := [.agg #[.bool k1.s, .slice k1.A k1.n k1.c], .agg #[.bool false, .slice A231 n231 c231]]) (by kernel_rfl) (by decide) (g_zint_Cmp zk1.zi (zk1.le (Nat.le_trans Ly (by decide))) zkk.zi (zkk.le (Nat.le_trans (show ln ((k227 : Nat) : Int) ≤ 4194305 by rw [ln_nat]; exact L229a) (by decide)))) ?_
      rintro _ v446 ⟨xr448, rfl, r448, e447⟩
      refine ret_intro ?_
      have hw2 : Ext w v446 := hw1.trans e447
      obtain rfl := r448
      refine wl_cmp rfl rfl rfl false (scmp_gt_f (by omega)) (by decide) ?_
      refine wl_nil ?_
      refine eo_then ?_
      refine cw_false rfl ?_
      refine cw_exit ?_
      refine eo_thenX ?_
      refine eo_loopX ?_
      refine eo_block_here ?_
      refine eo_then ?_
      refine cw_seq ?_
      refine cw_seq ?_
      by_cases hu : u < 0
      ·
        have hn : -y = N ∧ -u = D := by rcases HD with ⟨h3, h4⟩ | ⟨h3, h4⟩ <;> omega
        -- region 13
        refine cw_region ?_
        refine wl_load rfl rfl (load_agg aggInt (b_16.ext e447) [.bool k3.s, .slice k3.A k3.n k3.c] rfl (Nat.le_of_ble_eq_true rfl) rfl) (by decide) ?_
        refine wl_call rfl rfl (vs := [.agg #[.bool k3.s, .slice k3.A k3.n k3.c]]) (by kernel_rfl) (by decide) (g_zint_Sign (zk3.ext e447).zi (zk3.le (Nat.le_trans Lu (by decide)))) ?_
        rintro _ v449 ⟨xr451, rfl, r451, e450⟩
        refine ret_intro ?_
        have hw3 : Ext w v449 := hw2.trans e450
        obtain rfl := r451
        refine wl_cmp rfl rfl rfl true (scmp_lt_t hu) (by decide) ?_
        refine wl_nil ?_
        refine eo_then ?_
        refine cw_true rfl ?_
        -- region 14, in whatever order
        have L452 : ln (-y) ≤ 4194305 := (by rw [ln_neg]; exact Ly)
        have L454 : ln (-u) ≤ 4194305 := (by rw [ln_neg]; exact Lu)
        refine cw_draw mix 4 [] [Is (.agg #[.bool k1.s, .slice k1.A k1.n k1.c]), ZR w.heap.size (-y), Is (.agg #[.bool k3.s, .slice k3.A k3.n k3.c]), ZR w.heap.size (-u)] [[], [0], [], [2]] [[], [0], [], [0, 1, 2], [0, 1, 2, 3], [0, 1, 2, 3, 4]] rfl
          (obs_cons rfl rfl (hob rfl rfl ?_) (obs_cons rfl rfl (hob rfl rfl ?_) (obs_cons rfl rfl (hob rfl rfl ?_) (obs_cons rfl rfl (hob rfl rfl ?_) obs_nil)))) ?_
        · -- 0
          intro v456 e457
          have hw4 : Ext w v456 := hw3.trans e457
          refine deps_nil ?_
          refine wl_load rfl rfl (load_agg aggInt (b_14.ext (e447.trans (e450.trans e457))) [.bool k1.s, .slice k1.A k1.n k1.c] rfl (Nat.le_of_ble_eq_true rfl) rfl) (by decide) ?_
          exact pi_done rfl (Ext.refl _) rfl
        · -- 1
          intro v458 e459
          have hw4 : Ext w v458 := hw3.trans e459
          refine deps_cons rfl rfl fun x460 y461 h462 e463 f464 => ?_
          obtain rfl := h462
          refine deps_nil ?_
          have L465 : ln (-y) ≤ 4194305 := (by rw [ln_neg]; exact Ly)
          refine wl_call rfl rfl (vs := [.agg #[.bool k1.s, .slice k1.A k1.n k1.c]]) (by kernel_rfl) (by decide) (g_zint_Neg hw4.size (zk1.ext (e447.trans (e450.trans e459))).zi (zk1.le (Nat.le_trans Ly (by decide)))) ?_
          rintro _ v466 ⟨xr468, rfl, r468, e467⟩
          refine ret_intro ?_
          have hw5 : Ext w v466 := hw4.trans e467
          obtain ⟨s469, A469, n469, c469, rfl, z469⟩ := r468
          exact pi_done rfl e467 ⟨_, _, _, _, rfl, z469⟩
        · -- 2
          intro v470 e471
          have hw4 : Ext w v470 := hw3.trans e471
          refine deps_nil ?_
          refine wl_load rfl rfl (load_agg aggInt (b_16.ext (e447.trans (e450.trans e471))) [.bool k3.s, .slice k3.A k3.n k3.c] rfl (Nat.le_of_ble_eq_true rfl) rfl) (by decide) ?_
          exact pi_done rfl (Ext.refl _) rfl
        · -- 3
          intro v472 e473
          have hw4 : Ext w v472 := hw3.trans e473
          refine deps_cons rfl rfl fun x474 y475 h476 e477 f478 => ?_
          obtain rfl := h476
          refine deps_nil ?_
          have L479 : ln (-u) ≤ 4194305 := (by rw [ln_neg]; exact Lu)
          refine wl_call rfl rfl (vs := [.agg #[.bool k3.s, .slice k3.A k3.n k3.c]]) (by kernel_rfl) (by decide) (g_zint_Neg hw4.size (zk3.ext (e447.trans (e450.trans e473))).zi (zk3.le (Nat.le_trans Lu (by decide)))) ?_
          rintro _ v480 ⟨xr482, rfl, r482, e481⟩
          refine ret_intro ?_
          have hw5 : Ext w v480 := hw4.trans e481
          obtain ⟨s483, A483, n483, c483, rfl, z483⟩ := r482
          exact pi_done rfl e481 ⟨_, _, _, _, rfl, z483⟩
        · -- all
          intro v484 e485
          have hw4 : Ext w v484 := hw3.trans e485
          refine deps_cons rfl rfl fun x486 y487 h488 e489 f490 => ?_
          obtain rfl := h488
          refine deps_cons rfl rfl fun x491 y492 h493 e494 f495 => ?_
          obtain ⟨s496, A496, n496, c496, rfl, z496⟩ := h493
          have z496 := z496.ext f495
          refine deps_cons rfl rfl fun x497 y498 h499 e500 f501 => ?_
          obtain rfl := h499
          refine deps_cons rfl rfl fun x502 y503 h504 e505 f506 => ?_
          obtain ⟨s507, A507, n507, c507, rfl, z507⟩ := h504
          have z507 := z507.ext f506
          refine deps_nil ?_
          have hb509 := (b_14.ext (e447.trans (e450.trans e485)))
          refine wl_stored rfl rfl rfl aggInt rfl hb509 (Nat.le_of_ble_eq_true rfl) rfl [.bool s496, .slice A496 n496 c496] rfl fun v508 hb510 u511 hs512 => ?_
          have hw5 : Ext w v508 := u511.ext hw4 ge286
          have hb514 := ((b_16.ext (e447.trans (e450.trans e485))).updN u511 (by omega))
          refine wl_stored rfl rfl rfl aggInt rfl hb514 (Nat.le_of_ble_eq_true rfl) rfl [.bool s507, .slice A507 n507 c507] rfl fun v513 hb515 u516 hs517 => ?_
          have hw6 : Ext w v513 := u516.ext hw5 ge301
          refine wl_nil ?_
          refine eo_np ?_
          refine eo_then ?_
          refine cw_seq ?_
          -- region 15
          refine cw_region ?_
          refine wl_call rfl rfl (vs := [.int .i64 1]) (by kernel_rfl) (by decide) (g_zint_Of hw6.size (by decide) (by decide)) ?_
          rintro _ v518 ⟨xr520, rfl, r520, e519⟩
          refine ret_intro ?_
          have hw7 : Ext w v518 := hw6.trans e519
          obtain ⟨s521, A521, n521, c521, rfl, z521⟩ := r520
          refine wl_alloc rfl (z := .agg #[.bool false, .slice none 0 0]) (vs := [.bool false, .slice none 0 0]) (fun _ => by kernel_rfl) rfl (by decide) fun g522 v523 nb => ?_
          have hb525 := nb.bk
          have ge526 : w.heap.size ≤ g522 := by rw [← nb.at_]; exact hw7.size
          have q527 : g297 < g522 := by rw [← nb.at_]; exact (hb515.ext e519).lt
          have e524 := nb.ext
          clear nb
          have hw8 : Ext w v523 := hw7.trans e524
          have hb529 := hb525
          refine wl_stored rfl rfl rfl aggInt rfl hb529 (Nat.le_of_ble_eq_true rfl) rfl [.bool s521, .slice A521 n521 c521] rfl fun v528 hb530 u531 hs532 => ?_
          have hw9 : Ext w v528 := u531.ext hw8 ge526
          refine wl_nil ?_
          refine eo_then ?_
          refine cw_seq ?_
          refine cw_seq ?_
          -- region 16, in whatever order
          have L533 : ln ((Int.gcd (-y) (-u) : Int)) ≤ 4194305 := Nat.le_trans (ln_gcd _ _) (Nat.max_le.2 ⟨Nat.le_trans L452 (by decide), Nat.le_trans L454 (by decide)⟩)
          have L535 : ln ((Int.gcd (-u) m : Int)) ≤ 4194305 := Nat.le_trans (ln_gcd _ _) (Nat.max_le.2 ⟨Nat.le_trans L454 (by decide), Nat.le_trans Lm (by decide)⟩)
          refine cw_draw mix 20 [] [Is (.agg #[.bool s507, .slice A507 n507 c507]), Is (.agg #[.bool false, .slice A231 n231 c231]), Is (.int .i64 (scmp (-u) ((k227 : Nat) : Int))), Is (.bool false), Is (.bool false), Is (.agg #[.bool s496, .slice A496 n496 c496]), Is (.agg #[.bool s507, .slice A507 n507 c507]), ZR w.heap.size ((Int.gcd (-y) (-u) : Int)), Is (.agg #[.bool s521, .slice A521 n521 c521]), Is (.int .i64 (scmp (Int.gcd (-y) (-u) : Int) 1)), Is (.bool false), Is (.bool false), Is (.bool false), Is (.agg #[.bool s507, .slice A507 n507 c507]), Is (.agg #[.bool sb, .slice Ab nb cb]), ZR w.heap.size ((Int.gcd (-u) m : Int)), Is (.agg #[.bool s521, .slice A521 n521 c521]), Is (.int .i64 (scmp (Int.gcd (-u) m : Int) 1)), Is (.bool false), Is (.bool false)] [[], [], [0, 1], [2], [3], [4], [4], [4, 5, 6], [4], [4, 7, 8], [4, 9], [4, 10], [11], [12], [12], [12, 13, 14], [12], [12, 15, 16], [12, 17], [12, 18]] [[], [], [0, 1], [0, 1, 2], [0, 1, 2, 3], [0, 1, 2, 3, 4], [0, 1, 2, 3, 4], [0, 1, 2, 3, 4, 5, 6], [0, 1, 2, 3, 4], [0, 1, 2, 3, 4, 5, 6, 7, 8], [0, 1, 2, 3, 4, 5, 6, 7, 8, 9], [0, 1, 2, 3, 4, 5, 6, 7, 8, 9, 10], [0, 1, 2, 3, 4, 5, 6, 7, 8, 9, 10, 11], [0, 1, 2, 3, 4, 5, 6, 7, 8, 9, 10, 11, 12], [0, 1, 2, 3, 4, 5, 6, 7, 8, 9, 10, 11, 12], [0, 1, 2, 3, 4, 5, 6, 7, 8, 9, 10, 11, 12, 13, 14], [0, 1, 2, 3, 4, 5, 6, 7, 8, 9, 10, 11, 12], [0, 1, 2, 3, 4, 5, 6, 7, 8, 9, 10, 11, 12, 13, 14, 15, 16], [0, 1, 2, 3, 4, 5, 6, 7, 8, 9, 10, 11, 12, 13, 14, 15, 16, 17], [0, 1, 2, 3, 4, 5, 6, 7, 8, 9, 10, 11, 12, 13, 14, 15, 16, 17, 18]] rfl
            (obs_cons rfl rfl (hob rfl rfl ?_) (obs_cons rfl rfl (hob rfl rfl ?_) (obs_cons rfl rfl (hob rfl rfl ?_) (obs_cons rfl rfl (hob rfl rfl ?_) (obs_cons rfl rfl (hob rfl rfl ?_) (obs_cons rfl rfl (hob rfl rfl ?_) (obs_cons rfl rfl (hob rfl rfl ?_) (obs_cons rfl rfl (hob rfl rfl ?_) (obs_cons rfl rfl (hob rfl rfl ?_) (obs_cons rfl rfl (hob rfl rfl ?_) (obs_cons rfl rfl (hob rfl rfl ?_) (obs_cons rfl rfl (hob rfl rfl ?_) (obs_cons rfl rfl (hob rfl rfl ?_) (obs_cons rfl rfl (hob rfl rfl ?_) (obs_cons rfl rfl (hob rfl rfl ?_) (obs_cons rfl rfl (hob rfl rfl ?_) (obs_cons rfl rfl (hob rfl rfl ?_) (obs_cons rfl rfl (hob rfl rfl ?_) (obs_cons rfl rfl (hob rfl rfl ?_) (obs_cons rfl rfl (hob rfl rfl ?_) obs_nil)))))))))))))))))))) ?_
          · -- 0
            intro v537 e538
            have hw10 : Ext w v537 := hw9.trans e538
            refine deps_nil ?_
            refine wl_load rfl rfl (load_agg aggInt (((hb515.ext (e519.trans e524)).updN u531 (by omega)).ext e538) [.bool s507, .slice A507 n507 c507] rfl (Nat.le_of_ble_eq_true rfl) rfl) (by decide) ?_
            exact pi_done rfl (Ext.refl _) rfl
          · -- 1
            intro v539 e540
            have hw10 : Ext w v539 := hw9.trans e540
            refine deps_nil ?_
            refine wl_load rfl rfl (load_agg aggInt ((((((b_11.ext (e447.trans (e450.trans e485))).updN u511 (by omega)).updN u516 (by omega)).ext (e519.trans e524)).updN u531 (by omega)).ext e540) [.bool false, .slice A231 n231 c231] rfl (Nat.le_of_ble_eq_true rfl) rfl) (by decide) ?_
            exact pi_done rfl (Ext.refl _) rfl
          · -- 2
            intro v541 e542
            have hw10 : Ext w v541 := hw9.trans e542
            refine deps_cons rfl rfl fun x543 y544 h545 e546 f547 => ?_
            obtain rfl := h545
            refine deps_cons rfl rfl fun x548 y549 h550 e551 f552 => ?_
            obtain rfl := h550
            refine deps_nil ?_
            refine wl_call rfl rfl (vs := [.agg #[.bool s507, .slice A507 n507 c507], .agg #[.bool false, .slice A231 n231 c231]]) (by kernel_rfl) (by decide) (g_zint_Cmp (((((z507.updT hb509 u511).updT hb514 u516).ext (e519.trans e524)).updT hb529 u531).ext e542).zi (z507.le (Nat.le_trans L454 (by decide))) ((((((zkk.ext (e447.trans (e450.trans e485))).updT hb509 u511).updT hb514 u516).ext (e519.trans e524)).updT hb529 u531).ext e542).zi (zkk.le (Nat.le_trans (show ln ((k227 : Nat) : Int) ≤ 4194305 by rw [ln_nat]; exact L229a) (by decide)))) ?_
            rintro _ v553 ⟨xr555, rfl, r555, e554⟩
            refine ret_intro ?_
            have hw11 : Ext w v553 := hw10.trans e554
            obtain rfl := r555
            exact pi_done rfl e554 rfl
          · -- 3
            intro v556 e557
            have hw10 : Ext w v556 := hw9.trans e557
            refine deps_cons rfl rfl fun x558 y559 h560 e561 f562 => ?_
            obtain rfl := h560
            refine deps_nil ?_
            refine wl_cmp rfl rfl rfl false (scmp_gt_f (by have := hkk.2.2.1 D h2; omega)) (by decide) ?_
            exact pi_done rfl (Ext.refl _) rfl
          · -- 4
            intro v563 e564
            have hw10 : Ext w v563 := hw9.trans e564
            refine deps_cons rfl rfl fun x565 y566 h567 e568 f569 => ?_
            obtain rfl := h567
            refine deps_nil ?_
            refine wl_move rfl rfl (by decide) ?_
            exact pi_done rfl (Ext.refl _) rfl
          · -- 5
            intro v570 e571
            have hw10 : Ext w v570 := hw9.trans e571
            refine deps_cons rfl rfl fun x572 y573 h574 e575 f576 => ?_
            obtain rfl := h574
            refine deps_nil ?_
            refine wl_load rfl rfl (load_agg aggInt ((((hb510.updN u516 (by omega)).ext (e519.trans e524)).updN u531 (by omega)).ext e571) [.bool s496, .slice A496 n496 c496] rfl (Nat.le_of_ble_eq_true rfl) rfl) (by decide) ?_
            exact pi_done rfl (Ext.refl _) rfl
          · -- 6
            intro v577 e578
            have hw10 : Ext w v577 := hw9.trans e578
            refine deps_cons rfl rfl fun x579 y580 h581 e582 f583 => ?_
            obtain rfl := h581
            refine deps_nil ?_
            refine wl_load rfl rfl (load_agg aggInt (((hb515.ext (e519.trans e524)).updN u531 (by omega)).ext e578) [.bool s507, .slice A507 n507 c507] rfl (Nat.le_of_ble_eq_true rfl) rfl) (by decide) ?_
            exact pi_done rfl (Ext.refl _) rfl
          · -- 7
            intro v584 e585
            have hw10 : Ext w v584 := hw9.trans e585
            refine deps_cons rfl rfl fun x586 y587 h588 e589 f590 => ?_
            obtain rfl := h588
            refine deps_cons rfl rfl fun x591 y592 h593 e594 f595 => ?_
            obtain rfl := h593
            refine deps_cons rfl rfl fun x596 y597 h598 e599 f600 => ?_
            obtain rfl := h598
            refine deps_nil ?_
            have L601 : ln ((Int.gcd (-y) (-u) : Int)) ≤ 4194305 := Nat.le_trans (ln_gcd _ _) (Nat.max_le.2 ⟨Nat.le_trans L452 (by decide), Nat.le_trans L454 (by decide)⟩)
            refine wl_call rfl rfl (vs := [.agg #[.bool s496, .slice A496 n496 c496], .agg #[.bool s507, .slice A507 n507 c507]]) (by kernel_rfl) (by decide) (g_bezout_Gcd hw10.size (((((z496.updT hb509 u511).updT hb514 u516).ext (e519.trans e524)).updT hb529 u531).ext e585).zi (z496.le (Nat.le_trans L452 (by decide))) (((((z507.updT hb509 u511).updT hb514 u516).ext (e519.trans e524)).updT hb529 u531).ext e585).zi (z507.le (Nat.le_trans L454 (by decide)))) ?_
            rintro _ v602 ⟨xr604, rfl, r604, e603⟩
            refine ret_intro ?_
            have hw11 : Ext w v602 := hw10.trans e603
            obtain ⟨s605, A605, n605, c605, rfl, z605⟩ := r604
            exact pi_done rfl e603 ⟨_, _, _, _, rfl, z605⟩
          · -- 8
            intro v606 e607
            have hw10 : Ext w v606 := hw9.trans e607
            refine deps_cons rfl rfl fun x608 y609 h610 e611 f612 => ?_
            obtain rfl := h610
            refine deps_nil ?_
            refine wl_load rfl rfl (load_agg aggInt (hb530.ext e607) [.bool s521, .slice A521 n521 c521] rfl (Nat.le_of_ble_eq_true rfl) rfl) (by decide) ?_
            exact pi_done rfl (Ext.refl _) rfl
          · -- 9
            intro v613 e614
            have hw10 : Ext w v613 := hw9.trans e614
            refine deps_cons rfl rfl fun x615 y616 h617 e618 f619 => ?_
            obtain rfl := h617
            refine deps_cons rfl rfl fun x620 y621 h622 e623 f624 => ?_
            obtain ⟨s625, A625, n625, c625, rfl, z625⟩ := h622
            have z625 := z625.ext f624
            refine deps_cons rfl rfl fun x626 y627 h628 e629 f630 => ?_
            obtain rfl := h628
            refine deps_nil ?_
            refine wl_call rfl rfl (vs := [.agg #[.bool s625, .slice A625 n625 c625], .agg #[.bool s521, .slice A521 n521 c521]]) (by kernel_rfl) (by decide) (g_zint_Cmp z625.zi (z625.le (Nat.le_trans L533 (by decide))) (((z521.ext e524).updT hb529 u531).ext e614).zi (z521.le (Nat.le_trans (show ln (1) ≤ 1 by decide +kernel) (by decide)))) ?_
            rintro _ v631 ⟨xr633, rfl, r633, e632⟩
            refine ret_intro ?_
            have hw11 : Ext w v631 := hw10.trans e632
            obtain rfl := r633
            exact pi_done rfl e632 rfl
          · -- 10
            intro v634 e635
            have hw10 : Ext w v634 := hw9.trans e635
            refine deps_cons rfl rfl fun x636 y637 h638 e639 f640 => ?_
            obtain rfl := h638
            refine deps_cons rfl rfl fun x641 y642 h643 e644 f645 => ?_
            obtain rfl := h643
            refine deps_nil ?_
            refine wl_cmp rfl rfl rfl false (scmp_ne_f (by rw [hn.1, hn.2, hco]; rfl)) (by decide) ?_
            exact pi_done rfl (Ext.refl _) rfl
          · -- 11
            intro v646 e647
            have hw10 : Ext w v646 := hw9.trans e647
            refine deps_cons rfl rfl fun x648 y649 h650 e651 f652 => ?_
            obtain rfl := h650
            refine deps_cons rfl rfl fun x653 y654 h655 e656 f657 => ?_
            obtain rfl := h655
            refine deps_nil ?_
            refine wl_pure rfl rfl (v := .bool false) (by decide) (by kernel_rfl) ?_
            exact pi_done rfl (Ext.refl _) rfl
          · -- 12
            intro v658 e659
            have hw10 : Ext w v658 := hw9.trans e659
            refine deps_cons rfl rfl fun x660 y661 h662 e663 f664 => ?_
            obtain rfl := h662
            refine deps_nil ?_
            refine wl_move rfl rfl (by decide) ?_
            exact pi_done rfl (Ext.refl _) rfl
          · -- 13
            intro v665 e666
            have hw10 : Ext w v665 := hw9.trans e666
            refine deps_cons rfl rfl fun x667 y668 h669 e670 f671 => ?_
            obtain rfl := h669
            refine deps_nil ?_
            refine wl_load rfl rfl (load_agg aggInt (((hb515.ext (e519.trans e524)).updN u531 (by omega)).ext e666) [.bool s507, .slice A507 n507 c507] rfl (Nat.le_of_ble_eq_true rfl) rfl) (by decide) ?_
            exact pi_done rfl (Ext.refl _) rfl
          · -- 14
            intro v672 e673
            have hw10 : Ext w v672 := hw9.trans e673
            refine deps_cons rfl rfl fun x674 y675 h676 e677 f678 => ?_
            obtain rfl := h676
            refine deps_nil ?_
            refine wl_load rfl rfl (load_agg aggInt ((((((b_3.ext (e447.trans (e450.trans e485))).updN u511 (by omega)).updN u516 (by omega)).ext (e519.trans e524)).updN u531 (by omega)).ext e673) [.bool sb, .slice Ab nb cb] rfl (Nat.le_of_ble_eq_true rfl) rfl) (by decide) ?_
            exact pi_done rfl (Ext.refl _) rfl
          · -- 15
            intro v679 e680
            have hw10 : Ext w v679 := hw9.trans e680
            refine deps_cons rfl rfl fun x681 y682 h683 e684 f685 => ?_
            obtain rfl := h683
            refine deps_cons rfl rfl fun x686 y687 h688 e689 f690 => ?_
            obtain rfl := h688
            refine deps_cons rfl rfl fun x691 y692 h693 e694 f695 => ?_
            obtain rfl := h693
            refine deps_nil ?_
            have L696 : ln ((Int.gcd (-u) m : Int)) ≤ 4194305 := Nat.le_trans (ln_gcd _ _) (Nat.max_le.2 ⟨Nat.le_trans L454 (by decide), Nat.le_trans Lm (by decide)⟩)
            refine wl_call rfl rfl (vs := [.agg #[.bool s507, .slice A507 n507 c507], .agg #[.bool sb, .slice Ab nb cb]]) (by kernel_rfl) (by decide) (g_bezout_Gcd hw10.size (((((z507.updT hb509 u511).updT hb514 u516).ext (e519.trans e524)).updT hb529 u531).ext e680).zi (z507.le (Nat.le_trans L454 (by decide))) (hm.ext hw10) (Nat.le_trans lb (by decide))) ?_
            rintro _ v697 ⟨xr699, rfl, r699, e698⟩
            refine ret_intro ?_
            have hw11 : Ext w v697 := hw10.trans e698
            obtain ⟨s700, A700, n700, c700, rfl, z700⟩ := r699
            exact pi_done rfl e698 ⟨_, _, _, _, rfl, z700⟩
          · -- 16
            intro v701 e702
            have hw10 : Ext w v701 := hw9.trans e702
            refine deps_cons rfl rfl fun x703 y704 h705 e706 f707 => ?_
            obtain rfl := h705
            refine deps_nil ?_
            refine wl_load rfl rfl (load_agg aggInt (hb530.ext e702) [.bool s521, .slice A521 n521 c521] rfl (Nat.le_of_ble_eq_true rfl) rfl) (by decide) ?_
            exact pi_done rfl (Ext.refl _) rfl
          · -- 17
            intro v708 e709
            have hw10 : Ext w v708 := hw9.trans e709
            refine deps_cons rfl rfl fun x710 y711 h712 e713 f714 => ?_
            obtain rfl := h712
            refine deps_cons rfl rfl fun x715 y716 h717 e718 f719 => ?_
            obtain ⟨s720, A720, n720, c720, rfl, z720⟩ := h717
            have z720 := z720.ext f719
            refine deps_cons rfl rfl fun x721 y722 h723 e724 f725 => ?_
            obtain rfl := h723
            refine deps_nil ?_
            refine wl_call rfl rfl (vs := [.agg #[.bool s720, .slice A720 n720 c720], .agg #[.bool s521, .slice A521 n521 c521]]) (by kernel_rfl) (by decide) (g_zint_Cmp z720.zi (z720.le (Nat.le_trans L535 (by decide))) (((z521.ext e524).updT hb529 u531).ext e709).zi (z521.le (Nat.le_trans (show ln (1) ≤ 1 by decide +kernel) (by decide)))) ?_
            rintro _ v726 ⟨xr728, rfl, r728, e727⟩
            refine ret_intro ?_
            have hw11 : Ext w v726 := hw10.trans e727
            obtain rfl := r728
            exact pi_done rfl e727 rfl
          · -- 18
            intro v729 e730
            have hw10 : Ext w v729 := hw9.trans e730
            refine deps_cons rfl rfl fun x731 y732 h733 e734 f735 => ?_
            obtain rfl := h733
            refine deps_cons rfl rfl fun x736 y737 h738 e739 f740 => ?_
            obtain rfl := h738
            refine deps_nil ?_
            refine wl_cmp rfl rfl rfl false (scmp_ne_f (by rw [hn.2, hdm]; rfl)) (by decide) ?_
            exact pi_done rfl (Ext.refl _) rfl
          · -- 19
            intro v741 e742
            have hw10 : Ext w v741 := hw9.trans e742
            refine deps_cons rfl rfl fun x743 y744 h745 e746 f747 => ?_
            obtain rfl := h745
            refine deps_cons rfl rfl fun x748 y749 h750 e751 f752 => ?_
            obtain rfl := h750
            refine deps_nil ?_
            refine wl_pure rfl rfl (v := .bool false) (by decide) (by kernel_rfl) ?_
            exact pi_done rfl (Ext.refl _) rfl
          · -- all
            intro v753 e754
            have hw10 : Ext w v753 := hw9.trans e754
            refine deps_cons rfl rfl fun x755 y756 h757 e758 f759 => ?_
            obtain rfl := h757
            refine deps_cons rfl rfl fun x760 y761 h762 e763 f764 => ?_
            obtain rfl := h762
            refine deps_cons rfl rfl fun x765 y766 h767 e768 f769 => ?_
            obtain rfl := h767
            refine deps_cons rfl rfl fun x770 y771 h772 e773 f774 => ?_
            obtain rfl := h772
            refine deps_cons rfl rfl fun x775 y776 h777 e778 f779 => ?_
            obtain rfl := h777
            refine deps_cons rfl rfl fun x780 y781 h782 e783 f784 => ?_
            obtain rfl := h782
            refine deps_cons rfl rfl fun x785 y786 h787 e788 f789 => ?_
            obtain rfl := h787
            refine deps_cons rfl rfl fun x790 y791 h792 e793 f794 => ?_
            obtain ⟨s795, A795, n795, c795, rfl, z795⟩ := h792
            have z795 := z795.ext f794
            refine deps_cons rfl rfl fun x796 y797 h798 e799 f800 => ?_
            obtain rfl := h798
            refine deps_cons rfl rfl fun x801 y802 h803 e804 f805 => ?_
            obtain rfl := h803
            refine deps_cons rfl rfl fun x806 y807 h808 e809 f810 => ?_
            obtain rfl := h808
            refine deps_cons rfl rfl fun x811 y812 h813 e814 f815 => ?_
            obtain rfl := h813
            refine deps_cons rfl rfl fun x816 y817 h818 e819 f820 => ?_
            obtain rfl := h818
            refine deps_cons rfl rfl fun x821 y822 h823 e824 f825 => ?_
            obtain rfl := h823
            refine deps_cons rfl rfl fun x826 y827 h828 e829 f830 => ?_
            obtain rfl := h828
            refine deps_cons rfl rfl fun x831 y832 h833 e834 f835 => ?_
            obtain ⟨s836, A836, n836, c836, rfl, z836⟩ := h833
            have z836 := z836.ext f835
            refine deps_cons rfl rfl fun x837 y838 h839 e840 f841 => ?_
            obtain rfl := h839
            refine deps_cons rfl rfl fun x842 y843 h844 e845 f846 => ?_
            obtain rfl := h844
            refine deps_cons rfl rfl fun x847 y848 h849 e850 f851 => ?_
            obtain rfl := h849
            refine deps_cons rfl rfl fun x852 y853 h854 e855 f856 => ?_
            obtain rfl := h854
            refine deps_nil ?_
            refine wl_nil ?_
            refine eo_np ?_
            refine eo_then ?_
            refine cw_false rfl ?_
            refine cw_skip ?_
            refine eo_then ?_
            refine cw_seq ?_
            -- region 18
            refine cw_region ?_
            refine wl_load rfl rfl (load_agg aggInt ((((hb510.updN u516 (by omega)).ext (e519.trans e524)).updN u531 (by omega)).ext e754) [.bool s496, .slice A496 n496 c496] rfl (Nat.le_of_ble_eq_true rfl) rfl) (by decide) ?_
            refine wl_load rfl rfl (load_agg aggInt (((hb515.ext (e519.trans e524)).updN u531 (by omega)).ext e754) [.bool s507, .slice A507 n507 c507] rfl (Nat.le_of_ble_eq_true rfl) rfl) (by decide) ?_
            refine wl_pure rfl rfl (v := .agg #[.bool s496, .slice A496 n496 c496, .bool s507, .slice A507 n507 c507]) (by decide) (by kernel_rfl) ?_
            have hb858 := ((((((b_4.ext (e447.trans (e450.trans e485))).updN u511 (by omega)).updN u516 (by omega)).ext (e519.trans e524)).updN u531 (by omega)).ext e754)
            refine wl_stored rfl rfl rfl aggFrac rfl hb858 (Nat.le_of_ble_eq_true rfl) rfl [.bool s496, .slice A496 n496 c496, .bool s507, .slice A507 n507 c507] rfl fun v857 hb859 u860 hs861 => ?_
            have hw11 : Ext w v857 := u860.ext hw10 ge16
            refine wl_assign rfl rfl (by decide) ?_
            refine wl_nil ?_
            refine eo_then ?_
            refine cw_ret ?_
            refine eo_ret [.agg #[.bool s496, .slice A496 n496 c496, .bool s507, .slice A507 n507 c507], .int .i64 0] rfl ⟨⟨_, rfl, load_agg aggFrac hb859 [.bool s496, .slice A496 n496 c496, .bool s507, .slice A507 n507 c507] rfl (Nat.le_of_ble_eq_true rfl) rfl⟩, rfl, trivial⟩ ?_
            exact ⟨_, rfl, ⟨_, _, rfl, ⟨_, _, _, _, _, _, _, _, rfl, (((((((z496.updT hb509 u511).updT hb514 u516).ext (e519.trans e524)).updT hb529 u531).ext e754).updT hb858 u860)).cast (hn.1), (((((((z507.updT hb509 u511).updT hb514 u516).ext (e519.trans e524)).updT hb529 u531).ext e754).updT hb858 u860)).cast (hn.2)⟩, rfl⟩, hw11⟩
      ·
        have hn : y = N ∧ u = D := by rcases HD with ⟨h3, h4⟩ | ⟨h3, h4⟩ <;> omega
        -- region 13
        refine cw_region ?_
        refine wl_load rfl rfl (load_agg aggInt (b_16.ext e447) [.bool k3.s, .slice k3.A k3.n k3.c] rfl (Nat.le_of_ble_eq_true rfl) rfl) (by decide) ?_
        refine wl_call rfl rfl (vs := [.agg #[.bool k3.s, .slice k3.A k3.n k3.c]]) (by kernel_rfl) (by decide) (g_zint_Sign (zk3.ext e447).zi (zk3.le (Nat.le_trans Lu (by decide)))) ?_
        rintro _ v862 ⟨xr864, rfl, r864, e863⟩
        refine ret_intro ?_
        have hw3 : Ext w v862 := hw2.trans e863
        obtain rfl := r864
        refine wl_cmp rfl rfl rfl false (scmp_lt_f (by omega)) (by decide) ?_
        refine wl_nil ?_
        refine eo_then ?_
        refine cw_false rfl ?_
        refine cw_skip ?_
        refine eo_then ?_
        refine cw_seq ?_
        -- region 15
        refine cw_region ?_
        refine wl_call rfl rfl (vs := [.int .i64 1]) (by kernel_rfl) (by decide) (g_zint_Of hw3.size (by decide) (by decide)) ?_
        rintro _ v865 ⟨xr867, rfl, r867, e866⟩
        refine ret_intro ?_
        have hw4 : Ext w v865 := hw3.trans e866
        obtain ⟨s868, A868, n868, c868, rfl, z868⟩ := r867
        refine wl_alloc rfl (z := .agg #[.bool false, .slice none 0 0]) (vs := [.bool false, .slice none 0 0]) (fun _ => by kernel_rfl) rfl (by decide) fun g869 v870 nb => ?_
        have hb872 := nb.bk
        have ge873 : w.heap.size ≤ g869 := by rw [← nb.at_]; exact hw4.size
        have q874 : g297 < g869 := by rw [← nb.at_]; exact (b_16.ext (e447.trans (e863.trans e866))).lt
        have e871 := nb.ext
        clear nb
        have hw5 : Ext w v870 := hw4.trans e871
        have hb876 := hb872
        refine wl_stored rfl rfl rfl aggInt rfl hb876 (Nat.le_of_ble_eq_true rfl) rfl [.bool s868, .slice A868 n868 c868] rfl fun v875 hb877 u878 hs879 => ?_
        have hw6 : Ext w v875 := u878.ext hw5 ge873
        refine wl_nil ?_
        refine eo_then ?_
        refine cw_seq ?_
        refine cw_seq ?_
        -- region 16, in whatever order
        have L880 : ln ((Int.gcd y u : Int)) ≤ 4194305 := Nat.le_trans (ln_gcd _ _) (Nat.max_le.2 ⟨Nat.le_trans Ly (by decide), Nat.le_trans Lu (by decide)⟩)
        have L882 : ln ((Int.gcd u m : Int)) ≤ 4194305 := Nat.le_trans (ln_gcd _ _) (Nat.max_le.2 ⟨Nat.le_trans Lu (by decide), Nat.le_trans Lm (by decide)⟩)
        refine cw_draw mix 20 [] [Is (.agg #[.bool k3.s, .slice k3.A k3.n k3.c]), Is (.agg #[.bool false, .slice A231 n231 c231]), Is (.int .i64 (scmp u ((k227 : Nat) : Int))), Is (.bool false), Is (.bool false), Is (.agg #[.bool k1.s, .slice k1.A k1.n k1.c]), Is (.agg #[.bool k3.s, .slice k3.A k3.n k3.c]), ZR w.heap.size ((Int.gcd y u : Int)), Is (.agg #[.bool s868, .slice A868 n868 c868]), Is (.int .i64 (scmp (Int.gcd y u : Int) 1)), Is (.bool false), Is (.bool false), Is (.bool false), Is (.agg #[.bool k3.s, .slice k3.A k3.n k3.c]), Is (.agg #[.bool sb, .slice Ab nb cb]), ZR w.heap.size ((Int.gcd u m : Int)), Is (.agg #[.bool s868, .slice A868 n868 c868]), Is (.int .i64 (scmp (Int.gcd u m : Int) 1)), Is (.bool false), Is (.bool false)] [[], [], [0, 1], [2], [3], [4], [4], [4, 5, 6], [4], [4, 7, 8], [4, 9], [4, 10], [11], [12], [12], [12, 13, 14], [12], [12, 15, 16], [12, 17], [12, 18]] [[], [], [0, 1], [0, 1, 2], [0, 1, 2, 3], [0, 1, 2, 3, 4], [0, 1, 2, 3, 4], [0, 1, 2, 3, 4, 5, 6], [0, 1, 2, 3, 4], [0, 1, 2, 3, 4, 5, 6, 7, 8], [0, 1, 2, 3, 4, 5, 6, 7, 8, 9], [0, 1, 2, 3, 4, 5, 6, 7, 8, 9, 10], [0, 1, 2, 3, 4, 5, 6, 7, 8, 9, 10, 11], [0, 1, 2, 3, 4, 5, 6, 7, 8, 9, 10, 11, 12], [0, 1, 2, 3, 4, 5, 6, 7, 8, 9, 10, 11, 12], [0, 1, 2, 3, 4, 5, 6, 7, 8, 9, 10, 11, 12, 13, 14], [0, 1, 2, 3, 4, 5, 6, 7, 8, 9, 10, 11, 12], [0, 1, 2, 3, 4, 5, 6, 7, 8, 9, 10, 11, 12, 13, 14, 15, 16], [0, 1, 2, 3, 4, 5, 6, 7, 8, 9, 10, 11, 12, 13, 14, 15, 16, 17], [0, 1, 2, 3, 4, 5, 6, 7, 8, 9, 10, 11, 12, 13, 14, 15, 16, 17, 18]] rfl
          (obs_cons rfl rfl (hob rfl rfl ?_) (obs_cons rfl rfl (hob rfl rfl ?_) (obs_cons rfl rfl (hob rfl rfl ?_) (obs_cons rfl rfl (hob rfl rfl ?_) (obs_cons rfl rfl (hob rfl rfl ?_) (obs_cons rfl rfl (hob rfl rfl ?_) (obs_cons rfl rfl (hob rfl rfl ?_) (obs_cons rfl rfl (hob rfl rfl ?_) (obs_cons rfl rfl (hob rfl rfl ?_) (obs_cons rfl rfl (hob rfl rfl ?_) (obs_cons rfl rfl (hob rfl rfl ?_) (obs_cons rfl rfl (hob rfl rfl ?_) (obs_cons rfl rfl (hob rfl rfl ?_) (obs_cons rfl rfl (hob rfl rfl ?_) (obs_cons rfl rfl (hob rfl rfl ?_) (obs_cons rfl rfl (hob rfl rfl ?_) (obs_cons rfl rfl (hob rfl rfl ?_) (obs_cons rfl rfl (hob rfl rfl ?_) (obs_cons rfl rfl (hob rfl rfl ?_) (obs_cons rfl rfl (hob rfl rfl ?_) obs_nil)))))))))))))))))))) ?_
        · -- 0
          intro v884 e885
          have hw7 : Ext w v884 := hw6.trans e885
          refine deps_nil ?_
          refine wl_load rfl rfl (load_agg aggInt (((b_16.ext (e447.trans (e863.trans (e866.trans e871)))).updN u878 (by omega)).ext e885) [.bool k3.s, .slice k3.A k3.n k3.c] rfl (Nat.le_of_ble_eq_true rfl) rfl) (by decide) ?_
          exact pi_done rfl (Ext.refl _) rfl
        · -- 1
          intro v886 e887
          have hw7 : Ext w v886 := hw6.trans e887
          refine deps_nil ?_
          refine wl_load rfl rfl (load_agg aggInt (((b_11.ext (e447.trans (e863.trans (e866.trans e871)))).updN u878 (by omega)).ext e887) [.bool false, .slice A231 n231 c231] rfl (Nat.le_of_ble_eq_true rfl) rfl) (by decide) ?_
          exact pi_done rfl (Ext.refl _) rfl
        · -- 2
          intro v888 e889
          have hw7 : Ext w v888 := hw6.trans e889
          refine deps_cons rfl rfl fun x890 y891 h892 e893 f894 => ?_
          obtain rfl := h892
          refine deps_cons rfl rfl fun x895 y896 h897 e898 f899 => ?_
          obtain rfl := h897
          refine deps_nil ?_
          refine wl_call rfl rfl (vs := [.agg #[.bool k3.s, .slice k3.A k3.n k3.c], .agg #[.bool false, .slice A231 n231 c231]]) (by kernel_rfl) (by decide) (g_zint_Cmp (((zk3.ext (e447.trans (e863.trans (e866.trans e871)))).updT hb876 u878).ext e889).zi (zk3.le (Nat.le_trans Lu (by decide))) (((zkk.ext (e447.trans (e863.trans (e866.trans e871)))).updT hb876 u878).ext e889).zi (zkk.le (Nat.le_trans (show ln ((k227 : Nat) : Int) ≤ 4194305 by rw [ln_nat]; exact L229a) (by decide)))) ?_
          rintro _ v900 ⟨xr902, rfl, r902, e901⟩
          refine ret_intro ?_
          have hw8 : Ext w v900 := hw7.trans e901
          obtain rfl := r902
          exact pi_done rfl e901 rfl
        · -- 3
          intro v903 e904
          have hw7 : Ext w v903 := hw6.trans e904
          refine deps_cons rfl rfl fun x905 y906 h907 e908 f909 => ?_
          obtain rfl := h907
          refine deps_nil ?_
          refine wl_cmp rfl rfl rfl false (scmp_gt_f (by have := hkk.2.2.1 D h2; omega)) (by decide) ?_
          exact pi_done rfl (Ext.refl _) rfl
        · -- 4
          intro v910 e911
          have hw7 : Ext w v910 := hw6.trans e911
          refine deps_cons rfl rfl fun x912 y913 h914 e915 f916 => ?_
          obtain rfl := h914
          refine deps_nil ?_
          refine wl_move rfl rfl (by decide) ?_
          exact pi_done rfl (Ext.refl _) rfl
        · -- 5
          intro v917 e918
          have hw7 : Ext w v917 := hw6.trans e918
          refine deps_cons rfl rfl fun x919 y920 h921 e922 f923 => ?_
          obtain rfl := h921
          refine deps_nil ?_
          refine wl_load rfl rfl (load_agg aggInt (((b_14.ext (e447.trans (e863.trans (e866.trans e871)))).updN u878 (by omega)).ext e918) [.bool k1.s, .slice k1.A k1.n k1.c] rfl (Nat.le_of_ble_eq_true rfl) rfl) (by decide) ?_
          exact pi_done rfl (Ext.refl _) rfl
        · -- 6
          intro v924 e925
          have hw7 : Ext w v924 := hw6.trans e925
          refine deps_cons rfl rfl fun x926 y927 h928 e929 f930 => ?_
          obtain rfl := h928
          refine deps_nil ?_
          refine wl_load rfl rfl (load_agg aggInt (((b_16.ext (e447.trans (e863.trans (e866.trans e871)))).updN u878 (by omega)).ext e925) [.bool k3.s, .slice k3.A k3.n k3.c] rfl (Nat.le_of_ble_eq_true rfl) rfl) (by decide) ?_
          exact pi_done rfl (Ext.refl _) rfl
        · -- 7
          intro v931 e932
          have hw7 : Ext w v931 := hw6.trans e932
          refine deps_cons rfl rfl fun x933 y934 h935 e936 f937 => ?_
          obtain rfl := h935
          refine deps_cons rfl rfl fun x938 y939 h940 e941 f942 => ?_
          obtain rfl := h940
          refine deps_cons rfl rfl fun x943 y944 h945 e946 f947 => ?_
          obtain rfl := h945
          refine deps_nil ?_
          have L948 : ln ((Int.gcd y u : Int)) ≤ 4194305 := Nat.le_trans (ln_gcd _ _) (Nat.max_le.2 ⟨Nat.le_trans Ly (by decide), Nat.le_trans Lu (by decide)⟩)
          refine wl_call rfl rfl (vs := [.agg #[.bool k1.s, .slice k1.A k1.n k1.c], .agg #[.bool k3.s, .slice k3.A k3.n k3.c]]) (by kernel_rfl) (by decide) (g_bezout_Gcd hw7.size (((zk1.ext (e447.trans (e863.trans (e866.trans e871)))).updT hb876 u878).ext e932).zi (zk1.le (Nat.le_trans Ly (by decide))) (((zk3.ext (e447.trans (e863.trans (e866.trans e871)))).updT hb876 u878).ext e932).zi (zk3.le (Nat.le_trans Lu (by decide)))) ?_
          rintro _ v949 ⟨xr951, rfl, r951, e950⟩
          refine ret_intro ?_
          have hw8 : Ext w v949 := hw7.trans e950
          obtain ⟨s952, A952, n952, c952, rfl, z952⟩ := r951
          exact pi_done rfl e950 ⟨_, _, _, _, rfl, z952⟩
        · -- 8
          intro v953 e954
          have hw7 : Ext w v953 := hw6.trans e954
          refine deps_cons rfl rfl fun x955 y956 h957 e958 f959 => ?_
          obtain rfl := h957
          refine deps_nil ?_
          refine wl_load rfl rfl (load_agg aggInt (hb877.ext e954) [.bool s868, .slice A868 n868 c868] rfl (Nat.le_of_ble_eq_true rfl) rfl) (by decide) ?_
          exact pi_done rfl (Ext.refl _) rfl
        · -- 9
          intro v960 e961
          have hw7 : Ext w v960 := hw6.trans e961
          refine deps_cons rfl rfl fun x962 y963 h964 e965 f966 => ?_
          obtain rfl := h964
          refine deps_cons rfl rfl fun x967 y968 h969 e970 f971 => ?_
          obtain ⟨s972, A972, n972, c972, rfl, z972⟩ := h969
          have z972 := z972.ext f971
          refine deps_cons rfl rfl fun x973 y974 h975 e976 f977 => ?_
          obtain rfl := h975
          refine deps_nil ?_
          refine wl_call rfl rfl (vs := [.agg #[.bool s972, .slice A972 n972 c972], .agg #[.bool s868, .slice A868 n868 c868]]) (by kernel_rfl) (by decide) (g_zint_Cmp z972.zi (z972.le (Nat.le_trans L880 (by decide))) (((z868.ext e871).updT hb876 u878).ext e961).zi (z868.le (Nat.le_trans (show ln (1) ≤ 1 by decide +kernel) (by decide)))) ?_
          rintro _ v978 ⟨xr980, rfl, r980, e979⟩
          refine ret_intro ?_
          have hw8 : Ext w v978 := hw7.trans e979
          obtain rfl := r980
          exact pi_done rfl e979 rfl
        · -- 10
          intro v981 e982
          have hw7 : Ext w v981 := hw6.trans e982
          refine deps_cons rfl rfl fun x983 y984 h985 e986 f987 => ?_
          obtain rfl := h985
          refine deps_cons rfl rfl fun x988 y989 h990 e991 f992 => ?_
          obtain rfl := h990
          refine deps_nil ?_
          refine wl_cmp rfl rfl rfl false (scmp_ne_f (by rw [hn.1, hn.2, hco]; rfl)) (by decide) ?_
          exact pi_done rfl (Ext.refl _) rfl
        · -- 11
          intro v993 e994
          have hw7 : Ext w v993 := hw6.trans e994
          refine deps_cons rfl rfl fun x995 y996 h997 e998 f999 => ?_
          obtain rfl := h997
          refine deps_cons rfl rfl fun x1000 y1001 h1002 e1003 f1004 => ?_
          obtain rfl := h1002
          refine deps_nil ?_
          refine wl_pure rfl rfl (v := .bool false) (by decide) (by kernel_rfl) ?_
          exact pi_done rfl (Ext.refl _) rfl
        · -- 12
          intro v1005 e1006
          have hw7 : Ext w v1005 := hw6.trans e1006
          refine deps_cons rfl rfl fun x1007 y1008 h1009 e1010 f1011 => ?_
          obtain rfl := h1009
          refine deps_nil ?_
          refine wl_move rfl rfl (by decide) ?_
          exact pi_done rfl (Ext.refl _) rfl
        · -- 13
          intro v1012 e1013
          have hw7 : Ext w v1012 := hw6.trans e1013
          refine deps_cons rfl rfl fun x1014 y1015 h1016 e1017 f1018 => ?_
          obtain rfl := h1016
          refine deps_nil ?_
          refine wl_load rfl rfl (load_agg aggInt (((b_16.ext (e447.trans (e863.trans (e866.trans e871)))).updN u878 (by omega)).ext e1013) [.bool k3.s, .slice k3.A k3.n k3.c] rfl (Nat.le_of_ble_eq_true rfl) rfl) (by decide) ?_
          exact pi_done rfl (Ext.refl _) rfl
        · -- 14
          intro v1019 e1020
          have hw7 : Ext w v1019 := hw6.trans e1020
          refine deps_cons rfl rfl fun x1021 y1022 h1023 e1024 f1025 => ?_
          obtain rfl := h1023
          refine deps_nil ?_
          refine wl_load rfl rfl (load_agg aggInt (((b_3.ext (e447.trans (e863.trans (e866.trans e871)))).updN u878 (by omega)).ext e1020) [.bool sb, .slice Ab nb cb] rfl (Nat.le_of_ble_eq_true rfl) rfl) (by decide) ?_
          exact pi_done rfl (Ext.refl _) rfl
        · -- 15
          intro v1026 e1027
          have hw7 : Ext w v1026 := hw6.trans e1027
          refine deps_cons rfl rfl fun x1028 y1029 h1030 e1031 f1032 => ?_
          obtain rfl := h1030
          refine deps_cons rfl rfl fun x1033 y1034 h1035 e1036 f1037 => ?_
          obtain rfl := h1035
          refine deps_cons rfl rfl fun x1038 y1039 h1040 e1041 f1042 => ?_
          obtain rfl := h1040
          refine deps_nil ?_
          have L1043 : ln ((Int.gcd u m : Int)) ≤ 4194305 := Nat.le_trans (ln_gcd _ _) (Nat.max_le.2 ⟨Nat.le_trans Lu (by decide), Nat.le_trans Lm (by decide)⟩)
          refine wl_call rfl rfl (vs := [.agg #[.bool k3.s, .slice k3.A k3.n k3.c], .agg #[.bool sb, .slice Ab nb cb]]) (by kernel_rfl) (by decide) (g_bezout_Gcd hw7.size (((zk3.ext (e447.trans (e863.trans (e866.trans e871)))).updT hb876 u878).ext e1027).zi (zk3.le (Nat.le_trans Lu (by decide))) (hm.ext hw7) (Nat.le_trans lb (by decide))) ?_
          rintro _ v1044 ⟨xr1046, rfl, r1046, e1045⟩
          refine ret_intro ?_
          have hw8 : Ext w v1044 := hw7.trans e1045
          obtain ⟨s1047, A1047, n1047, c1047, rfl, z1047⟩ := r1046
          exact pi_done rfl e1045 ⟨_, _, _, _, rfl, z1047⟩
        · -- 16
          intro v1048 e1049
          have hw7 : Ext w v1048 := hw6.trans e1049
          refine deps_cons rfl rfl fun x1050 y1051 h1052 e1053 f1054 => ?_
          obtain rfl := h1052
          refine deps_nil ?_
          refine wl_load rfl rfl (load_agg aggInt (hb877.ext e1049) [.bool s868, .slice A868 n868 c868] rfl (Nat.le_of_ble_eq_true rfl) rfl) (by decide) ?_
          exact pi_done rfl (Ext.refl _) rfl
        · -- 17
          intro v1055 e1056
          have hw7 : Ext w v1055 := hw6.trans e1056
          refine deps_cons rfl rfl fun x1057 y1058 h1059 e1060 f1061 => ?_
          obtain rfl := h1059
          refine deps_cons rfl rfl fun x1062 y1063 h1064 e1065 f1066 => ?_
          obtain ⟨s1067, A1067, n1067, c1067, rfl, z1067⟩ := h1064
          have z1067 := z1067.ext f1066
          refine deps_cons rfl rfl fun x1068 y1069 h1070 e1071 f1072 => ?_
          obtain rfl := h1070
          refine deps_nil ?_
          refine wl_call rfl rfl (vs := [.agg #[.bool s1067, .slice A1067 n1067 c1067], .agg #[.bool s868, .slice A868 n868 c868]]) (by kernel_rfl) (by decide) (g_zint_Cmp z1067.zi (z1067.le (Nat.le_trans L882 (by decide))) (((z868.ext e871).updT hb876 u878).ext e1056).zi (z868.le (Nat.le_trans (show ln (1) ≤ 1 by decide +kernel) (by decide)))) ?_
          rintro _ v1073 ⟨xr1075, rfl, r1075, e1074⟩
          refine ret_intro ?_
          have hw8 : Ext w v1073 := hw7.trans e1074
          obtain rfl := r1075
          exact pi_done rfl e1074 rfl
        · -- 18
          intro v1076 e1077
          have hw7 : Ext w v1076 := hw6.trans e1077
          refine deps_cons rfl rfl fun x1078 y1079 h1080 e1081 f1082 => ?_
          obtain rfl := h1080
          refine deps_cons rfl rfl fun x1083 y1084 h1085 e1086 f1087 => ?_
          obtain rfl := h1085
          refine deps_nil ?_
          refine wl_cmp rfl rfl rfl false (scmp_ne_f (by rw [hn.2, hdm]; rfl)) (by decide) ?_
          exact pi_done rfl (Ext.refl _) rfl
        · -- 19
          intro v1088 e1089
          have hw7 : Ext w v1088 := hw6.trans e1089
          refine deps_cons rfl rfl fun x1090 y1091 h1092 e1093 f1094 => ?_
          obtain rfl := h1092
          refine deps_cons rfl rfl fun x1095 y1096 h1097 e1098 f1099 => ?_
          obtain rfl := h1097
          refine deps_nil ?_
          refine wl_pure rfl rfl (v := .bool false) (by decide) (by kernel_rfl) ?_
          exact pi_done rfl (Ext.refl _) rfl
        · -- all
          intro v1100 e1101
          have hw7 : Ext w v1100 := hw6.trans e1101
          refine deps_cons rfl rfl fun x1102 y1103 h1104 e1105 f1106 => ?_
          obtain rfl := h1104
          refine deps_cons rfl rfl fun x1107 y1108 h1109 e1110 f1111 => ?_
          obtain rfl := h1109
          refine deps_cons rfl rfl fun x1112 y1113 h1114 e1115 f1116 => ?_
          obtain rfl := h1114
          refine deps_cons rfl rfl fun x1117 y1118 h1119 e1120 f1121 => ?_
          obtain rfl := h1119
          refine deps_cons rfl rfl fun x1122 y1123 h1124 e1125 f1126 => ?_
          obtain rfl := h1124
          refine deps_cons rfl rfl fun x1127 y1128 h1129 e1130 f1131 => ?_
          obtain rfl := h1129
          refine deps_cons rfl rfl fun x1132 y1133 h1134 e1135 f1136 => ?_
          obtain rfl := h1134
          refine deps_cons rfl rfl fun x1137 y1138 h1139 e1140 f1141 => ?_
          obtain ⟨s1142, A1142, n1142, c1142, rfl, z1142⟩ := h1139
          have z1142 := z1142.ext f1141
          refine deps_cons rfl rfl fun x1143 y1144 h1145 e1146 f1147 => ?_
          obtain rfl := h1145
          refine deps_cons rfl rfl fun x1148 y1149 h1150 e1151 f1152 => ?_
          obtain rfl := h1150
          refine deps_cons rfl rfl fun x1153 y1154 h1155 e1156 f1157 => ?_
          obtain rfl := h1155
          refine deps_cons rfl rfl fun x1158 y1159 h1160 e1161 f1162 => ?_
          obtain rfl := h1160
          refine deps_cons rfl rfl fun x1163 y1164 h1165 e1166 f1167 => ?_
          obtain rfl := h1165
          refine deps_cons rfl rfl fun x1168 y1169 h1170 e1171 f1172 => ?_
          obtain rfl := h1170
          refine deps_cons rfl rfl fun x1173 y1174 h1175 e1176 f1177 => ?_
          obtain rfl := h1175
          refine deps_cons rfl rfl fun x1178 y1179 h1180 e1181 f1182 => ?_
          obtain ⟨s1183, A1183, n1183, c1183, rfl, z1183⟩ := h1180
          have z1183 := z1183.ext f1182
          refine deps_cons rfl rfl fun x1184 y1185 h1186 e1187 f1188 => ?_
          obtain rfl := h1186
          refine deps_cons rfl rfl fun x1189 y1190 h1191 e1192 f1193 => ?_
          obtain rfl := h1191
          refine deps_cons rfl rfl fun x1194 y1195 h1196 e1197 f1198 => ?_
          obtain rfl := h1196
          refine deps_cons rfl rfl fun x1199 y1200 h1201 e1202 f1203 => ?_
          obtain rfl := h1201
          refine deps_nil ?_
          refine wl_nil ?_
          refine eo_np ?_
          refine eo_then ?_
          refine cw_false rfl ?_
          refine cw_skip ?_
          refine eo_then ?_
          refine cw_seq ?_
          -- region 18
          refine cw_region ?_
          refine wl_load rfl rfl (load_agg aggInt (((b_14.ext (e447.trans (e863.trans (e866.trans e871)))).updN u878 (by omega)).ext e1101) [.bool k1.s, .slice k1.A k1.n k1.c] rfl (Nat.le_of_ble_eq_true rfl) rfl) (by decide) ?_
          refine wl_load rfl rfl (load_agg aggInt (((b_16.ext (e447.trans (e863.trans (e866.trans e871)))).updN u878 (by omega)).ext e1101) [.bool k3.s, .slice k3.A k3.n k3.c] rfl (Nat.le_of_ble_eq_true rfl) rfl) (by decide) ?_
          refine wl_pure rfl rfl (v := .agg #[.bool k1.s, .slice k1.A k1.n k1.c, .bool k3.s, .slice k3.A k3.n k3.c]) (by decide) (by kernel_rfl) ?_
          have hb1205 := (((b_4.ext (e447.trans (e863.trans (e866.trans e871)))).updN u878 (by omega)).ext e1101)
          refine wl_stored rfl rfl rfl aggFrac rfl hb1205 (Nat.le_of_ble_eq_true rfl) rfl [.bool k1.s, .slice k1.A k1.n k1.c, .bool k3.s, .slice k3.A k3.n k3.c] rfl fun v1204 hb1206 u1207 hs1208 => ?_
          have hw8 : Ext w v1204 := u1207.ext hw7 ge16
          refine wl_assign rfl rfl (by decide) ?_
          refine wl_nil ?_
          refine eo_then ?_
          refine cw_ret ?_
          refine eo_ret [.agg #[.bool k1.s, .slice k1.A k1.n k1.c, .bool k3.s, .slice k3.A k3.n k3.c], .int .i64 0] rfl ⟨⟨_, rfl, load_agg aggFrac hb1206 [.bool k1.s, .slice k1.A k1.n k1.c, .bool k3.s, .slice k3.A k3.n k3.c] rfl (Nat.le_of_ble_eq_true rfl) rfl⟩, rfl, trivial⟩ ?_
          exact ⟨_, rfl, ⟨_, _, rfl, ⟨_, _, _, _, _, _, _, _, rfl, (((((zk1.ext (e447.trans (e863.trans (e866.trans e871)))).updT hb876 u878).ext e1101).updT hb1205 u1207)).cast (hn.1), (((((zk3.ext (e447.trans (e863.trans (e866.trans e871)))).updT hb876 u878).ext e1101).updT hb1205 u1207)).cast (hn.2)⟩, rfl⟩, hw8⟩
theorem g_frac_Recover {w : World} {sa : Bool} {Aa : Option Addr} {na ca : Nat} {r : Int} {sb : Bool} {Ab : Option Addr} {nb cb : Nat} {m : Int} {b : Nat} (hb : b ≤ w.heap.size)  (hr : Zi w sa Aa na ca r) (la : na ≤ 4194304) (hm : Zi w sb Ab nb cb m) (lb : nb ≤ 4194304) (hm0 : 0 < m) {N D : Int} (h1 : 2 * (N.natAbs * N.natAbs) < m.natAbs) (h2 : 2 * (D.natAbs * D.natAbs) < m.natAbs) (hD0 : 0 < D) (hco : Int.gcd N D = 1) (hc : m ∣ N - D * r) (hdm : Int.gcd D m = 1) :
    Calls Try.prog 25 #[.agg #[.bool sa, .slice Aa na ca], .agg #[.bool sb, .slice Ab nb cb]] w (Gv w (T2 (FR b (N) (D)) (Is (.int .i64 0)))) := (g_frac_RecoverI hr la hm lb hm0 h1 h2 hD0 hco hc hdm).mono (Gv.imp (T2.imp (FR.imp hb) Is.imp))

end Go.Proofs.Ytmaconeeonkdgaa
