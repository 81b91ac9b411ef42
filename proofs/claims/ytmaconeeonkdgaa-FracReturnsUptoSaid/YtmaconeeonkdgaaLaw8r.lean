/- trellislaw08: FracReturns -/
import Derived.Test.YtmaconeeonkdgaaLg8
import Derived.Test.YtmaconeeonkdgaaRe
namespace Go.Proofs.Ytmaconeeonkdgaa
open Go.RowKit

theorem sq_pos {m p : Int} (h : ¬ m ≤ (p * p) + (p * p)) : 0 < m := by
  have : 0 ≤ p * p := by
    rcases Int.le_total 0 p with h | h
    · exact Int.mul_nonneg h h
    · exact Int.mul_nonneg_of_nonpos_of_nonpos h h
  omega
theorem sq_lt {m p : Int} (h : ¬ m ≤ (p * p) + (p * p)) : 2 * (p.natAbs * p.natAbs) < m.natAbs := by
  have h1 := sq_pos h
  have h2 : ((p.natAbs * p.natAbs : Nat) : Int) = p * p := Int.natAbs_mul_self
  omega
theorem Bez.cong {q m u v p : Int} (h : Bez q m u v) (hm : m ≠ 0) (hg : (Int.gcd q m : Int) = 1) : m ∣ p - q * (p * u) := by
  have e := h.eq
  rw [hg] at e
  refine ⟨p * v, ?_⟩
  have : p = p * (q * u + m * v) := by rw [e, Int.mul_one]
  grind

set_option maxHeartbeats 4000000 in
theorem law_FracReturns {w : World} {sa ta : Bool} {Aa Ba : Option Addr} {na ca ma da : Nat} {x y : Int} {sb : Bool} {Ab : Option Addr} {nb cb : Nat} {m : Int} (hx : Zi w sa Aa na ca x) (la : na ≤ 1048576) (hy : Zi w ta Ba ma da y) (lam : ma ≤ 1048576) (hm : Zi w sb Ab nb cb m) (lb : nb ≤ 1048576)  :
    Calls Try.prog 4 #[.agg #[.bool sa, .slice Aa na ca, .bool ta, .slice Ba ma da], .agg #[.bool sb, .slice Ab nb cb]] w (BoolP true w) := by
  have Lx : ln x ≤ 1048576 := Nat.le_trans hx.ln la
  have Ly : ln y ≤ 1048576 := Nat.le_trans hy.ln lam
  have Lm : ln m ≤ 1048576 := Nat.le_trans hm.ln lb
  refine sx_enter Try.func4 rfl (n := 100) rfl (Nat.le_of_ble_eq_true rfl) (args := [.agg #[.bool sa, .slice Aa na ca, .bool ta, .slice Ba ma da], .agg #[.bool sb, .slice Ab nb cb]]) ?_
  refine cw_keep [(0, .agg #[.bool sa, .slice Aa na ca, .bool ta, .slice Ba ma da]), (1, .agg #[.bool sb, .slice Ab nb cb])] ⟨rfl, rfl, trivial⟩ ?_
  refine cw_seq ?_
  -- region 0
  refine cw_region ?_
  refine wl_box rfl rfl (vs := [.bool sa, .slice Aa na ca, .bool ta, .slice Ba ma da]) rfl (by decide) fun g1 v2 nb => ?_
  have hb4 := nb.bk
  have ge5 : w.heap.size ≤ g1 := by rw [← nb.at_]; exact (Ext.refl w).size
  have e3 := nb.ext
  clear nb
  have hw1 : Ext w v2 := (Ext.refl w).trans e3
  refine wl_box rfl rfl (vs := [.bool sb, .slice Ab nb cb]) rfl (by decide) fun g6 v7 nb => ?_
  have hb9 := nb.bk
  have ge10 : w.heap.size ≤ g6 := by rw [← nb.at_]; exact hw1.size
  have q11 : g1 < g6 := by rw [← nb.at_]; exact hb4.lt
  have e8 := nb.ext
  clear nb
  have hw2 : Ext w v7 := hw1.trans e8
  refine wl_assign rfl rfl (by decide) ?_
  refine wl_nil ?_
  refine eo_then ?_
  refine cw_seq ?_
  refine cw_seq ?_
  -- region 1
  refine cw_region ?_
  refine wl_call rfl rfl (vs := []) (by kernel_rfl) (by decide) (g_law8_awake _) ?_
  rintro _ v12 ⟨xr14, rfl, r14, e13⟩
  refine ret_intro ?_
  have hw3 : Ext w v12 := hw2.trans e13
  obtain rfl := r14
  refine wl_pure rfl rfl (v := .bool false) (by decide) (by kernel_rfl) ?_
  refine wl_nil ?_
  refine eo_then ?_
  refine cw_false rfl ?_
  refine cw_skip ?_
  refine eo_then ?_
  refine cw_seq ?_
  refine cw_seq ?_
  by_cases h0 : y = 0
  ·
    -- region 3
    refine cw_region ?_
    refine wl_load rfl rfl (load_agg aggFrac (hb4.ext (e8.trans e13)) [.bool sa, .slice Aa na ca, .bool ta, .slice Ba ma da] rfl (Nat.le_of_ble_eq_true rfl) rfl) (by decide) ?_
    refine wl_call rfl rfl (vs := [.agg #[.bool sa, .slice Aa na ca, .bool ta, .slice Ba ma da]]) (by kernel_rfl) (by decide) (g_law8_is (hy.ext hw3) (Nat.le_trans lam (by decide)) (b := false) (decide_eq_false (fun h => h h0)).symm) ?_
    rintro _ v15 ⟨xr17, rfl, r17, e16⟩
    refine ret_intro ?_
    have hw4 : Ext w v15 := hw3.trans e16
    obtain rfl := r17
    refine wl_pure rfl rfl (v := .bool true) (by decide) (by kernel_rfl) ?_
    refine wl_nil ?_
    refine eo_then ?_
    refine cw_true rfl ?_
    refine cw_seq ?_
    -- region 4
    refine cw_region ?_
    refine wl_pure rfl rfl (v := .pointer (some ⟨g1, 0, none⟩)) (by decide) (by kernel_rfl) ?_
    refine wl_load rfl rfl (load_agg aggInt (hb4.ext (e8.trans (e13.trans e16))) [.bool sa, .slice Aa na ca] rfl (Nat.le_of_ble_eq_true rfl) rfl) (by decide) ?_
    refine wl_pure rfl rfl (v := .pointer (some ⟨g1, 2, none⟩)) (by decide) (by kernel_rfl) ?_
    refine wl_load rfl rfl (load_agg aggInt (hb4.ext (e8.trans (e13.trans e16))) [.bool ta, .slice Ba ma da] rfl (Nat.le_of_ble_eq_true rfl) rfl) (by decide) ?_
    refine wl_call rfl rfl (vs := [.agg #[.bool sa, .slice Aa na ca], .agg #[.bool ta, .slice Ba ma da]]) (by kernel_rfl) (by decide) (g_frac_Of_bad hw4.size (hy.ext hw4) (Nat.le_trans lam (by decide)) h0) ?_
    rintro _ v18 ⟨xr20, rfl, r20, e19⟩
    refine ret_intro ?_
    have hw5 : Ext w v18 := hw4.trans e19
    obtain ⟨a21_0, a21_1, rfl, r21_0, r21_1⟩ := r20
    obtain ⟨s22, A22, n22, c22, t22, B22, m22, d22, rfl, z22, y22⟩ := r21_0
    obtain rfl := r21_1
    refine wl_move rfl rfl (by decide) ?_
    refine wl_pure rfl rfl (v := .agg #[.bool s22, .slice A22 n22 c22, .bool t22, .slice B22 m22 d22]) (by decide) (by kernel_rfl) ?_
    refine wl_pure rfl rfl (v := .int .i64 4) (by decide) (by kernel_rfl) ?_
    refine wl_alloc rfl (z := .agg #[.bool false, .slice none 0 0, .bool false, .slice none 0 0]) (vs := [.bool false, .slice none 0 0, .bool false, .slice none 0 0]) (fun _ => by kernel_rfl) rfl (by decide) fun g23 v24 nb => ?_
    have hb26 := nb.bk
    have ge27 : w.heap.size ≤ g23 := by rw [← nb.at_]; exact hw5.size
    have q28 : g6 < g23 := by rw [← nb.at_]; exact (hb9.ext (e13.trans (e16.trans e19))).lt
    have e25 := nb.ext
    clear nb
    have hw6 : Ext w v24 := hw5.trans e25
    have hb30 := hb26
    refine wl_stored rfl rfl rfl aggFrac rfl hb30 (Nat.le_of_ble_eq_true rfl) rfl [.bool s22, .slice A22 n22 c22, .bool t22, .slice B22 m22 d22] rfl fun v29 hb31 u32 hs33 => ?_
    have hw7 : Ext w v29 := u32.ext hw6 ge27
    refine wl_assign rfl rfl (by decide) ?_
    refine wl_nil ?_
    refine eo_then ?_
    refine cw_seq ?_
    -- region 5
    refine cw_region ?_
    refine wl_move rfl rfl (by decide) ?_
    refine wl_pure rfl rfl (v := .bool true) (by decide) (by kernel_rfl) ?_
    refine wl_assign rfl rfl (by decide) ?_
    refine wl_nil ?_
    refine eo_then ?_
    refine cw_ret ?_
    refine eo_thenR ?_
    refine eo_ret [.bool true] rfl ⟨rfl, trivial⟩ ?_
    exact bool_of _ _ ⟨_, rfl, rfl, hw7⟩
  ·
    -- region 3
    refine cw_region ?_
    refine wl_load rfl rfl (load_agg aggFrac (hb4.ext (e8.trans e13)) [.bool sa, .slice Aa na ca, .bool ta, .slice Ba ma da] rfl (Nat.le_of_ble_eq_true rfl) rfl) (by decide) ?_
    refine wl_call rfl rfl (vs := [.agg #[.bool sa, .slice Aa na ca, .bool ta, .slice Ba ma da]]) (by kernel_rfl) (by decide) (g_law8_is (hy.ext hw3) (Nat.le_trans lam (by decide)) (b := true) (decide_eq_true h0).symm) ?_
    rintro _ v34 ⟨xr36, rfl, r36, e35⟩
    refine ret_intro ?_
    have hw4 : Ext w v34 := hw3.trans e35
    obtain rfl := r36
    refine wl_pure rfl rfl (v := .bool false) (by decide) (by kernel_rfl) ?_
    refine wl_nil ?_
    refine eo_then ?_
    refine cw_false rfl ?_
    refine cw_skip ?_
    refine eo_then ?_
    refine cw_seq ?_
    -- region 6
    refine cw_region ?_
    refine wl_pure rfl rfl (v := .pointer (some ⟨g1, 0, none⟩)) (by decide) (by kernel_rfl) ?_
    refine wl_load rfl rfl (load_agg aggInt (hb4.ext (e8.trans (e13.trans e35))) [.bool sa, .slice Aa na ca] rfl (Nat.le_of_ble_eq_true rfl) rfl) (by decide) ?_
    refine wl_pure rfl rfl (v := .pointer (some ⟨g1, 2, none⟩)) (by decide) (by kernel_rfl) ?_
    refine wl_load rfl rfl (load_agg aggInt (hb4.ext (e8.trans (e13.trans e35))) [.bool ta, .slice Ba ma da] rfl (Nat.le_of_ble_eq_true rfl) rfl) (by decide) ?_
    refine wl_call rfl rfl (vs := [.agg #[.bool sa, .slice Aa na ca], .agg #[.bool ta, .slice Ba ma da]]) (by kernel_rfl) (by decide) (g_frac_Of hw4.size (hx.ext hw4) (Nat.le_trans la (by decide)) (hy.ext hw4) (Nat.le_trans lam (by decide)) h0) ?_
    rintro _ v37 ⟨p40, q41, p42, xr39, rfl, r39, e38⟩
    have L43 : ln (p40) ≤ 1048576 := Nat.le_trans (ln_mono p42.np) Lx
    have L44 : ln (q41) ≤ 1048576 := Nat.le_trans (ln_mono p42.nq) Ly
    refine ret_intro ?_
    have hw5 : Ext w v37 := hw4.trans e38
    obtain ⟨a45_0, a45_1, rfl, r45_0, r45_1⟩ := r39
    obtain ⟨s46, A46, n46, c46, t46, B46, m46, d46, rfl, z46, y46⟩ := r45_0
    obtain rfl := r45_1
    refine wl_move rfl rfl (by decide) ?_
    refine wl_pure rfl rfl (v := .agg #[.bool s46, .slice A46 n46 c46, .bool t46, .slice B46 m46 d46]) (by decide) (by kernel_rfl) ?_
    refine wl_pure rfl rfl (v := .int .i64 0) (by decide) (by kernel_rfl) ?_
    refine wl_alloc rfl (z := .agg #[.bool false, .slice none 0 0, .bool false, .slice none 0 0]) (vs := [.bool false, .slice none 0 0, .bool false, .slice none 0 0]) (fun _ => by kernel_rfl) rfl (by decide) fun g47 v48 nb => ?_
    have hb50 := nb.bk
    have ge51 : w.heap.size ≤ g47 := by rw [← nb.at_]; exact hw5.size
    have q52 : g6 < g47 := by rw [← nb.at_]; exact (hb9.ext (e13.trans (e35.trans e38))).lt
    have e49 := nb.ext
    clear nb
    have hw6 : Ext w v48 := hw5.trans e49
    have hb54 := hb50
    refine wl_stored rfl rfl rfl aggFrac rfl hb54 (Nat.le_of_ble_eq_true rfl) rfl [.bool s46, .slice A46 n46 c46, .bool t46, .slice B46 m46 d46] rfl fun v53 hb55 u56 hs57 => ?_
    have hw7 : Ext w v53 := u56.ext hw6 ge51
    refine wl_assign rfl rfl (by decide) ?_
    refine wl_nil ?_
    refine eo_then ?_
    refine cw_seq ?_
    refine cw_seq ?_
    -- region 7
    refine cw_region ?_
    refine wl_move rfl rfl (by decide) ?_
    refine wl_pure rfl rfl (v := .bool false) (by decide) (by kernel_rfl) ?_
    refine wl_move rfl rfl (by decide) ?_
    refine wl_load rfl rfl (load_agg aggFrac hb55 [.bool s46, .slice A46 n46 c46, .bool t46, .slice B46 m46 d46] rfl (Nat.le_of_ble_eq_true rfl) rfl) (by decide) ?_
    refine wl_pure rfl rfl (v := .pointer (some ⟨g1, 0, none⟩)) (by decide) (by kernel_rfl) ?_
    refine wl_load rfl rfl (load_agg aggInt ((hb4.ext (e8.trans (e13.trans (e35.trans (e38.trans e49))))).updN u56 (by omega)) [.bool sa, .slice Aa na ca] rfl (Nat.le_of_ble_eq_true rfl) rfl) (by decide) ?_
    refine wl_pure rfl rfl (v := .pointer (some ⟨g1, 2, none⟩)) (by decide) (by kernel_rfl) ?_
    refine wl_load rfl rfl (load_agg aggInt ((hb4.ext (e8.trans (e13.trans (e35.trans (e38.trans e49))))).updN u56 (by omega)) [.bool ta, .slice Ba ma da] rfl (Nat.le_of_ble_eq_true rfl) rfl) (by decide) ?_
    refine wl_call rfl rfl (vs := [.agg #[.bool s46, .slice A46 n46 c46, .bool t46, .slice B46 m46 d46], .agg #[.bool sa, .slice Aa na ca], .agg #[.bool ta, .slice Ba ma da]]) (by kernel_rfl) (by decide) (g_law8_names ((z46.ext e49).updT hb54 u56) (z46.le (Nat.le_trans L43 (by decide))) ((y46.ext e49).updT hb54 u56) (y46.le (Nat.le_trans L44 (by decide))) (hx.ext hw7) (Nat.le_trans la (by decide)) (hy.ext hw7) (Nat.le_trans lam (by decide)) p42) ?_
    rintro _ v58 ⟨xr60, rfl, r60, e59⟩
    refine ret_intro ?_
    have hw8 : Ext w v58 := hw7.trans e59
    obtain rfl := r60
    refine wl_pure rfl rfl (v := .bool false) (by decide) (by kernel_rfl) ?_
    refine wl_pure rfl rfl (v := .bool false) (by decide) (by kernel_rfl) ?_
    refine wl_nil ?_
    refine eo_then ?_
    refine cw_false rfl ?_
    refine cw_skip ?_
    refine eo_then ?_
    refine cw_seq ?_
    -- region 9
    refine cw_region ?_
    refine wl_pure rfl rfl (v := .pointer (some ⟨g47, 0, none⟩)) (by decide) (by kernel_rfl) ?_
    refine wl_load rfl rfl (load_agg aggInt (hb55.ext e59) [.bool s46, .slice A46 n46 c46] rfl (Nat.le_of_ble_eq_true rfl) rfl) (by decide) ?_
    refine wl_pure rfl rfl (v := .pointer (some ⟨g47, 0, none⟩)) (by decide) (by kernel_rfl) ?_
    refine wl_load rfl rfl (load_agg aggInt (hb55.ext e59) [.bool s46, .slice A46 n46 c46] rfl (Nat.le_of_ble_eq_true rfl) rfl) (by decide) ?_
    have L61 : ln (p40 * p40) ≤ 2097152 := Nat.le_trans (ln_mul L43 L43) (by decide)
    refine wl_call rfl rfl (vs := [.agg #[.bool s46, .slice A46 n46 c46], .agg #[.bool s46, .slice A46 n46 c46]]) (by kernel_rfl) (by decide) (g_zint_Mul hw8.size (((z46.ext e49).updT hb54 u56).ext e59).zi (z46.le (Nat.le_trans L43 (by decide))) (((z46.ext e49).updT hb54 u56).ext e59).zi (z46.le (Nat.le_trans L43 (by decide)))) ?_
    rintro _ v62 ⟨xr64, rfl, r64, e63⟩
    refine ret_intro ?_
    have hw9 : Ext w v62 := hw8.trans e63
    obtain ⟨s65, A65, n65, c65, rfl, z65⟩ := r64
    refine wl_alloc rfl (z := .agg #[.bool false, .slice none 0 0]) (vs := [.bool false, .slice none 0 0]) (fun _ => by kernel_rfl) rfl (by decide) fun g66 v67 nb => ?_
    have hb69 := nb.bk
    have ge70 : w.heap.size ≤ g66 := by rw [← nb.at_]; exact hw9.size
    have q71 : g47 < g66 := by rw [← nb.at_]; exact (hb55.ext (e59.trans e63)).lt
    have e68 := nb.ext
    clear nb
    have hw10 : Ext w v67 := hw9.trans e68
    have hb73 := hb69
    refine wl_stored rfl rfl rfl aggInt rfl hb73 (Nat.le_of_ble_eq_true rfl) rfl [.bool s65, .slice A65 n65 c65] rfl fun v72 hb74 u75 hs76 => ?_
    have hw11 : Ext w v72 := u75.ext hw10 ge70
    refine wl_nil ?_
    refine eo_then ?_
    refine cw_seq ?_
    -- region 10
    refine cw_region ?_
    refine wl_pure rfl rfl (v := .pointer (some ⟨g47, 2, none⟩)) (by decide) (by kernel_rfl) ?_
    refine wl_load rfl rfl (load_agg aggInt ((hb55.ext (e59.trans (e63.trans e68))).updN u75 (by omega)) [.bool t46, .slice B46 m46 d46] rfl (Nat.le_of_ble_eq_true rfl) rfl) (by decide) ?_
    refine wl_pure rfl rfl (v := .pointer (some ⟨g47, 2, none⟩)) (by decide) (by kernel_rfl) ?_
    refine wl_load rfl rfl (load_agg aggInt ((hb55.ext (e59.trans (e63.trans e68))).updN u75 (by omega)) [.bool t46, .slice B46 m46 d46] rfl (Nat.le_of_ble_eq_true rfl) rfl) (by decide) ?_
    have L77 : ln (q41 * q41) ≤ 2097152 := Nat.le_trans (ln_mul L44 L44) (by decide)
    refine wl_call rfl rfl (vs := [.agg #[.bool t46, .slice B46 m46 d46], .agg #[.bool t46, .slice B46 m46 d46]]) (by kernel_rfl) (by decide) (g_zint_Mul hw11.size ((((y46.ext e49).updT hb54 u56).ext (e59.trans (e63.trans e68))).updT hb73 u75).zi (y46.le (Nat.le_trans L44 (by decide))) ((((y46.ext e49).updT hb54 u56).ext (e59.trans (e63.trans e68))).updT hb73 u75).zi (y46.le (Nat.le_trans L44 (by decide)))) ?_
    rintro _ v78 ⟨xr80, rfl, r80, e79⟩
    refine ret_intro ?_
    have hw12 : Ext w v78 := hw11.trans e79
    obtain ⟨s81, A81, n81, c81, rfl, z81⟩ := r80
    refine wl_alloc rfl (z := .agg #[.bool false, .slice none 0 0]) (vs := [.bool false, .slice none 0 0]) (fun _ => by kernel_rfl) rfl (by decide) fun g82 v83 nb => ?_
    have hb85 := nb.bk
    have ge86 : w.heap.size ≤ g82 := by rw [← nb.at_]; exact hw12.size
    have q87 : g66 < g82 := by rw [← nb.at_]; exact (hb74.ext e79).lt
    have e84 := nb.ext
    clear nb
    have hw13 : Ext w v83 := hw12.trans e84
    have hb89 := hb85
    refine wl_stored rfl rfl rfl aggInt rfl hb89 (Nat.le_of_ble_eq_true rfl) rfl [.bool s81, .slice A81 n81 c81] rfl fun v88 hb90 u91 hs92 => ?_
    have hw14 : Ext w v88 := u91.ext hw13 ge86
    refine wl_nil ?_
    refine eo_then ?_
    refine cw_seq ?_
    by_cases hmz : m = 0
    ·
      have hmn : ¬ 0 < m := by omega
      -- region 11
      refine cw_region ?_
      refine wl_pure rfl rfl (v := .pointer (some ⟨g47, 2, none⟩)) (by decide) (by kernel_rfl) ?_
      refine wl_load rfl rfl (load_agg aggInt ((((hb55.ext (e59.trans (e63.trans e68))).updN u75 (by omega)).ext (e79.trans e84)).updN u91 (by omega)) [.bool t46, .slice B46 m46 d46] rfl (Nat.le_of_ble_eq_true rfl) rfl) (by decide) ?_
      refine wl_load rfl rfl (load_agg aggInt ((((((hb9.ext (e13.trans (e35.trans (e38.trans e49)))).updN u56 (by omega)).ext (e59.trans (e63.trans e68))).updN u75 (by omega)).ext (e79.trans e84)).updN u91 (by omega)) [.bool sb, .slice Ab nb cb] rfl (Nat.le_of_ble_eq_true rfl) rfl) (by decide) ?_
      refine wl_call rfl rfl (vs := [.agg #[.bool t46, .slice B46 m46 d46], .agg #[.bool sb, .slice Ab nb cb]]) (by kernel_rfl) (by decide) (g_bezout_Inverse_zero hw14.size ((((((y46.ext e49).updT hb54 u56).ext (e59.trans (e63.trans e68))).updT hb73 u75).ext (e79.trans e84)).updT hb89 u91).zi (y46.le (Nat.le_trans L44 (by decide))) (hm.ext hw14) (Nat.le_trans lb (by decide)) hmz) ?_
      rintro _ v93 ⟨xr95, rfl, r95, e94⟩
      refine ret_intro ?_
      have hw15 : Ext w v93 := hw14.trans e94
      obtain ⟨a96_0, a96_1, rfl, r96_0, r96_1⟩ := r95
      obtain ⟨s97, A97, n97, c97, rfl, z97⟩ := r96_0
      obtain rfl := r96_1
      refine wl_move rfl rfl (by decide) ?_
      refine wl_pure rfl rfl (v := .agg #[.bool s97, .slice A97 n97 c97]) (by decide) (by kernel_rfl) ?_
      refine wl_pure rfl rfl (v := .int .i64 4) (by decide) (by kernel_rfl) ?_
      refine wl_alloc rfl (z := .agg #[.bool false, .slice none 0 0]) (vs := [.bool false, .slice none 0 0]) (fun _ => by kernel_rfl) rfl (by decide) fun g98 v99 nb => ?_
      have hb101 := nb.bk
      have ge102 : w.heap.size ≤ g98 := by rw [← nb.at_]; exact hw15.size
      have q103 : g82 < g98 := by rw [← nb.at_]; exact (hb90.ext e94).lt
      have e100 := nb.ext
      clear nb
      have hw16 : Ext w v99 := hw15.trans e100
      have hb105 := hb101
      refine wl_stored rfl rfl rfl aggInt rfl hb105 (Nat.le_of_ble_eq_true rfl) rfl [.bool s97, .slice A97 n97 c97] rfl fun v104 hb106 u107 hs108 => ?_
      have hw17 : Ext w v104 := u107.ext hw16 ge102
      refine wl_assign rfl rfl (by decide) ?_
      refine wl_nil ?_
      refine eo_then ?_
      refine cw_seq ?_
      refine cw_seq ?_
      by_cases hs1 : m ≤ (p40 * p40) + (p40 * p40)
      ·
        -- region 12, in whatever order
        have L109 : ln ((p40 * p40) + (p40 * p40)) ≤ 2097153 := Nat.le_trans (ln_add L61 L61) (by decide)
        refine cw_draw mix 18 [] [Is (.agg #[.bool sb, .slice Ab nb cb]), Is (.agg #[.bool s65, .slice A65 n65 c65]), Is (.agg #[.bool s65, .slice A65 n65 c65]), ZR w.heap.size ((p40 * p40) + (p40 * p40)), Is (.int .i64 (scmp m ((p40 * p40) + (p40 * p40)))), Is (.bool true), Is (.bool true), Is (undef), Is (undef), Is (undef), Is (undef), Is (undef), Is (undef), Is (.bool true), Is (.bool true), Is (undef), Is (undef), Is (.bool true)] [[], [], [], [1, 2], [0, 3], [4], [5], [6], [6], [6], [6, 8, 9], [6, 7, 10], [6, 11], [6, 12], [13], [14], [14, 15], [14, 16]] [[], [], [], [1, 2], [0, 1, 2, 3], [0, 1, 2, 3, 4], [0, 1, 2, 3, 4, 5], [0, 1, 2, 3, 4, 5, 6], [0, 1, 2, 3, 4, 5, 6], [0, 1, 2, 3, 4, 5, 6], [0, 1, 2, 3, 4, 5, 6, 8, 9], [0, 1, 2, 3, 4, 5, 6, 7, 8, 9, 10], [0, 1, 2, 3, 4, 5, 6, 7, 8, 9, 10, 11], [0, 1, 2, 3, 4, 5, 6, 7, 8, 9, 10, 11, 12], [0, 1, 2, 3, 4, 5, 6, 7, 8, 9, 10, 11, 12, 13], [0, 1, 2, 3, 4, 5, 6, 7, 8, 9, 10, 11, 12, 13, 14], [0, 1, 2, 3, 4, 5, 6, 7, 8, 9, 10, 11, 12, 13, 14, 15], [0, 1, 2, 3, 4, 5, 6, 7, 8, 9, 10, 11, 12, 13, 14, 15, 16]] rfl
          (obs_cons rfl rfl (hob rfl rfl ?_) (obs_cons rfl rfl (hob rfl rfl ?_) (obs_cons rfl rfl (hob rfl rfl ?_) (obs_cons rfl rfl (hob rfl rfl ?_) (obs_cons rfl rfl (hob rfl rfl ?_) (obs_cons rfl rfl (hob rfl rfl ?_) (obs_cons rfl rfl (hob rfl rfl ?_) (obs_cons rfl rfl (hob rfl rfl ?_) (obs_cons rfl rfl (hob rfl rfl ?_) (obs_cons rfl rfl (hob rfl rfl ?_) (obs_cons rfl rfl (hob rfl rfl ?_) (obs_cons rfl rfl (hob rfl rfl ?_) (obs_cons rfl rfl (hob rfl rfl ?_) (obs_cons rfl rfl (hob rfl rfl ?_) (obs_cons rfl rfl (hob rfl rfl ?_) (obs_cons rfl rfl (hob rfl rfl ?_) (obs_cons rfl rfl (hob rfl rfl ?_) (obs_cons rfl rfl (hob rfl rfl ?_) obs_nil)))))))))))))))))) ?_
        · -- 0
          intro v111 e112
          have hw18 : Ext w v111 := hw17.trans e112
          refine deps_nil ?_
          refine wl_load rfl rfl (load_agg aggInt (((((((((hb9.ext (e13.trans (e35.trans (e38.trans e49)))).updN u56 (by omega)).ext (e59.trans (e63.trans e68))).updN u75 (by omega)).ext (e79.trans e84)).updN u91 (by omega)).ext (e94.trans e100)).updN u107 (by omega)).ext e112) [.bool sb, .slice Ab nb cb] rfl (Nat.le_of_ble_eq_true rfl) rfl) (by decide) ?_
          exact pi_done rfl (Ext.refl _) rfl
        · -- 1
          intro v113 e114
          have hw18 : Ext w v113 := hw17.trans e114
          refine deps_nil ?_
          refine wl_load rfl rfl (load_agg aggInt (((((hb74.ext (e79.trans e84)).updN u91 (by omega)).ext (e94.trans e100)).updN u107 (by omega)).ext e114) [.bool s65, .slice A65 n65 c65] rfl (Nat.le_of_ble_eq_true rfl) rfl) (by decide) ?_
          exact pi_done rfl (Ext.refl _) rfl
        · -- 2
          intro v115 e116
          have hw18 : Ext w v115 := hw17.trans e116
          refine deps_nil ?_
          refine wl_load rfl rfl (load_agg aggInt (((((hb74.ext (e79.trans e84)).updN u91 (by omega)).ext (e94.trans e100)).updN u107 (by omega)).ext e116) [.bool s65, .slice A65 n65 c65] rfl (Nat.le_of_ble_eq_true rfl) rfl) (by decide) ?_
          exact pi_done rfl (Ext.refl _) rfl
        · -- 3
          intro v117 e118
          have hw18 : Ext w v117 := hw17.trans e118
          refine deps_cons rfl rfl fun x119 y120 h121 e122 f123 => ?_
          obtain rfl := h121
          refine deps_cons rfl rfl fun x124 y125 h126 e127 f128 => ?_
          obtain rfl := h126
          refine deps_nil ?_
          have L129 : ln ((p40 * p40) + (p40 * p40)) ≤ 2097153 := Nat.le_trans (ln_add L61 L61) (by decide)
          refine wl_call rfl rfl (vs := [.agg #[.bool s65, .slice A65 n65 c65], .agg #[.bool s65, .slice A65 n65 c65]]) (by kernel_rfl) (by decide) (g_zint_Add hw18.size (((((((z65.ext e68).updT hb73 u75).ext (e79.trans e84)).updT hb89 u91).ext (e94.trans e100)).updT hb105 u107).ext e118).zi (z65.le (Nat.le_trans L61 (by decide))) (((((((z65.ext e68).updT hb73 u75).ext (e79.trans e84)).updT hb89 u91).ext (e94.trans e100)).updT hb105 u107).ext e118).zi (z65.le (Nat.le_trans L61 (by decide)))) ?_
          rintro _ v130 ⟨xr132, rfl, r132, e131⟩
          refine ret_intro ?_
          have hw19 : Ext w v130 := hw18.trans e131
          obtain ⟨s133, A133, n133, c133, rfl, z133⟩ := r132
          exact pi_done rfl e131 ⟨_, _, _, _, rfl, z133⟩
        · -- 4
          intro v134 e135
          have hw18 : Ext w v134 := hw17.trans e135
          refine deps_cons rfl rfl fun x136 y137 h138 e139 f140 => ?_
          obtain rfl := h138
          refine deps_cons rfl rfl fun x141 y142 h143 e144 f145 => ?_
          obtain ⟨s146, A146, n146, c146, rfl, z146⟩ := h143
          have z146 := z146.ext f145
          refine deps_nil ?_
          refine wl_call rfl rfl (vs := [.agg #[.bool sb, .slice Ab nb cb], .agg #[.bool s146, .slice A146 n146 c146]]) (by kernel_rfl) (by decide) (g_zint_Cmp (hm.ext hw18) (Nat.le_trans lb (by decide)) z146.zi (z146.le (Nat.le_trans L109 (by decide)))) ?_
          rintro _ v147 ⟨xr149, rfl, r149, e148⟩
          refine ret_intro ?_
          have hw19 : Ext w v147 := hw18.trans e148
          obtain rfl := r149
          exact pi_done rfl e148 rfl
        · -- 5
          intro v150 e151
          have hw18 : Ext w v150 := hw17.trans e151
          refine deps_cons rfl rfl fun x152 y153 h154 e155 f156 => ?_
          obtain rfl := h154
          refine deps_nil ?_
          refine wl_cmp rfl rfl rfl true (scmp_le_t hs1) (by decide) ?_
          exact pi_done rfl (Ext.refl _) rfl
        · -- 6
          intro v157 e158
          have hw18 : Ext w v157 := hw17.trans e158
          refine deps_cons rfl rfl fun x159 y160 h161 e162 f163 => ?_
          obtain rfl := h161
          refine deps_nil ?_
          refine wl_move rfl rfl (by decide) ?_
          exact pi_done rfl (Ext.refl _) rfl
        · -- 7
          intro v164 e165
          have hw18 : Ext w v164 := hw17.trans e165
          refine deps_cons rfl rfl fun x166 y167 h168 e169 f170 => ?_
          obtain rfl := h168
          refine deps_nil ?_
          refine wl_off rfl (by decide) ?_
          exact pi_done rfl (Ext.refl _) rfl
        · -- 8
          intro v171 e172
          have hw18 : Ext w v171 := hw17.trans e172
          refine deps_cons rfl rfl fun x173 y174 h175 e176 f177 => ?_
          obtain rfl := h175
          refine deps_nil ?_
          refine wl_off rfl (by decide) ?_
          exact pi_done rfl (Ext.refl _) rfl
        · -- 9
          intro v178 e179
          have hw18 : Ext w v178 := hw17.trans e179
          refine deps_cons rfl rfl fun x180 y181 h182 e183 f184 => ?_
          obtain rfl := h182
          refine deps_nil ?_
          refine wl_off rfl (by decide) ?_
          exact pi_done rfl (Ext.refl _) rfl
        · -- 10
          intro v185 e186
          have hw18 : Ext w v185 := hw17.trans e186
          refine deps_cons rfl rfl fun x187 y188 h189 e190 f191 => ?_
          obtain rfl := h189
          refine deps_cons rfl rfl fun x192 y193 h194 e195 f196 => ?_
          obtain rfl := h194
          refine deps_cons rfl rfl fun x197 y198 h199 e200 f201 => ?_
          obtain rfl := h199
          refine deps_nil ?_
          refine wl_off rfl (by decide) ?_
          exact pi_done rfl (Ext.refl _) rfl
        · -- 11
          intro v202 e203
          have hw18 : Ext w v202 := hw17.trans e203
          refine deps_cons rfl rfl fun x204 y205 h206 e207 f208 => ?_
          obtain rfl := h206
          refine deps_cons rfl rfl fun x209 y210 h211 e212 f213 => ?_
          obtain rfl := h211
          refine deps_cons rfl rfl fun x214 y215 h216 e217 f218 => ?_
          obtain rfl := h216
          refine deps_nil ?_
          refine wl_off rfl (by decide) ?_
          exact pi_done rfl (Ext.refl _) rfl
        · -- 12
          intro v219 e220
          have hw18 : Ext w v219 := hw17.trans e220
          refine deps_cons rfl rfl fun x221 y222 h223 e224 f225 => ?_
          obtain rfl := h223
          refine deps_cons rfl rfl fun x226 y227 h228 e229 f230 => ?_
          obtain rfl := h228
          refine deps_nil ?_
          refine wl_off rfl (by decide) ?_
          exact pi_done rfl (Ext.refl _) rfl
        · -- 13
          intro v231 e232
          have hw18 : Ext w v231 := hw17.trans e232
          refine deps_cons rfl rfl fun x233 y234 h235 e236 f237 => ?_
          obtain rfl := h235
          refine deps_cons rfl rfl fun x238 y239 h240 e241 f242 => ?_
          obtain rfl := h240
          refine deps_nil ?_
          refine wl_pure rfl rfl (v := .bool true) (by decide) (by kernel_rfl) ?_
          exact pi_done rfl (Ext.refl _) rfl
        · -- 14
          intro v243 e244
          have hw18 : Ext w v243 := hw17.trans e244
          refine deps_cons rfl rfl fun x245 y246 h247 e248 f249 => ?_
          obtain rfl := h247
          refine deps_nil ?_
          refine wl_move rfl rfl (by decide) ?_
          exact pi_done rfl (Ext.refl _) rfl
        · -- 15
          intro v250 e251
          have hw18 : Ext w v250 := hw17.trans e251
          refine deps_cons rfl rfl fun x252 y253 h254 e255 f256 => ?_
          obtain rfl := h254
          refine deps_nil ?_
          refine wl_off rfl (by decide) ?_
          exact pi_done rfl (Ext.refl _) rfl
        · -- 16
          intro v257 e258
          have hw18 : Ext w v257 := hw17.trans e258
          refine deps_cons rfl rfl fun x259 y260 h261 e262 f263 => ?_
          obtain rfl := h261
          refine deps_cons rfl rfl fun x264 y265 h266 e267 f268 => ?_
          obtain rfl := h266
          refine deps_nil ?_
          refine wl_off rfl (by decide) ?_
          exact pi_done rfl (Ext.refl _) rfl
        · -- 17
          intro v269 e270
          have hw18 : Ext w v269 := hw17.trans e270
          refine deps_cons rfl rfl fun x271 y272 h273 e274 f275 => ?_
          obtain rfl := h273
          refine deps_cons rfl rfl fun x276 y277 h278 e279 f280 => ?_
          obtain rfl := h278
          refine deps_nil ?_
          refine wl_pure rfl rfl (v := .bool true) (by decide) (by kernel_rfl) ?_
          exact pi_done rfl (Ext.refl _) rfl
        · -- all
          intro v281 e282
          have hw18 : Ext w v281 := hw17.trans e282
          refine deps_cons rfl rfl fun x283 y284 h285 e286 f287 => ?_
          obtain rfl := h285
          refine deps_cons rfl rfl fun x288 y289 h290 e291 f292 => ?_
          obtain rfl := h290
          refine deps_cons rfl rfl fun x293 y294 h295 e296 f297 => ?_
          obtain rfl := h295
          refine deps_cons rfl rfl fun x298 y299 h300 e301 f302 => ?_
          obtain ⟨s303, A303, n303, c303, rfl, z303⟩ := h300
          have z303 := z303.ext f302
          refine deps_cons rfl rfl fun x304 y305 h306 e307 f308 => ?_
          obtain rfl := h306
          refine deps_cons rfl rfl fun x309 y310 h311 e312 f313 => ?_
          obtain rfl := h311
          refine deps_cons rfl rfl fun x314 y315 h316 e317 f318 => ?_
          obtain rfl := h316
          refine deps_cons rfl rfl fun x319 y320 h321 e322 f323 => ?_
          obtain rfl := h321
          refine deps_cons rfl rfl fun x324 y325 h326 e327 f328 => ?_
          obtain rfl := h326
          refine deps_cons rfl rfl fun x329 y330 h331 e332 f333 => ?_
          obtain rfl := h331
          refine deps_cons rfl rfl fun x334 y335 h336 e337 f338 => ?_
          obtain rfl := h336
          refine deps_cons rfl rfl fun x339 y340 h341 e342 f343 => ?_
          obtain rfl := h341
          refine deps_cons rfl rfl fun x344 y345 h346 e347 f348 => ?_
          obtain rfl := h346
          refine deps_cons rfl rfl fun x349 y350 h351 e352 f353 => ?_
          obtain rfl := h351
          refine deps_cons rfl rfl fun x354 y355 h356 e357 f358 => ?_
          obtain rfl := h356
          refine deps_cons rfl rfl fun x359 y360 h361 e362 f363 => ?_
          obtain rfl := h361
          refine deps_cons rfl rfl fun x364 y365 h366 e367 f368 => ?_
          obtain rfl := h366
          refine deps_cons rfl rfl fun x369 y370 h371 e372 f373 => ?_
          obtain rfl := h371
          refine deps_nil ?_
          refine wl_nil ?_
          refine eo_np ?_
          refine eo_then ?_
          refine cw_true rfl ?_
          refine cw_seq ?_
          -- region 13
          refine cw_region ?_
          refine wl_assign rfl rfl (by decide) ?_
          refine wl_nil ?_
          refine eo_then ?_
          refine cw_ret ?_
          refine eo_thenR ?_
          refine eo_ret [.bool true] rfl ⟨rfl, trivial⟩ ?_
          exact bool_of _ _ ⟨_, rfl, rfl, hw18⟩
      ·
        by_cases hs2 : m ≤ (q41 * q41) + (q41 * q41)
        ·
          -- region 12, in whatever order
          have L374 : ln ((p40 * p40) + (p40 * p40)) ≤ 2097153 := Nat.le_trans (ln_add L61 L61) (by decide)
          have L376 : ln ((q41 * q41) + (q41 * q41)) ≤ 2097153 := Nat.le_trans (ln_add L77 L77) (by decide)
          refine cw_draw mix 18 [] [Is (.agg #[.bool sb, .slice Ab nb cb]), Is (.agg #[.bool s65, .slice A65 n65 c65]), Is (.agg #[.bool s65, .slice A65 n65 c65]), ZR w.heap.size ((p40 * p40) + (p40 * p40)), Is (.int .i64 (scmp m ((p40 * p40) + (p40 * p40)))), Is (.bool false), Is (.bool false), Is (.agg #[.bool sb, .slice Ab nb cb]), Is (.agg #[.bool s81, .slice A81 n81 c81]), Is (.agg #[.bool s81, .slice A81 n81 c81]), ZR w.heap.size ((q41 * q41) + (q41 * q41)), Is (.int .i64 (scmp m ((q41 * q41) + (q41 * q41)))), Is (.bool true), Is (.bool true), Is (.bool true), Is (undef), Is (undef), Is (.bool true)] [[], [], [], [1, 2], [0, 3], [4], [5], [6], [6], [6], [6, 8, 9], [6, 7, 10], [6, 11], [6, 12], [13], [14], [14, 15], [14, 16]] [[], [], [], [1, 2], [0, 1, 2, 3], [0, 1, 2, 3, 4], [0, 1, 2, 3, 4, 5], [0, 1, 2, 3, 4, 5, 6], [0, 1, 2, 3, 4, 5, 6], [0, 1, 2, 3, 4, 5, 6], [0, 1, 2, 3, 4, 5, 6, 8, 9], [0, 1, 2, 3, 4, 5, 6, 7, 8, 9, 10], [0, 1, 2, 3, 4, 5, 6, 7, 8, 9, 10, 11], [0, 1, 2, 3, 4, 5, 6, 7, 8, 9, 10, 11, 12], [0, 1, 2, 3, 4, 5, 6, 7, 8, 9, 10, 11, 12, 13], [0, 1, 2, 3, 4, 5, 6, 7, 8, 9, 10, 11, 12, 13, 14], [0, 1, 2, 3, 4, 5, 6, 7, 8, 9, 10, 11, 12, 13, 14, 15], [0, 1, 2, 3, 4, 5, 6, 7, 8, 9, 10, 11, 12, 13, 14, 15, 16]] rfl
            (obs_cons rfl rfl (hob rfl rfl ?_) (obs_cons rfl rfl (hob rfl rfl ?_) (obs_cons rfl rfl (hob rfl rfl ?_) (obs_cons rfl rfl (hob rfl rfl ?_) (obs_cons rfl rfl (hob rfl rfl ?_) (obs_cons rfl rfl (hob rfl rfl ?_) (obs_cons rfl rfl (hob rfl rfl ?_) (obs_cons rfl rfl (hob rfl rfl ?_) (obs_cons rfl rfl (hob rfl rfl ?_) (obs_cons rfl rfl (hob rfl rfl ?_) (obs_cons rfl rfl (hob rfl rfl ?_) (obs_cons rfl rfl (hob rfl rfl ?_) (obs_cons rfl rfl (hob rfl rfl ?_) (obs_cons rfl rfl (hob rfl rfl ?_) (obs_cons rfl rfl (hob rfl rfl ?_) (obs_cons rfl rfl (hob rfl rfl ?_) (obs_cons rfl rfl (hob rfl rfl ?_) (obs_cons rfl rfl (hob rfl rfl ?_) obs_nil)))))))))))))))))) ?_
          · -- 0
            intro v378 e379
            have hw18 : Ext w v378 := hw17.trans e379
            refine deps_nil ?_
            refine wl_load rfl rfl (load_agg aggInt (((((((((hb9.ext (e13.trans (e35.trans (e38.trans e49)))).updN u56 (by omega)).ext (e59.trans (e63.trans e68))).updN u75 (by omega)).ext (e79.trans e84)).updN u91 (by omega)).ext (e94.trans e100)).updN u107 (by omega)).ext e379) [.bool sb, .slice Ab nb cb] rfl (Nat.le_of_ble_eq_true rfl) rfl) (by decide) ?_
            exact pi_done rfl (Ext.refl _) rfl
          · -- 1
            intro v380 e381
            have hw18 : Ext w v380 := hw17.trans e381
            refine deps_nil ?_
            refine wl_load rfl rfl (load_agg aggInt (((((hb74.ext (e79.trans e84)).updN u91 (by omega)).ext (e94.trans e100)).updN u107 (by omega)).ext e381) [.bool s65, .slice A65 n65 c65] rfl (Nat.le_of_ble_eq_true rfl) rfl) (by decide) ?_
            exact pi_done rfl (Ext.refl _) rfl
          · -- 2
            intro v382 e383
            have hw18 : Ext w v382 := hw17.trans e383
            refine deps_nil ?_
            refine wl_load rfl rfl (load_agg aggInt (((((hb74.ext (e79.trans e84)).updN u91 (by omega)).ext (e94.trans e100)).updN u107 (by omega)).ext e383) [.bool s65, .slice A65 n65 c65] rfl (Nat.le_of_ble_eq_true rfl) rfl) (by decide) ?_
            exact pi_done rfl (Ext.refl _) rfl
          · -- 3
            intro v384 e385
            have hw18 : Ext w v384 := hw17.trans e385
            refine deps_cons rfl rfl fun x386 y387 h388 e389 f390 => ?_
            obtain rfl := h388
            refine deps_cons rfl rfl fun x391 y392 h393 e394 f395 => ?_
            obtain rfl := h393
            refine deps_nil ?_
            have L396 : ln ((p40 * p40) + (p40 * p40)) ≤ 2097153 := Nat.le_trans (ln_add L61 L61) (by decide)
            refine wl_call rfl rfl (vs := [.agg #[.bool s65, .slice A65 n65 c65], .agg #[.bool s65, .slice A65 n65 c65]]) (by kernel_rfl) (by decide) (g_zint_Add hw18.size (((((((z65.ext e68).updT hb73 u75).ext (e79.trans e84)).updT hb89 u91).ext (e94.trans e100)).updT hb105 u107).ext e385).zi (z65.le (Nat.le_trans L61 (by decide))) (((((((z65.ext e68).updT hb73 u75).ext (e79.trans e84)).updT hb89 u91).ext (e94.trans e100)).updT hb105 u107).ext e385).zi (z65.le (Nat.le_trans L61 (by decide)))) ?_
            rintro _ v397 ⟨xr399, rfl, r399, e398⟩
            refine ret_intro ?_
            have hw19 : Ext w v397 := hw18.trans e398
            obtain ⟨s400, A400, n400, c400, rfl, z400⟩ := r399
            exact pi_done rfl e398 ⟨_, _, _, _, rfl, z400⟩
          · -- 4
            intro v401 e402
            have hw18 : Ext w v401 := hw17.trans e402
            refine deps_cons rfl rfl fun x403 y404 h405 e406 f407 => ?_
            obtain rfl := h405
            refine deps_cons rfl rfl fun x408 y409 h410 e411 f412 => ?_
            obtain ⟨s413, A413, n413, c413, rfl, z413⟩ := h410
            have z413 := z413.ext f412
            refine deps_nil ?_
            refine wl_call rfl rfl (vs := [.agg #[.bool sb, .slice Ab nb cb], .agg #[.bool s413, .slice A413 n413 c413]]) (by kernel_rfl) (by decide) (g_zint_Cmp (hm.ext hw18) (Nat.le_trans lb (by decide)) z413.zi (z413.le (Nat.le_trans L374 (by decide)))) ?_
            rintro _ v414 ⟨xr416, rfl, r416, e415⟩
            refine ret_intro ?_
            have hw19 : Ext w v414 := hw18.trans e415
            obtain rfl := r416
            exact pi_done rfl e415 rfl
          · -- 5
            intro v417 e418
            have hw18 : Ext w v417 := hw17.trans e418
            refine deps_cons rfl rfl fun x419 y420 h421 e422 f423 => ?_
            obtain rfl := h421
            refine deps_nil ?_
            refine wl_cmp rfl rfl rfl false (scmp_le_f (by omega)) (by decide) ?_
            exact pi_done rfl (Ext.refl _) rfl
          · -- 6
            intro v424 e425
            have hw18 : Ext w v424 := hw17.trans e425
            refine deps_cons rfl rfl fun x426 y427 h428 e429 f430 => ?_
            obtain rfl := h428
            refine deps_nil ?_
            refine wl_move rfl rfl (by decide) ?_
            exact pi_done rfl (Ext.refl _) rfl
          · -- 7
            intro v431 e432
            have hw18 : Ext w v431 := hw17.trans e432
            refine deps_cons rfl rfl fun x433 y434 h435 e436 f437 => ?_
            obtain rfl := h435
            refine deps_nil ?_
            refine wl_load rfl rfl (load_agg aggInt (((((((((hb9.ext (e13.trans (e35.trans (e38.trans e49)))).updN u56 (by omega)).ext (e59.trans (e63.trans e68))).updN u75 (by omega)).ext (e79.trans e84)).updN u91 (by omega)).ext (e94.trans e100)).updN u107 (by omega)).ext e432) [.bool sb, .slice Ab nb cb] rfl (Nat.le_of_ble_eq_true rfl) rfl) (by decide) ?_
            exact pi_done rfl (Ext.refl _) rfl
          · -- 8
            intro v438 e439
            have hw18 : Ext w v438 := hw17.trans e439
            refine deps_cons rfl rfl fun x440 y441 h442 e443 f444 => ?_
            obtain rfl := h442
            refine deps_nil ?_
            refine wl_load rfl rfl (load_agg aggInt (((hb90.ext (e94.trans e100)).updN u107 (by omega)).ext e439) [.bool s81, .slice A81 n81 c81] rfl (Nat.le_of_ble_eq_true rfl) rfl) (by decide) ?_
            exact pi_done rfl (Ext.refl _) rfl
          · -- 9
            intro v445 e446
            have hw18 : Ext w v445 := hw17.trans e446
            refine deps_cons rfl rfl fun x447 y448 h449 e450 f451 => ?_
            obtain rfl := h449
            refine deps_nil ?_
            refine wl_load rfl rfl (load_agg aggInt (((hb90.ext (e94.trans e100)).updN u107 (by omega)).ext e446) [.bool s81, .slice A81 n81 c81] rfl (Nat.le_of_ble_eq_true rfl) rfl) (by decide) ?_
            exact pi_done rfl (Ext.refl _) rfl
          · -- 10
            intro v452 e453
            have hw18 : Ext w v452 := hw17.trans e453
            refine deps_cons rfl rfl fun x454 y455 h456 e457 f458 => ?_
            obtain rfl := h456
            refine deps_cons rfl rfl fun x459 y460 h461 e462 f463 => ?_
            obtain rfl := h461
            refine deps_cons rfl rfl fun x464 y465 h466 e467 f468 => ?_
            obtain rfl := h466
            refine deps_nil ?_
            have L469 : ln ((q41 * q41) + (q41 * q41)) ≤ 2097153 := Nat.le_trans (ln_add L77 L77) (by decide)
            refine wl_call rfl rfl (vs := [.agg #[.bool s81, .slice A81 n81 c81], .agg #[.bool s81, .slice A81 n81 c81]]) (by kernel_rfl) (by decide) (g_zint_Add hw18.size (((((z81.ext e84).updT hb89 u91).ext (e94.trans e100)).updT hb105 u107).ext e453).zi (z81.le (Nat.le_trans L77 (by decide))) (((((z81.ext e84).updT hb89 u91).ext (e94.trans e100)).updT hb105 u107).ext e453).zi (z81.le (Nat.le_trans L77 (by decide)))) ?_
            rintro _ v470 ⟨xr472, rfl, r472, e471⟩
            refine ret_intro ?_
            have hw19 : Ext w v470 := hw18.trans e471
            obtain ⟨s473, A473, n473, c473, rfl, z473⟩ := r472
            exact pi_done rfl e471 ⟨_, _, _, _, rfl, z473⟩
          · -- 11
            intro v474 e475
            have hw18 : Ext w v474 := hw17.trans e475
            refine deps_cons rfl rfl fun x476 y477 h478 e479 f480 => ?_
            obtain rfl := h478
            refine deps_cons rfl rfl fun x481 y482 h483 e484 f485 => ?_
            obtain rfl := h483
            refine deps_cons rfl rfl fun x486 y487 h488 e489 f490 => ?_
            obtain ⟨s491, A491, n491, c491, rfl, z491⟩ := h488
            have z491 := z491.ext f490
            refine deps_nil ?_
            refine wl_call rfl rfl (vs := [.agg #[.bool sb, .slice Ab nb cb], .agg #[.bool s491, .slice A491 n491 c491]]) (by kernel_rfl) (by decide) (g_zint_Cmp (hm.ext hw18) (Nat.le_trans lb (by decide)) z491.zi (z491.le (Nat.le_trans L376 (by decide)))) ?_
            rintro _ v492 ⟨xr494, rfl, r494, e493⟩
            refine ret_intro ?_
            have hw19 : Ext w v492 := hw18.trans e493
            obtain rfl := r494
            exact pi_done rfl e493 rfl
          · -- 12
            intro v495 e496
            have hw18 : Ext w v495 := hw17.trans e496
            refine deps_cons rfl rfl fun x497 y498 h499 e500 f501 => ?_
            obtain rfl := h499
            refine deps_cons rfl rfl fun x502 y503 h504 e505 f506 => ?_
            obtain rfl := h504
            refine deps_nil ?_
            refine wl_cmp rfl rfl rfl true (scmp_le_t hs2) (by decide) ?_
            exact pi_done rfl (Ext.refl _) rfl
          · -- 13
            intro v507 e508
            have hw18 : Ext w v507 := hw17.trans e508
            refine deps_cons rfl rfl fun x509 y510 h511 e512 f513 => ?_
            obtain rfl := h511
            refine deps_cons rfl rfl fun x514 y515 h516 e517 f518 => ?_
            obtain rfl := h516
            refine deps_nil ?_
            refine wl_pure rfl rfl (v := .bool true) (by decide) (by kernel_rfl) ?_
            exact pi_done rfl (Ext.refl _) rfl
          · -- 14
            intro v519 e520
            have hw18 : Ext w v519 := hw17.trans e520
            refine deps_cons rfl rfl fun x521 y522 h523 e524 f525 => ?_
            obtain rfl := h523
            refine deps_nil ?_
            refine wl_move rfl rfl (by decide) ?_
            exact pi_done rfl (Ext.refl _) rfl
          · -- 15
            intro v526 e527
            have hw18 : Ext w v526 := hw17.trans e527
            refine deps_cons rfl rfl fun x528 y529 h530 e531 f532 => ?_
            obtain rfl := h530
            refine deps_nil ?_
            refine wl_off rfl (by decide) ?_
            exact pi_done rfl (Ext.refl _) rfl
          · -- 16
            intro v533 e534
            have hw18 : Ext w v533 := hw17.trans e534
            refine deps_cons rfl rfl fun x535 y536 h537 e538 f539 => ?_
            obtain rfl := h537
            refine deps_cons rfl rfl fun x540 y541 h542 e543 f544 => ?_
            obtain rfl := h542
            refine deps_nil ?_
            refine wl_off rfl (by decide) ?_
            exact pi_done rfl (Ext.refl _) rfl
          · -- 17
            intro v545 e546
            have hw18 : Ext w v545 := hw17.trans e546
            refine deps_cons rfl rfl fun x547 y548 h549 e550 f551 => ?_
            obtain rfl := h549
            refine deps_cons rfl rfl fun x552 y553 h554 e555 f556 => ?_
            obtain rfl := h554
            refine deps_nil ?_
            refine wl_pure rfl rfl (v := .bool true) (by decide) (by kernel_rfl) ?_
            exact pi_done rfl (Ext.refl _) rfl
          · -- all
            intro v557 e558
            have hw18 : Ext w v557 := hw17.trans e558
            refine deps_cons rfl rfl fun x559 y560 h561 e562 f563 => ?_
            obtain rfl := h561
            refine deps_cons rfl rfl fun x564 y565 h566 e567 f568 => ?_
            obtain rfl := h566
            refine deps_cons rfl rfl fun x569 y570 h571 e572 f573 => ?_
            obtain rfl := h571
            refine deps_cons rfl rfl fun x574 y575 h576 e577 f578 => ?_
            obtain ⟨s579, A579, n579, c579, rfl, z579⟩ := h576
            have z579 := z579.ext f578
            refine deps_cons rfl rfl fun x580 y581 h582 e583 f584 => ?_
            obtain rfl := h582
            refine deps_cons rfl rfl fun x585 y586 h587 e588 f589 => ?_
            obtain rfl := h587
            refine deps_cons rfl rfl fun x590 y591 h592 e593 f594 => ?_
            obtain rfl := h592
            refine deps_cons rfl rfl fun x595 y596 h597 e598 f599 => ?_
            obtain rfl := h597
            refine deps_cons rfl rfl fun x600 y601 h602 e603 f604 => ?_
            obtain rfl := h602
            refine deps_cons rfl rfl fun x605 y606 h607 e608 f609 => ?_
            obtain rfl := h607
            refine deps_cons rfl rfl fun x610 y611 h612 e613 f614 => ?_
            obtain ⟨s615, A615, n615, c615, rfl, z615⟩ := h612
            have z615 := z615.ext f614
            refine deps_cons rfl rfl fun x616 y617 h618 e619 f620 => ?_
            obtain rfl := h618
            refine deps_cons rfl rfl fun x621 y622 h623 e624 f625 => ?_
            obtain rfl := h623
            refine deps_cons rfl rfl fun x626 y627 h628 e629 f630 => ?_
            obtain rfl := h628
            refine deps_cons rfl rfl fun x631 y632 h633 e634 f635 => ?_
            obtain rfl := h633
            refine deps_cons rfl rfl fun x636 y637 h638 e639 f640 => ?_
            obtain rfl := h638
            refine deps_cons rfl rfl fun x641 y642 h643 e644 f645 => ?_
            obtain rfl := h643
            refine deps_cons rfl rfl fun x646 y647 h648 e649 f650 => ?_
            obtain rfl := h648
            refine deps_nil ?_
            refine wl_nil ?_
            refine eo_np ?_
            refine eo_then ?_
            refine cw_true rfl ?_
            refine cw_seq ?_
            -- region 13
            refine cw_region ?_
            refine wl_assign rfl rfl (by decide) ?_
            refine wl_nil ?_
            refine eo_then ?_
            refine cw_ret ?_
            refine eo_thenR ?_
            refine eo_ret [.bool true] rfl ⟨rfl, trivial⟩ ?_
            exact bool_of _ _ ⟨_, rfl, rfl, hw18⟩
        ·
          -- region 12, in whatever order
          have L651 : ln ((p40 * p40) + (p40 * p40)) ≤ 2097153 := Nat.le_trans (ln_add L61 L61) (by decide)
          have L653 : ln ((q41 * q41) + (q41 * q41)) ≤ 2097153 := Nat.le_trans (ln_add L77 L77) (by decide)
          refine cw_draw mix 18 [] [Is (.agg #[.bool sb, .slice Ab nb cb]), Is (.agg #[.bool s65, .slice A65 n65 c65]), Is (.agg #[.bool s65, .slice A65 n65 c65]), ZR w.heap.size ((p40 * p40) + (p40 * p40)), Is (.int .i64 (scmp m ((p40 * p40) + (p40 * p40)))), Is (.bool false), Is (.bool false), Is (.agg #[.bool sb, .slice Ab nb cb]), Is (.agg #[.bool s81, .slice A81 n81 c81]), Is (.agg #[.bool s81, .slice A81 n81 c81]), ZR w.heap.size ((q41 * q41) + (q41 * q41)), Is (.int .i64 (scmp m ((q41 * q41) + (q41 * q41)))), Is (.bool false), Is (.bool false), Is (.bool false), Is (.int .i64 4), Is (.bool true), Is (.bool true)] [[], [], [], [1, 2], [0, 3], [4], [5], [6], [6], [6], [6, 8, 9], [6, 7, 10], [6, 11], [6, 12], [13], [14], [14, 15], [14, 16]] [[], [], [], [1, 2], [0, 1, 2, 3], [0, 1, 2, 3, 4], [0, 1, 2, 3, 4, 5], [0, 1, 2, 3, 4, 5, 6], [0, 1, 2, 3, 4, 5, 6], [0, 1, 2, 3, 4, 5, 6], [0, 1, 2, 3, 4, 5, 6, 8, 9], [0, 1, 2, 3, 4, 5, 6, 7, 8, 9, 10], [0, 1, 2, 3, 4, 5, 6, 7, 8, 9, 10, 11], [0, 1, 2, 3, 4, 5, 6, 7, 8, 9, 10, 11, 12], [0, 1, 2, 3, 4, 5, 6, 7, 8, 9, 10, 11, 12, 13], [0, 1, 2, 3, 4, 5, 6, 7, 8, 9, 10, 11, 12, 13, 14], [0, 1, 2, 3, 4, 5, 6, 7, 8, 9, 10, 11, 12, 13, 14, 15], [0, 1, 2, 3, 4, 5, 6, 7, 8, 9, 10, 11, 12, 13, 14, 15, 16]] rfl
            (obs_cons rfl rfl (hob rfl rfl ?_) (obs_cons rfl rfl (hob rfl rfl ?_) (obs_cons rfl rfl (hob rfl rfl ?_) (obs_cons rfl rfl (hob rfl rfl ?_) (obs_cons rfl rfl (hob rfl rfl ?_) (obs_cons rfl rfl (hob rfl rfl ?_) (obs_cons rfl rfl (hob rfl rfl ?_) (obs_cons rfl rfl (hob rfl rfl ?_) (obs_cons rfl rfl (hob rfl rfl ?_) (obs_cons rfl rfl (hob rfl rfl ?_) (obs_cons rfl rfl (hob rfl rfl ?_) (obs_cons rfl rfl (hob rfl rfl ?_) (obs_cons rfl rfl (hob rfl rfl ?_) (obs_cons rfl rfl (hob rfl rfl ?_) (obs_cons rfl rfl (hob rfl rfl ?_) (obs_cons rfl rfl (hob rfl rfl ?_) (obs_cons rfl rfl (hob rfl rfl ?_) (obs_cons rfl rfl (hob rfl rfl ?_) obs_nil)))))))))))))))))) ?_
          · -- 0
            intro v655 e656
            have hw18 : Ext w v655 := hw17.trans e656
            refine deps_nil ?_
            refine wl_load rfl rfl (load_agg aggInt (((((((((hb9.ext (e13.trans (e35.trans (e38.trans e49)))).updN u56 (by omega)).ext (e59.trans (e63.trans e68))).updN u75 (by omega)).ext (e79.trans e84)).updN u91 (by omega)).ext (e94.trans e100)).updN u107 (by omega)).ext e656) [.bool sb, .slice Ab nb cb] rfl (Nat.le_of_ble_eq_true rfl) rfl) (by decide) ?_
            exact pi_done rfl (Ext.refl _) rfl
          · -- 1
            intro v657 e658
            have hw18 : Ext w v657 := hw17.trans e658
            refine deps_nil ?_
            refine wl_load rfl rfl (load_agg aggInt (((((hb74.ext (e79.trans e84)).updN u91 (by omega)).ext (e94.trans e100)).updN u107 (by omega)).ext e658) [.bool s65, .slice A65 n65 c65] rfl (Nat.le_of_ble_eq_true rfl) rfl) (by decide) ?_
            exact pi_done rfl (Ext.refl _) rfl
          · -- 2
            intro v659 e660
            have hw18 : Ext w v659 := hw17.trans e660
            refine deps_nil ?_
            refine wl_load rfl rfl (load_agg aggInt (((((hb74.ext (e79.trans e84)).updN u91 (by omega)).ext (e94.trans e100)).updN u107 (by omega)).ext e660) [.bool s65, .slice A65 n65 c65] rfl (Nat.le_of_ble_eq_true rfl) rfl) (by decide) ?_
            exact pi_done rfl (Ext.refl _) rfl
          · -- 3
            intro v661 e662
            have hw18 : Ext w v661 := hw17.trans e662
            refine deps_cons rfl rfl fun x663 y664 h665 e666 f667 => ?_
            obtain rfl := h665
            refine deps_cons rfl rfl fun x668 y669 h670 e671 f672 => ?_
            obtain rfl := h670
            refine deps_nil ?_
            have L673 : ln ((p40 * p40) + (p40 * p40)) ≤ 2097153 := Nat.le_trans (ln_add L61 L61) (by decide)
            refine wl_call rfl rfl (vs := [.agg #[.bool s65, .slice A65 n65 c65], .agg #[.bool s65, .slice A65 n65 c65]]) (by kernel_rfl) (by decide) (g_zint_Add hw18.size (((((((z65.ext e68).updT hb73 u75).ext (e79.trans e84)).updT hb89 u91).ext (e94.trans e100)).updT hb105 u107).ext e662).zi (z65.le (Nat.le_trans L61 (by decide))) (((((((z65.ext e68).updT hb73 u75).ext (e79.trans e84)).updT hb89 u91).ext (e94.trans e100)).updT hb105 u107).ext e662).zi (z65.le (Nat.le_trans L61 (by decide)))) ?_
            rintro _ v674 ⟨xr676, rfl, r676, e675⟩
            refine ret_intro ?_
            have hw19 : Ext w v674 := hw18.trans e675
            obtain ⟨s677, A677, n677, c677, rfl, z677⟩ := r676
            exact pi_done rfl e675 ⟨_, _, _, _, rfl, z677⟩
          · -- 4
            intro v678 e679
            have hw18 : Ext w v678 := hw17.trans e679
            refine deps_cons rfl rfl fun x680 y681 h682 e683 f684 => ?_
            obtain rfl := h682
            refine deps_cons rfl rfl fun x685 y686 h687 e688 f689 => ?_
            obtain ⟨s690, A690, n690, c690, rfl, z690⟩ := h687
            have z690 := z690.ext f689
            refine deps_nil ?_
            refine wl_call rfl rfl (vs := [.agg #[.bool sb, .slice Ab nb cb], .agg #[.bool s690, .slice A690 n690 c690]]) (by kernel_rfl) (by decide) (g_zint_Cmp (hm.ext hw18) (Nat.le_trans lb (by decide)) z690.zi (z690.le (Nat.le_trans L651 (by decide)))) ?_
            rintro _ v691 ⟨xr693, rfl, r693, e692⟩
            refine ret_intro ?_
            have hw19 : Ext w v691 := hw18.trans e692
            obtain rfl := r693
            exact pi_done rfl e692 rfl
          · -- 5
            intro v694 e695
            have hw18 : Ext w v694 := hw17.trans e695
            refine deps_cons rfl rfl fun x696 y697 h698 e699 f700 => ?_
            obtain rfl := h698
            refine deps_nil ?_
            refine wl_cmp rfl rfl rfl false (scmp_le_f (by omega)) (by decide) ?_
            exact pi_done rfl (Ext.refl _) rfl
          · -- 6
            intro v701 e702
            have hw18 : Ext w v701 := hw17.trans e702
            refine deps_cons rfl rfl fun x703 y704 h705 e706 f707 => ?_
            obtain rfl := h705
            refine deps_nil ?_
            refine wl_move rfl rfl (by decide) ?_
            exact pi_done rfl (Ext.refl _) rfl
          · -- 7
            intro v708 e709
            have hw18 : Ext w v708 := hw17.trans e709
            refine deps_cons rfl rfl fun x710 y711 h712 e713 f714 => ?_
            obtain rfl := h712
            refine deps_nil ?_
            refine wl_load rfl rfl (load_agg aggInt (((((((((hb9.ext (e13.trans (e35.trans (e38.trans e49)))).updN u56 (by omega)).ext (e59.trans (e63.trans e68))).updN u75 (by omega)).ext (e79.trans e84)).updN u91 (by omega)).ext (e94.trans e100)).updN u107 (by omega)).ext e709) [.bool sb, .slice Ab nb cb] rfl (Nat.le_of_ble_eq_true rfl) rfl) (by decide) ?_
            exact pi_done rfl (Ext.refl _) rfl
          · -- 8
            intro v715 e716
            have hw18 : Ext w v715 := hw17.trans e716
            refine deps_cons rfl rfl fun x717 y718 h719 e720 f721 => ?_
            obtain rfl := h719
            refine deps_nil ?_
            refine wl_load rfl rfl (load_agg aggInt (((hb90.ext (e94.trans e100)).updN u107 (by omega)).ext e716) [.bool s81, .slice A81 n81 c81] rfl (Nat.le_of_ble_eq_true rfl) rfl) (by decide) ?_
            exact pi_done rfl (Ext.refl _) rfl
          · -- 9
            intro v722 e723
            have hw18 : Ext w v722 := hw17.trans e723
            refine deps_cons rfl rfl fun x724 y725 h726 e727 f728 => ?_
            obtain rfl := h726
            refine deps_nil ?_
            refine wl_load rfl rfl (load_agg aggInt (((hb90.ext (e94.trans e100)).updN u107 (by omega)).ext e723) [.bool s81, .slice A81 n81 c81] rfl (Nat.le_of_ble_eq_true rfl) rfl) (by decide) ?_
            exact pi_done rfl (Ext.refl _) rfl
          · -- 10
            intro v729 e730
            have hw18 : Ext w v729 := hw17.trans e730
            refine deps_cons rfl rfl fun x731 y732 h733 e734 f735 => ?_
            obtain rfl := h733
            refine deps_cons rfl rfl fun x736 y737 h738 e739 f740 => ?_
            obtain rfl := h738
            refine deps_cons rfl rfl fun x741 y742 h743 e744 f745 => ?_
            obtain rfl := h743
            refine deps_nil ?_
            have L746 : ln ((q41 * q41) + (q41 * q41)) ≤ 2097153 := Nat.le_trans (ln_add L77 L77) (by decide)
            refine wl_call rfl rfl (vs := [.agg #[.bool s81, .slice A81 n81 c81], .agg #[.bool s81, .slice A81 n81 c81]]) (by kernel_rfl) (by decide) (g_zint_Add hw18.size (((((z81.ext e84).updT hb89 u91).ext (e94.trans e100)).updT hb105 u107).ext e730).zi (z81.le (Nat.le_trans L77 (by decide))) (((((z81.ext e84).updT hb89 u91).ext (e94.trans e100)).updT hb105 u107).ext e730).zi (z81.le (Nat.le_trans L77 (by decide)))) ?_
            rintro _ v747 ⟨xr749, rfl, r749, e748⟩
            refine ret_intro ?_
            have hw19 : Ext w v747 := hw18.trans e748
            obtain ⟨s750, A750, n750, c750, rfl, z750⟩ := r749
            exact pi_done rfl e748 ⟨_, _, _, _, rfl, z750⟩
          · -- 11
            intro v751 e752
            have hw18 : Ext w v751 := hw17.trans e752
            refine deps_cons rfl rfl fun x753 y754 h755 e756 f757 => ?_
            obtain rfl := h755
            refine deps_cons rfl rfl fun x758 y759 h760 e761 f762 => ?_
            obtain rfl := h760
            refine deps_cons rfl rfl fun x763 y764 h765 e766 f767 => ?_
            obtain ⟨s768, A768, n768, c768, rfl, z768⟩ := h765
            have z768 := z768.ext f767
            refine deps_nil ?_
            refine wl_call rfl rfl (vs := [.agg #[.bool sb, .slice Ab nb cb], .agg #[.bool s768, .slice A768 n768 c768]]) (by kernel_rfl) (by decide) (g_zint_Cmp (hm.ext hw18) (Nat.le_trans lb (by decide)) z768.zi (z768.le (Nat.le_trans L653 (by decide)))) ?_
            rintro _ v769 ⟨xr771, rfl, r771, e770⟩
            refine ret_intro ?_
            have hw19 : Ext w v769 := hw18.trans e770
            obtain rfl := r771
            exact pi_done rfl e770 rfl
          · -- 12
            intro v772 e773
            have hw18 : Ext w v772 := hw17.trans e773
            refine deps_cons rfl rfl fun x774 y775 h776 e777 f778 => ?_
            obtain rfl := h776
            refine deps_cons rfl rfl fun x779 y780 h781 e782 f783 => ?_
            obtain rfl := h781
            refine deps_nil ?_
            refine wl_cmp rfl rfl rfl false (scmp_le_f (by omega)) (by decide) ?_
            exact pi_done rfl (Ext.refl _) rfl
          · -- 13
            intro v784 e785
            have hw18 : Ext w v784 := hw17.trans e785
            refine deps_cons rfl rfl fun x786 y787 h788 e789 f790 => ?_
            obtain rfl := h788
            refine deps_cons rfl rfl fun x791 y792 h793 e794 f795 => ?_
            obtain rfl := h793
            refine deps_nil ?_
            refine wl_pure rfl rfl (v := .bool false) (by decide) (by kernel_rfl) ?_
            exact pi_done rfl (Ext.refl _) rfl
          · -- 14
            intro v796 e797
            have hw18 : Ext w v796 := hw17.trans e797
            refine deps_cons rfl rfl fun x798 y799 h800 e801 f802 => ?_
            obtain rfl := h800
            refine deps_nil ?_
            refine wl_move rfl rfl (by decide) ?_
            exact pi_done rfl (Ext.refl _) rfl
          · -- 15
            intro v803 e804
            have hw18 : Ext w v803 := hw17.trans e804
            refine deps_cons rfl rfl fun x805 y806 h807 e808 f809 => ?_
            obtain rfl := h807
            refine deps_nil ?_
            refine wl_move rfl rfl (by decide) ?_
            exact pi_done rfl (Ext.refl _) rfl
          · -- 16
            intro v810 e811
            have hw18 : Ext w v810 := hw17.trans e811
            refine deps_cons rfl rfl fun x812 y813 h814 e815 f816 => ?_
            obtain rfl := h814
            refine deps_cons rfl rfl fun x817 y818 h819 e820 f821 => ?_
            obtain rfl := h819
            refine deps_nil ?_
            refine wl_pure rfl rfl (v := .bool true) (by decide) (by kernel_rfl) ?_
            exact pi_done rfl (Ext.refl _) rfl
          · -- 17
            intro v822 e823
            have hw18 : Ext w v822 := hw17.trans e823
            refine deps_cons rfl rfl fun x824 y825 h826 e827 f828 => ?_
            obtain rfl := h826
            refine deps_cons rfl rfl fun x829 y830 h831 e832 f833 => ?_
            obtain rfl := h831
            refine deps_nil ?_
            refine wl_pure rfl rfl (v := .bool true) (by decide) (by kernel_rfl) ?_
            exact pi_done rfl (Ext.refl _) rfl
          · -- all
            intro v834 e835
            have hw18 : Ext w v834 := hw17.trans e835
            refine deps_cons rfl rfl fun x836 y837 h838 e839 f840 => ?_
            obtain rfl := h838
            refine deps_cons rfl rfl fun x841 y842 h843 e844 f845 => ?_
            obtain rfl := h843
            refine deps_cons rfl rfl fun x846 y847 h848 e849 f850 => ?_
            obtain rfl := h848
            refine deps_cons rfl rfl fun x851 y852 h853 e854 f855 => ?_
            obtain ⟨s856, A856, n856, c856, rfl, z856⟩ := h853
            have z856 := z856.ext f855
            refine deps_cons rfl rfl fun x857 y858 h859 e860 f861 => ?_
            obtain rfl := h859
            refine deps_cons rfl rfl fun x862 y863 h864 e865 f866 => ?_
            obtain rfl := h864
            refine deps_cons rfl rfl fun x867 y868 h869 e870 f871 => ?_
            obtain rfl := h869
            refine deps_cons rfl rfl fun x872 y873 h874 e875 f876 => ?_
            obtain rfl := h874
            refine deps_cons rfl rfl fun x877 y878 h879 e880 f881 => ?_
            obtain rfl := h879
            refine deps_cons rfl rfl fun x882 y883 h884 e885 f886 => ?_
            obtain rfl := h884
            refine deps_cons rfl rfl fun x887 y888 h889 e890 f891 => ?_
            obtain ⟨s892, A892, n892, c892, rfl, z892⟩ := h889
            have z892 := z892.ext f891
            refine deps_cons rfl rfl fun x893 y894 h895 e896 f897 => ?_
            obtain rfl := h895
            refine deps_cons rfl rfl fun x898 y899 h900 e901 f902 => ?_
            obtain rfl := h900
            refine deps_cons rfl rfl fun x903 y904 h905 e906 f907 => ?_
            obtain rfl := h905
            refine deps_cons rfl rfl fun x908 y909 h910 e911 f912 => ?_
            obtain rfl := h910
            refine deps_cons rfl rfl fun x913 y914 h915 e916 f917 => ?_
            obtain rfl := h915
            refine deps_cons rfl rfl fun x918 y919 h920 e921 f922 => ?_
            obtain rfl := h920
            refine deps_cons rfl rfl fun x923 y924 h925 e926 f927 => ?_
            obtain rfl := h925
            refine deps_nil ?_
            refine wl_nil ?_
            refine eo_np ?_
            refine eo_then ?_
            refine cw_true rfl ?_
            refine cw_seq ?_
            -- region 13
            refine cw_region ?_
            refine wl_assign rfl rfl (by decide) ?_
            refine wl_nil ?_
            refine eo_then ?_
            refine cw_ret ?_
            refine eo_thenR ?_
            refine eo_ret [.bool true] rfl ⟨rfl, trivial⟩ ?_
            exact bool_of _ _ ⟨_, rfl, rfl, hw18⟩
    ·
      by_cases hg : (Int.gcd q41 m : Int) = 1
      ·
        -- region 11
        refine cw_region ?_
        refine wl_pure rfl rfl (v := .pointer (some ⟨g47, 2, none⟩)) (by decide) (by kernel_rfl) ?_
        refine wl_load rfl rfl (load_agg aggInt ((((hb55.ext (e59.trans (e63.trans e68))).updN u75 (by omega)).ext (e79.trans e84)).updN u91 (by omega)) [.bool t46, .slice B46 m46 d46] rfl (Nat.le_of_ble_eq_true rfl) rfl) (by decide) ?_
        refine wl_load rfl rfl (load_agg aggInt ((((((hb9.ext (e13.trans (e35.trans (e38.trans e49)))).updN u56 (by omega)).ext (e59.trans (e63.trans e68))).updN u75 (by omega)).ext (e79.trans e84)).updN u91 (by omega)) [.bool sb, .slice Ab nb cb] rfl (Nat.le_of_ble_eq_true rfl) rfl) (by decide) ?_
        refine wl_call rfl rfl (vs := [.agg #[.bool t46, .slice B46 m46 d46], .agg #[.bool sb, .slice Ab nb cb]]) (by kernel_rfl) (by decide) (g_bezout_Inverse_ok hw14.size ((((((y46.ext e49).updT hb54 u56).ext (e59.trans (e63.trans e68))).updT hb73 u75).ext (e79.trans e84)).updT hb89 u91).zi (y46.le (Nat.le_trans L44 (by decide))) (hm.ext hw14) (Nat.le_trans lb (by decide)) hmz hg) ?_
        rintro _ v928 ⟨u931, v932, p933, xr930, rfl, r930, e929⟩
        have L934 : ln (u931) ≤ 1048577 := (p933.ln_u L44 Lm)
        refine ret_intro ?_
        have hw15 : Ext w v928 := hw14.trans e929
        obtain ⟨a935_0, a935_1, rfl, r935_0, r935_1⟩ := r930
        obtain ⟨s936, A936, n936, c936, rfl, z936⟩ := r935_0
        obtain rfl := r935_1
        refine wl_move rfl rfl (by decide) ?_
        refine wl_pure rfl rfl (v := .agg #[.bool s936, .slice A936 n936 c936]) (by decide) (by kernel_rfl) ?_
        refine wl_pure rfl rfl (v := .int .i64 0) (by decide) (by kernel_rfl) ?_
        refine wl_alloc rfl (z := .agg #[.bool false, .slice none 0 0]) (vs := [.bool false, .slice none 0 0]) (fun _ => by kernel_rfl) rfl (by decide) fun g937 v938 nb => ?_
        have hb940 := nb.bk
        have ge941 : w.heap.size ≤ g937 := by rw [← nb.at_]; exact hw15.size
        have q942 : g82 < g937 := by rw [← nb.at_]; exact (hb90.ext e929).lt
        have e939 := nb.ext
        clear nb
        have hw16 : Ext w v938 := hw15.trans e939
        have hb944 := hb940
        refine wl_stored rfl rfl rfl aggInt rfl hb944 (Nat.le_of_ble_eq_true rfl) rfl [.bool s936, .slice A936 n936 c936] rfl fun v943 hb945 u946 hs947 => ?_
        have hw17 : Ext w v943 := u946.ext hw16 ge941
        refine wl_assign rfl rfl (by decide) ?_
        refine wl_nil ?_
        refine eo_then ?_
        refine cw_seq ?_
        refine cw_seq ?_
        by_cases hs1 : m ≤ (p40 * p40) + (p40 * p40)
        ·
          -- region 12, in whatever order
          have L948 : ln ((p40 * p40) + (p40 * p40)) ≤ 2097153 := Nat.le_trans (ln_add L61 L61) (by decide)
          refine cw_draw mix 18 [] [Is (.agg #[.bool sb, .slice Ab nb cb]), Is (.agg #[.bool s65, .slice A65 n65 c65]), Is (.agg #[.bool s65, .slice A65 n65 c65]), ZR w.heap.size ((p40 * p40) + (p40 * p40)), Is (.int .i64 (scmp m ((p40 * p40) + (p40 * p40)))), Is (.bool true), Is (.bool true), Is (undef), Is (undef), Is (undef), Is (undef), Is (undef), Is (undef), Is (.bool true), Is (.bool true), Is (undef), Is (undef), Is (.bool true)] [[], [], [], [1, 2], [0, 3], [4], [5], [6], [6], [6], [6, 8, 9], [6, 7, 10], [6, 11], [6, 12], [13], [14], [14, 15], [14, 16]] [[], [], [], [1, 2], [0, 1, 2, 3], [0, 1, 2, 3, 4], [0, 1, 2, 3, 4, 5], [0, 1, 2, 3, 4, 5, 6], [0, 1, 2, 3, 4, 5, 6], [0, 1, 2, 3, 4, 5, 6], [0, 1, 2, 3, 4, 5, 6, 8, 9], [0, 1, 2, 3, 4, 5, 6, 7, 8, 9, 10], [0, 1, 2, 3, 4, 5, 6, 7, 8, 9, 10, 11], [0, 1, 2, 3, 4, 5, 6, 7, 8, 9, 10, 11, 12], [0, 1, 2, 3, 4, 5, 6, 7, 8, 9, 10, 11, 12, 13], [0, 1, 2, 3, 4, 5, 6, 7, 8, 9, 10, 11, 12, 13, 14], [0, 1, 2, 3, 4, 5, 6, 7, 8, 9, 10, 11, 12, 13, 14, 15], [0, 1, 2, 3, 4, 5, 6, 7, 8, 9, 10, 11, 12, 13, 14, 15, 16]] rfl
            (obs_cons rfl rfl (hob rfl rfl ?_) (obs_cons rfl rfl (hob rfl rfl ?_) (obs_cons rfl rfl (hob rfl rfl ?_) (obs_cons rfl rfl (hob rfl rfl ?_) (obs_cons rfl rfl (hob rfl rfl ?_) (obs_cons rfl rfl (hob rfl rfl ?_) (obs_cons rfl rfl (hob rfl rfl ?_) (obs_cons rfl rfl (hob rfl rfl ?_) (obs_cons rfl rfl (hob rfl rfl ?_) (obs_cons rfl rfl (hob rfl rfl ?_) (obs_cons rfl rfl (hob rfl rfl ?_) (obs_cons rfl rfl (hob rfl rfl ?_) (obs_cons rfl rfl (hob rfl rfl ?_) (obs_cons rfl rfl (hob rfl rfl ?_) (obs_cons rfl rfl (hob rfl rfl ?_) (obs_cons rfl rfl (hob rfl rfl ?_) (obs_cons rfl rfl (hob rfl rfl ?_) (obs_cons rfl rfl (hob rfl rfl ?_) obs_nil)))))))))))))))))) ?_
          · -- 0
            intro v950 e951
            have hw18 : Ext w v950 := hw17.trans e951
            refine deps_nil ?_
            refine wl_load rfl rfl (load_agg aggInt (((((((((hb9.ext (e13.trans (e35.trans (e38.trans e49)))).updN u56 (by omega)).ext (e59.trans (e63.trans e68))).updN u75 (by omega)).ext (e79.trans e84)).updN u91 (by omega)).ext (e929.trans e939)).updN u946 (by omega)).ext e951) [.bool sb, .slice Ab nb cb] rfl (Nat.le_of_ble_eq_true rfl) rfl) (by decide) ?_
            exact pi_done rfl (Ext.refl _) rfl
          · -- 1
            intro v952 e953
            have hw18 : Ext w v952 := hw17.trans e953
            refine deps_nil ?_
            refine wl_load rfl rfl (load_agg aggInt (((((hb74.ext (e79.trans e84)).updN u91 (by omega)).ext (e929.trans e939)).updN u946 (by omega)).ext e953) [.bool s65, .slice A65 n65 c65] rfl (Nat.le_of_ble_eq_true rfl) rfl) (by decide) ?_
            exact pi_done rfl (Ext.refl _) rfl
          · -- 2
            intro v954 e955
            have hw18 : Ext w v954 := hw17.trans e955
            refine deps_nil ?_
            refine wl_load rfl rfl (load_agg aggInt (((((hb74.ext (e79.trans e84)).updN u91 (by omega)).ext (e929.trans e939)).updN u946 (by omega)).ext e955) [.bool s65, .slice A65 n65 c65] rfl (Nat.le_of_ble_eq_true rfl) rfl) (by decide) ?_
            exact pi_done rfl (Ext.refl _) rfl
          · -- 3
            intro v956 e957
            have hw18 : Ext w v956 := hw17.trans e957
            refine deps_cons rfl rfl fun x958 y959 h960 e961 f962 => ?_
            obtain rfl := h960
            refine deps_cons rfl rfl fun x963 y964 h965 e966 f967 => ?_
            obtain rfl := h965
            refine deps_nil ?_
            have L968 : ln ((p40 * p40) + (p40 * p40)) ≤ 2097153 := Nat.le_trans (ln_add L61 L61) (by decide)
            refine wl_call rfl rfl (vs := [.agg #[.bool s65, .slice A65 n65 c65], .agg #[.bool s65, .slice A65 n65 c65]]) (by kernel_rfl) (by decide) (g_zint_Add hw18.size (((((((z65.ext e68).updT hb73 u75).ext (e79.trans e84)).updT hb89 u91).ext (e929.trans e939)).updT hb944 u946).ext e957).zi (z65.le (Nat.le_trans L61 (by decide))) (((((((z65.ext e68).updT hb73 u75).ext (e79.trans e84)).updT hb89 u91).ext (e929.trans e939)).updT hb944 u946).ext e957).zi (z65.le (Nat.le_trans L61 (by decide)))) ?_
            rintro _ v969 ⟨xr971, rfl, r971, e970⟩
            refine ret_intro ?_
            have hw19 : Ext w v969 := hw18.trans e970
            obtain ⟨s972, A972, n972, c972, rfl, z972⟩ := r971
            exact pi_done rfl e970 ⟨_, _, _, _, rfl, z972⟩
          · -- 4
            intro v973 e974
            have hw18 : Ext w v973 := hw17.trans e974
            refine deps_cons rfl rfl fun x975 y976 h977 e978 f979 => ?_
            obtain rfl := h977
            refine deps_cons rfl rfl fun x980 y981 h982 e983 f984 => ?_
            obtain ⟨s985, A985, n985, c985, rfl, z985⟩ := h982
            have z985 := z985.ext f984
            refine deps_nil ?_
            refine wl_call rfl rfl (vs := [.agg #[.bool sb, .slice Ab nb cb], .agg #[.bool s985, .slice A985 n985 c985]]) (by kernel_rfl) (by decide) (g_zint_Cmp (hm.ext hw18) (Nat.le_trans lb (by decide)) z985.zi (z985.le (Nat.le_trans L948 (by decide)))) ?_
            rintro _ v986 ⟨xr988, rfl, r988, e987⟩
            refine ret_intro ?_
            have hw19 : Ext w v986 := hw18.trans e987
            obtain rfl := r988
            exact pi_done rfl e987 rfl
          · -- 5
            intro v989 e990
            have hw18 : Ext w v989 := hw17.trans e990
            refine deps_cons rfl rfl fun x991 y992 h993 e994 f995 => ?_
            obtain rfl := h993
            refine deps_nil ?_
            refine wl_cmp rfl rfl rfl true (scmp_le_t hs1) (by decide) ?_
            exact pi_done rfl (Ext.refl _) rfl
          · -- 6
            intro v996 e997
            have hw18 : Ext w v996 := hw17.trans e997
            refine deps_cons rfl rfl fun x998 y999 h1000 e1001 f1002 => ?_
            obtain rfl := h1000
            refine deps_nil ?_
            refine wl_move rfl rfl (by decide) ?_
            exact pi_done rfl (Ext.refl _) rfl
          · -- 7
            intro v1003 e1004
            have hw18 : Ext w v1003 := hw17.trans e1004
            refine deps_cons rfl rfl fun x1005 y1006 h1007 e1008 f1009 => ?_
            obtain rfl := h1007
            refine deps_nil ?_
            refine wl_off rfl (by decide) ?_
            exact pi_done rfl (Ext.refl _) rfl
          · -- 8
            intro v1010 e1011
            have hw18 : Ext w v1010 := hw17.trans e1011
            refine deps_cons rfl rfl fun x1012 y1013 h1014 e1015 f1016 => ?_
            obtain rfl := h1014
            refine deps_nil ?_
            refine wl_off rfl (by decide) ?_
            exact pi_done rfl (Ext.refl _) rfl
          · -- 9
            intro v1017 e1018
            have hw18 : Ext w v1017 := hw17.trans e1018
            refine deps_cons rfl rfl fun x1019 y1020 h1021 e1022 f1023 => ?_
            obtain rfl := h1021
            refine deps_nil ?_
            refine wl_off rfl (by decide) ?_
            exact pi_done rfl (Ext.refl _) rfl
          · -- 10
            intro v1024 e1025
            have hw18 : Ext w v1024 := hw17.trans e1025
            refine deps_cons rfl rfl fun x1026 y1027 h1028 e1029 f1030 => ?_
            obtain rfl := h1028
            refine deps_cons rfl rfl fun x1031 y1032 h1033 e1034 f1035 => ?_
            obtain rfl := h1033
            refine deps_cons rfl rfl fun x1036 y1037 h1038 e1039 f1040 => ?_
            obtain rfl := h1038
            refine deps_nil ?_
            refine wl_off rfl (by decide) ?_
            exact pi_done rfl (Ext.refl _) rfl
          · -- 11
            intro v1041 e1042
            have hw18 : Ext w v1041 := hw17.trans e1042
            refine deps_cons rfl rfl fun x1043 y1044 h1045 e1046 f1047 => ?_
            obtain rfl := h1045
            refine deps_cons rfl rfl fun x1048 y1049 h1050 e1051 f1052 => ?_
            obtain rfl := h1050
            refine deps_cons rfl rfl fun x1053 y1054 h1055 e1056 f1057 => ?_
            obtain rfl := h1055
            refine deps_nil ?_
            refine wl_off rfl (by decide) ?_
            exact pi_done rfl (Ext.refl _) rfl
          · -- 12
            intro v1058 e1059
            have hw18 : Ext w v1058 := hw17.trans e1059
            refine deps_cons rfl rfl fun x1060 y1061 h1062 e1063 f1064 => ?_
            obtain rfl := h1062
            refine deps_cons rfl rfl fun x1065 y1066 h1067 e1068 f1069 => ?_
            obtain rfl := h1067
            refine deps_nil ?_
            refine wl_off rfl (by decide) ?_
            exact pi_done rfl (Ext.refl _) rfl
          · -- 13
            intro v1070 e1071
            have hw18 : Ext w v1070 := hw17.trans e1071
            refine deps_cons rfl rfl fun x1072 y1073 h1074 e1075 f1076 => ?_
            obtain rfl := h1074
            refine deps_cons rfl rfl fun x1077 y1078 h1079 e1080 f1081 => ?_
            obtain rfl := h1079
            refine deps_nil ?_
            refine wl_pure rfl rfl (v := .bool true) (by decide) (by kernel_rfl) ?_
            exact pi_done rfl (Ext.refl _) rfl
          · -- 14
            intro v1082 e1083
            have hw18 : Ext w v1082 := hw17.trans e1083
            refine deps_cons rfl rfl fun x1084 y1085 h1086 e1087 f1088 => ?_
            obtain rfl := h1086
            refine deps_nil ?_
            refine wl_move rfl rfl (by decide) ?_
            exact pi_done rfl (Ext.refl _) rfl
          · -- 15
            intro v1089 e1090
            have hw18 : Ext w v1089 := hw17.trans e1090
            refine deps_cons rfl rfl fun x1091 y1092 h1093 e1094 f1095 => ?_
            obtain rfl := h1093
            refine deps_nil ?_
            refine wl_off rfl (by decide) ?_
            exact pi_done rfl (Ext.refl _) rfl
          · -- 16
            intro v1096 e1097
            have hw18 : Ext w v1096 := hw17.trans e1097
            refine deps_cons rfl rfl fun x1098 y1099 h1100 e1101 f1102 => ?_
            obtain rfl := h1100
            refine deps_cons rfl rfl fun x1103 y1104 h1105 e1106 f1107 => ?_
            obtain rfl := h1105
            refine deps_nil ?_
            refine wl_off rfl (by decide) ?_
            exact pi_done rfl (Ext.refl _) rfl
          · -- 17
            intro v1108 e1109
            have hw18 : Ext w v1108 := hw17.trans e1109
            refine deps_cons rfl rfl fun x1110 y1111 h1112 e1113 f1114 => ?_
            obtain rfl := h1112
            refine deps_cons rfl rfl fun x1115 y1116 h1117 e1118 f1119 => ?_
            obtain rfl := h1117
            refine deps_nil ?_
            refine wl_pure rfl rfl (v := .bool true) (by decide) (by kernel_rfl) ?_
            exact pi_done rfl (Ext.refl _) rfl
          · -- all
            intro v1120 e1121
            have hw18 : Ext w v1120 := hw17.trans e1121
            refine deps_cons rfl rfl fun x1122 y1123 h1124 e1125 f1126 => ?_
            obtain rfl := h1124
            refine deps_cons rfl rfl fun x1127 y1128 h1129 e1130 f1131 => ?_
            obtain rfl := h1129
            refine deps_cons rfl rfl fun x1132 y1133 h1134 e1135 f1136 => ?_
            obtain rfl := h1134
            refine deps_cons rfl rfl fun x1137 y1138 h1139 e1140 f1141 => ?_
            obtain ⟨s1142, A1142, n1142, c1142, rfl, z1142⟩ := h1139
            have z1142 := z1142.ext f1141
            refine deps_cons rfl rfl fun x1143 y1144 h1145 e1146 f1147 => ?_
            obtain rfl := h1145
            refine deps_cons rfl rfl fun x1148 y1149 h1150 e1151 f1152 => ?_
            obtain rfl := h1150
            refine deps_cons rfl rfl fun x1153 y1154 h1155 e1156 f1157 => ?_
            obtain rfl := h1155
            refine deps_cons rfl rfl fun x1158 y1159 h1160 e1161 f1162 => ?_
            obtain rfl := h1160
            refine deps_cons rfl rfl fun x1163 y1164 h1165 e1166 f1167 => ?_
            obtain rfl := h1165
            refine deps_cons rfl rfl fun x1168 y1169 h1170 e1171 f1172 => ?_
            obtain rfl := h1170
            refine deps_cons rfl rfl fun x1173 y1174 h1175 e1176 f1177 => ?_
            obtain rfl := h1175
            refine deps_cons rfl rfl fun x1178 y1179 h1180 e1181 f1182 => ?_
            obtain rfl := h1180
            refine deps_cons rfl rfl fun x1183 y1184 h1185 e1186 f1187 => ?_
            obtain rfl := h1185
            refine deps_cons rfl rfl fun x1188 y1189 h1190 e1191 f1192 => ?_
            obtain rfl := h1190
            refine deps_cons rfl rfl fun x1193 y1194 h1195 e1196 f1197 => ?_
            obtain rfl := h1195
            refine deps_cons rfl rfl fun x1198 y1199 h1200 e1201 f1202 => ?_
            obtain rfl := h1200
            refine deps_cons rfl rfl fun x1203 y1204 h1205 e1206 f1207 => ?_
            obtain rfl := h1205
            refine deps_cons rfl rfl fun x1208 y1209 h1210 e1211 f1212 => ?_
            obtain rfl := h1210
            refine deps_nil ?_
            refine wl_nil ?_
            refine eo_np ?_
            refine eo_then ?_
            refine cw_true rfl ?_
            refine cw_seq ?_
            -- region 13
            refine cw_region ?_
            refine wl_assign rfl rfl (by decide) ?_
            refine wl_nil ?_
            refine eo_then ?_
            refine cw_ret ?_
            refine eo_thenR ?_
            refine eo_ret [.bool true] rfl ⟨rfl, trivial⟩ ?_
            exact bool_of _ _ ⟨_, rfl, rfl, hw18⟩
        ·
          by_cases hs2 : m ≤ (q41 * q41) + (q41 * q41)
          ·
            -- region 12, in whatever order
            have L1213 : ln ((p40 * p40) + (p40 * p40)) ≤ 2097153 := Nat.le_trans (ln_add L61 L61) (by decide)
            have L1215 : ln ((q41 * q41) + (q41 * q41)) ≤ 2097153 := Nat.le_trans (ln_add L77 L77) (by decide)
            refine cw_draw mix 18 [] [Is (.agg #[.bool sb, .slice Ab nb cb]), Is (.agg #[.bool s65, .slice A65 n65 c65]), Is (.agg #[.bool s65, .slice A65 n65 c65]), ZR w.heap.size ((p40 * p40) + (p40 * p40)), Is (.int .i64 (scmp m ((p40 * p40) + (p40 * p40)))), Is (.bool false), Is (.bool false), Is (.agg #[.bool sb, .slice Ab nb cb]), Is (.agg #[.bool s81, .slice A81 n81 c81]), Is (.agg #[.bool s81, .slice A81 n81 c81]), ZR w.heap.size ((q41 * q41) + (q41 * q41)), Is (.int .i64 (scmp m ((q41 * q41) + (q41 * q41)))), Is (.bool true), Is (.bool true), Is (.bool true), Is (undef), Is (undef), Is (.bool true)] [[], [], [], [1, 2], [0, 3], [4], [5], [6], [6], [6], [6, 8, 9], [6, 7, 10], [6, 11], [6, 12], [13], [14], [14, 15], [14, 16]] [[], [], [], [1, 2], [0, 1, 2, 3], [0, 1, 2, 3, 4], [0, 1, 2, 3, 4, 5], [0, 1, 2, 3, 4, 5, 6], [0, 1, 2, 3, 4, 5, 6], [0, 1, 2, 3, 4, 5, 6], [0, 1, 2, 3, 4, 5, 6, 8, 9], [0, 1, 2, 3, 4, 5, 6, 7, 8, 9, 10], [0, 1, 2, 3, 4, 5, 6, 7, 8, 9, 10, 11], [0, 1, 2, 3, 4, 5, 6, 7, 8, 9, 10, 11, 12], [0, 1, 2, 3, 4, 5, 6, 7, 8, 9, 10, 11, 12, 13], [0, 1, 2, 3, 4, 5, 6, 7, 8, 9, 10, 11, 12, 13, 14], [0, 1, 2, 3, 4, 5, 6, 7, 8, 9, 10, 11, 12, 13, 14, 15], [0, 1, 2, 3, 4, 5, 6, 7, 8, 9, 10, 11, 12, 13, 14, 15, 16]] rfl
              (obs_cons rfl rfl (hob rfl rfl ?_) (obs_cons rfl rfl (hob rfl rfl ?_) (obs_cons rfl rfl (hob rfl rfl ?_) (obs_cons rfl rfl (hob rfl rfl ?_) (obs_cons rfl rfl (hob rfl rfl ?_) (obs_cons rfl rfl (hob rfl rfl ?_) (obs_cons rfl rfl (hob rfl rfl ?_) (obs_cons rfl rfl (hob rfl rfl ?_) (obs_cons rfl rfl (hob rfl rfl ?_) (obs_cons rfl rfl (hob rfl rfl ?_) (obs_cons rfl rfl (hob rfl rfl ?_) (obs_cons rfl rfl (hob rfl rfl ?_) (obs_cons rfl rfl (hob rfl rfl ?_) (obs_cons rfl rfl (hob rfl rfl ?_) (obs_cons rfl rfl (hob rfl rfl ?_) (obs_cons rfl rfl (hob rfl rfl ?_) (obs_cons rfl rfl (hob rfl rfl ?_) (obs_cons rfl rfl (hob rfl rfl ?_) obs_nil)))))))))))))))))) ?_
            · -- 0
              intro v1217 e1218
              have hw18 : Ext w v1217 := hw17.trans e1218
              refine deps_nil ?_
              refine wl_load rfl rfl (load_agg aggInt (((((((((hb9.ext (e13.trans (e35.trans (e38.trans e49)))).updN u56 (by omega)).ext (e59.trans (e63.trans e68))).updN u75 (by omega)).ext (e79.trans e84)).updN u91 (by omega)).ext (e929.trans e939)).updN u946 (by omega)).ext e1218) [.bool sb, .slice Ab nb cb] rfl (Nat.le_of_ble_eq_true rfl) rfl) (by decide) ?_
              exact pi_done rfl (Ext.refl _) rfl
            · -- 1
              intro v1219 e1220
              have hw18 : Ext w v1219 := hw17.trans e1220
              refine deps_nil ?_
              refine wl_load rfl rfl (load_agg aggInt (((((hb74.ext (e79.trans e84)).updN u91 (by omega)).ext (e929.trans e939)).updN u946 (by omega)).ext e1220) [.bool s65, .slice A65 n65 c65] rfl (Nat.le_of_ble_eq_true rfl) rfl) (by decide) ?_
              exact pi_done rfl (Ext.refl _) rfl
            · -- 2
              intro v1221 e1222
              have hw18 : Ext w v1221 := hw17.trans e1222
              refine deps_nil ?_
              refine wl_load rfl rfl (load_agg aggInt (((((hb74.ext (e79.trans e84)).updN u91 (by omega)).ext (e929.trans e939)).updN u946 (by omega)).ext e1222) [.bool s65, .slice A65 n65 c65] rfl (Nat.le_of_ble_eq_true rfl) rfl) (by decide) ?_
              exact pi_done rfl (Ext.refl _) rfl
            · -- 3
              intro v1223 e1224
              have hw18 : Ext w v1223 := hw17.trans e1224
              refine deps_cons rfl rfl fun x1225 y1226 h1227 e1228 f1229 => ?_
              obtain rfl := h1227
              refine deps_cons rfl rfl fun x1230 y1231 h1232 e1233 f1234 => ?_
              obtain rfl := h1232
              refine deps_nil ?_
              have L1235 : ln ((p40 * p40) + (p40 * p40)) ≤ 2097153 := Nat.le_trans (ln_add L61 L61) (by decide)
              refine wl_call rfl rfl (vs := [.agg #[.bool s65, .slice A65 n65 c65], .agg #[.bool s65, .slice A65 n65 c65]]) (by kernel_rfl) (by decide) (g_zint_Add hw18.size (((((((z65.ext e68).updT hb73 u75).ext (e79.trans e84)).updT hb89 u91).ext (e929.trans e939)).updT hb944 u946).ext e1224).zi (z65.le (Nat.le_trans L61 (by decide))) (((((((z65.ext e68).updT hb73 u75).ext (e79.trans e84)).updT hb89 u91).ext (e929.trans e939)).updT hb944 u946).ext e1224).zi (z65.le (Nat.le_trans L61 (by decide)))) ?_
              rintro _ v1236 ⟨xr1238, rfl, r1238, e1237⟩
              refine ret_intro ?_
              have hw19 : Ext w v1236 := hw18.trans e1237
              obtain ⟨s1239, A1239, n1239, c1239, rfl, z1239⟩ := r1238
              exact pi_done rfl e1237 ⟨_, _, _, _, rfl, z1239⟩
            · -- 4
              intro v1240 e1241
              have hw18 : Ext w v1240 := hw17.trans e1241
              refine deps_cons rfl rfl fun x1242 y1243 h1244 e1245 f1246 => ?_
              obtain rfl := h1244
              refine deps_cons rfl rfl fun x1247 y1248 h1249 e1250 f1251 => ?_
              obtain ⟨s1252, A1252, n1252, c1252, rfl, z1252⟩ := h1249
              have z1252 := z1252.ext f1251
              refine deps_nil ?_
              refine wl_call rfl rfl (vs := [.agg #[.bool sb, .slice Ab nb cb], .agg #[.bool s1252, .slice A1252 n1252 c1252]]) (by kernel_rfl) (by decide) (g_zint_Cmp (hm.ext hw18) (Nat.le_trans lb (by decide)) z1252.zi (z1252.le (Nat.le_trans L1213 (by decide)))) ?_
              rintro _ v1253 ⟨xr1255, rfl, r1255, e1254⟩
              refine ret_intro ?_
              have hw19 : Ext w v1253 := hw18.trans e1254
              obtain rfl := r1255
              exact pi_done rfl e1254 rfl
            · -- 5
              intro v1256 e1257
              have hw18 : Ext w v1256 := hw17.trans e1257
              refine deps_cons rfl rfl fun x1258 y1259 h1260 e1261 f1262 => ?_
              obtain rfl := h1260
              refine deps_nil ?_
              refine wl_cmp rfl rfl rfl false (scmp_le_f (by omega)) (by decide) ?_
              exact pi_done rfl (Ext.refl _) rfl
            · -- 6
              intro v1263 e1264
              have hw18 : Ext w v1263 := hw17.trans e1264
              refine deps_cons rfl rfl fun x1265 y1266 h1267 e1268 f1269 => ?_
              obtain rfl := h1267
              refine deps_nil ?_
              refine wl_move rfl rfl (by decide) ?_
              exact pi_done rfl (Ext.refl _) rfl
            · -- 7
              intro v1270 e1271
              have hw18 : Ext w v1270 := hw17.trans e1271
              refine deps_cons rfl rfl fun x1272 y1273 h1274 e1275 f1276 => ?_
              obtain rfl := h1274
              refine deps_nil ?_
              refine wl_load rfl rfl (load_agg aggInt (((((((((hb9.ext (e13.trans (e35.trans (e38.trans e49)))).updN u56 (by omega)).ext (e59.trans (e63.trans e68))).updN u75 (by omega)).ext (e79.trans e84)).updN u91 (by omega)).ext (e929.trans e939)).updN u946 (by omega)).ext e1271) [.bool sb, .slice Ab nb cb] rfl (Nat.le_of_ble_eq_true rfl) rfl) (by decide) ?_
              exact pi_done rfl (Ext.refl _) rfl
            · -- 8
              intro v1277 e1278
              have hw18 : Ext w v1277 := hw17.trans e1278
              refine deps_cons rfl rfl fun x1279 y1280 h1281 e1282 f1283 => ?_
              obtain rfl := h1281
              refine deps_nil ?_
              refine wl_load rfl rfl (load_agg aggInt (((hb90.ext (e929.trans e939)).updN u946 (by omega)).ext e1278) [.bool s81, .slice A81 n81 c81] rfl (Nat.le_of_ble_eq_true rfl) rfl) (by decide) ?_
              exact pi_done rfl (Ext.refl _) rfl
            · -- 9
              intro v1284 e1285
              have hw18 : Ext w v1284 := hw17.trans e1285
              refine deps_cons rfl rfl fun x1286 y1287 h1288 e1289 f1290 => ?_
              obtain rfl := h1288
              refine deps_nil ?_
              refine wl_load rfl rfl (load_agg aggInt (((hb90.ext (e929.trans e939)).updN u946 (by omega)).ext e1285) [.bool s81, .slice A81 n81 c81] rfl (Nat.le_of_ble_eq_true rfl) rfl) (by decide) ?_
              exact pi_done rfl (Ext.refl _) rfl
            · -- 10
              intro v1291 e1292
              have hw18 : Ext w v1291 := hw17.trans e1292
              refine deps_cons rfl rfl fun x1293 y1294 h1295 e1296 f1297 => ?_
              obtain rfl := h1295
              refine deps_cons rfl rfl fun x1298 y1299 h1300 e1301 f1302 => ?_
              obtain rfl := h1300
              refine deps_cons rfl rfl fun x1303 y1304 h1305 e1306 f1307 => ?_
              obtain rfl := h1305
              refine deps_nil ?_
              have L1308 : ln ((q41 * q41) + (q41 * q41)) ≤ 2097153 := Nat.le_trans (ln_add L77 L77) (by decide)
              refine wl_call rfl rfl (vs := [.agg #[.bool s81, .slice A81 n81 c81], .agg #[.bool s81, .slice A81 n81 c81]]) (by kernel_rfl) (by decide) (g_zint_Add hw18.size (((((z81.ext e84).updT hb89 u91).ext (e929.trans e939)).updT hb944 u946).ext e1292).zi (z81.le (Nat.le_trans L77 (by decide))) (((((z81.ext e84).updT hb89 u91).ext (e929.trans e939)).updT hb944 u946).ext e1292).zi (z81.le (Nat.le_trans L77 (by decide)))) ?_
              rintro _ v1309 ⟨xr1311, rfl, r1311, e1310⟩
              refine ret_intro ?_
              have hw19 : Ext w v1309 := hw18.trans e1310
              obtain ⟨s1312, A1312, n1312, c1312, rfl, z1312⟩ := r1311
              exact pi_done rfl e1310 ⟨_, _, _, _, rfl, z1312⟩
            · -- 11
              intro v1313 e1314
              have hw18 : Ext w v1313 := hw17.trans e1314
              refine deps_cons rfl rfl fun x1315 y1316 h1317 e1318 f1319 => ?_
              obtain rfl := h1317
              refine deps_cons rfl rfl fun x1320 y1321 h1322 e1323 f1324 => ?_
              obtain rfl := h1322
              refine deps_cons rfl rfl fun x1325 y1326 h1327 e1328 f1329 => ?_
              obtain ⟨s1330, A1330, n1330, c1330, rfl, z1330⟩ := h1327
              have z1330 := z1330.ext f1329
              refine deps_nil ?_
              refine wl_call rfl rfl (vs := [.agg #[.bool sb, .slice Ab nb cb], .agg #[.bool s1330, .slice A1330 n1330 c1330]]) (by kernel_rfl) (by decide) (g_zint_Cmp (hm.ext hw18) (Nat.le_trans lb (by decide)) z1330.zi (z1330.le (Nat.le_trans L1215 (by decide)))) ?_
              rintro _ v1331 ⟨xr1333, rfl, r1333, e1332⟩
              refine ret_intro ?_
              have hw19 : Ext w v1331 := hw18.trans e1332
              obtain rfl := r1333
              exact pi_done rfl e1332 rfl
            · -- 12
              intro v1334 e1335
              have hw18 : Ext w v1334 := hw17.trans e1335
              refine deps_cons rfl rfl fun x1336 y1337 h1338 e1339 f1340 => ?_
              obtain rfl := h1338
              refine deps_cons rfl rfl fun x1341 y1342 h1343 e1344 f1345 => ?_
              obtain rfl := h1343
              refine deps_nil ?_
              refine wl_cmp rfl rfl rfl true (scmp_le_t hs2) (by decide) ?_
              exact pi_done rfl (Ext.refl _) rfl
            · -- 13
              intro v1346 e1347
              have hw18 : Ext w v1346 := hw17.trans e1347
              refine deps_cons rfl rfl fun x1348 y1349 h1350 e1351 f1352 => ?_
              obtain rfl := h1350
              refine deps_cons rfl rfl fun x1353 y1354 h1355 e1356 f1357 => ?_
              obtain rfl := h1355
              refine deps_nil ?_
              refine wl_pure rfl rfl (v := .bool true) (by decide) (by kernel_rfl) ?_
              exact pi_done rfl (Ext.refl _) rfl
            · -- 14
              intro v1358 e1359
              have hw18 : Ext w v1358 := hw17.trans e1359
              refine deps_cons rfl rfl fun x1360 y1361 h1362 e1363 f1364 => ?_
              obtain rfl := h1362
              refine deps_nil ?_
              refine wl_move rfl rfl (by decide) ?_
              exact pi_done rfl (Ext.refl _) rfl
            · -- 15
              intro v1365 e1366
              have hw18 : Ext w v1365 := hw17.trans e1366
              refine deps_cons rfl rfl fun x1367 y1368 h1369 e1370 f1371 => ?_
              obtain rfl := h1369
              refine deps_nil ?_
              refine wl_off rfl (by decide) ?_
              exact pi_done rfl (Ext.refl _) rfl
            · -- 16
              intro v1372 e1373
              have hw18 : Ext w v1372 := hw17.trans e1373
              refine deps_cons rfl rfl fun x1374 y1375 h1376 e1377 f1378 => ?_
              obtain rfl := h1376
              refine deps_cons rfl rfl fun x1379 y1380 h1381 e1382 f1383 => ?_
              obtain rfl := h1381
              refine deps_nil ?_
              refine wl_off rfl (by decide) ?_
              exact pi_done rfl (Ext.refl _) rfl
            · -- 17
              intro v1384 e1385
              have hw18 : Ext w v1384 := hw17.trans e1385
              refine deps_cons rfl rfl fun x1386 y1387 h1388 e1389 f1390 => ?_
              obtain rfl := h1388
              refine deps_cons rfl rfl fun x1391 y1392 h1393 e1394 f1395 => ?_
              obtain rfl := h1393
              refine deps_nil ?_
              refine wl_pure rfl rfl (v := .bool true) (by decide) (by kernel_rfl) ?_
              exact pi_done rfl (Ext.refl _) rfl
            · -- all
              intro v1396 e1397
              have hw18 : Ext w v1396 := hw17.trans e1397
              refine deps_cons rfl rfl fun x1398 y1399 h1400 e1401 f1402 => ?_
              obtain rfl := h1400
              refine deps_cons rfl rfl fun x1403 y1404 h1405 e1406 f1407 => ?_
              obtain rfl := h1405
              refine deps_cons rfl rfl fun x1408 y1409 h1410 e1411 f1412 => ?_
              obtain rfl := h1410
              refine deps_cons rfl rfl fun x1413 y1414 h1415 e1416 f1417 => ?_
              obtain ⟨s1418, A1418, n1418, c1418, rfl, z1418⟩ := h1415
              have z1418 := z1418.ext f1417
              refine deps_cons rfl rfl fun x1419 y1420 h1421 e1422 f1423 => ?_
              obtain rfl := h1421
              refine deps_cons rfl rfl fun x1424 y1425 h1426 e1427 f1428 => ?_
              obtain rfl := h1426
              refine deps_cons rfl rfl fun x1429 y1430 h1431 e1432 f1433 => ?_
              obtain rfl := h1431
              refine deps_cons rfl rfl fun x1434 y1435 h1436 e1437 f1438 => ?_
              obtain rfl := h1436
              refine deps_cons rfl rfl fun x1439 y1440 h1441 e1442 f1443 => ?_
              obtain rfl := h1441
              refine deps_cons rfl rfl fun x1444 y1445 h1446 e1447 f1448 => ?_
              obtain rfl := h1446
              refine deps_cons rfl rfl fun x1449 y1450 h1451 e1452 f1453 => ?_
              obtain ⟨s1454, A1454, n1454, c1454, rfl, z1454⟩ := h1451
              have z1454 := z1454.ext f1453
              refine deps_cons rfl rfl fun x1455 y1456 h1457 e1458 f1459 => ?_
              obtain rfl := h1457
              refine deps_cons rfl rfl fun x1460 y1461 h1462 e1463 f1464 => ?_
              obtain rfl := h1462
              refine deps_cons rfl rfl fun x1465 y1466 h1467 e1468 f1469 => ?_
              obtain rfl := h1467
              refine deps_cons rfl rfl fun x1470 y1471 h1472 e1473 f1474 => ?_
              obtain rfl := h1472
              refine deps_cons rfl rfl fun x1475 y1476 h1477 e1478 f1479 => ?_
              obtain rfl := h1477
              refine deps_cons rfl rfl fun x1480 y1481 h1482 e1483 f1484 => ?_
              obtain rfl := h1482
              refine deps_cons rfl rfl fun x1485 y1486 h1487 e1488 f1489 => ?_
              obtain rfl := h1487
              refine deps_nil ?_
              refine wl_nil ?_
              refine eo_np ?_
              refine eo_then ?_
              refine cw_true rfl ?_
              refine cw_seq ?_
              -- region 13
              refine cw_region ?_
              refine wl_assign rfl rfl (by decide) ?_
              refine wl_nil ?_
              refine eo_then ?_
              refine cw_ret ?_
              refine eo_thenR ?_
              refine eo_ret [.bool true] rfl ⟨rfl, trivial⟩ ?_
              exact bool_of _ _ ⟨_, rfl, rfl, hw18⟩
          ·
            -- region 12, in whatever order
            have L1490 : ln ((p40 * p40) + (p40 * p40)) ≤ 2097153 := Nat.le_trans (ln_add L61 L61) (by decide)
            have L1492 : ln ((q41 * q41) + (q41 * q41)) ≤ 2097153 := Nat.le_trans (ln_add L77 L77) (by decide)
            refine cw_draw mix 18 [] [Is (.agg #[.bool sb, .slice Ab nb cb]), Is (.agg #[.bool s65, .slice A65 n65 c65]), Is (.agg #[.bool s65, .slice A65 n65 c65]), ZR w.heap.size ((p40 * p40) + (p40 * p40)), Is (.int .i64 (scmp m ((p40 * p40) + (p40 * p40)))), Is (.bool false), Is (.bool false), Is (.agg #[.bool sb, .slice Ab nb cb]), Is (.agg #[.bool s81, .slice A81 n81 c81]), Is (.agg #[.bool s81, .slice A81 n81 c81]), ZR w.heap.size ((q41 * q41) + (q41 * q41)), Is (.int .i64 (scmp m ((q41 * q41) + (q41 * q41)))), Is (.bool false), Is (.bool false), Is (.bool false), Is (.int .i64 0), Is (.bool false), Is (.bool false)] [[], [], [], [1, 2], [0, 3], [4], [5], [6], [6], [6], [6, 8, 9], [6, 7, 10], [6, 11], [6, 12], [13], [14], [14, 15], [14, 16]] [[], [], [], [1, 2], [0, 1, 2, 3], [0, 1, 2, 3, 4], [0, 1, 2, 3, 4, 5], [0, 1, 2, 3, 4, 5, 6], [0, 1, 2, 3, 4, 5, 6], [0, 1, 2, 3, 4, 5, 6], [0, 1, 2, 3, 4, 5, 6, 8, 9], [0, 1, 2, 3, 4, 5, 6, 7, 8, 9, 10], [0, 1, 2, 3, 4, 5, 6, 7, 8, 9, 10, 11], [0, 1, 2, 3, 4, 5, 6, 7, 8, 9, 10, 11, 12], [0, 1, 2, 3, 4, 5, 6, 7, 8, 9, 10, 11, 12, 13], [0, 1, 2, 3, 4, 5, 6, 7, 8, 9, 10, 11, 12, 13, 14], [0, 1, 2, 3, 4, 5, 6, 7, 8, 9, 10, 11, 12, 13, 14, 15], [0, 1, 2, 3, 4, 5, 6, 7, 8, 9, 10, 11, 12, 13, 14, 15, 16]] rfl
              (obs_cons rfl rfl (hob rfl rfl ?_) (obs_cons rfl rfl (hob rfl rfl ?_) (obs_cons rfl rfl (hob rfl rfl ?_) (obs_cons rfl rfl (hob rfl rfl ?_) (obs_cons rfl rfl (hob rfl rfl ?_) (obs_cons rfl rfl (hob rfl rfl ?_) (obs_cons rfl rfl (hob rfl rfl ?_) (obs_cons rfl rfl (hob rfl rfl ?_) (obs_cons rfl rfl (hob rfl rfl ?_) (obs_cons rfl rfl (hob rfl rfl ?_) (obs_cons rfl rfl (hob rfl rfl ?_) (obs_cons rfl rfl (hob rfl rfl ?_) (obs_cons rfl rfl (hob rfl rfl ?_) (obs_cons rfl rfl (hob rfl rfl ?_) (obs_cons rfl rfl (hob rfl rfl ?_) (obs_cons rfl rfl (hob rfl rfl ?_) (obs_cons rfl rfl (hob rfl rfl ?_) (obs_cons rfl rfl (hob rfl rfl ?_) obs_nil)))))))))))))))))) ?_
            · -- 0
              intro v1494 e1495
              have hw18 : Ext w v1494 := hw17.trans e1495
              refine deps_nil ?_
              refine wl_load rfl rfl (load_agg aggInt (((((((((hb9.ext (e13.trans (e35.trans (e38.trans e49)))).updN u56 (by omega)).ext (e59.trans (e63.trans e68))).updN u75 (by omega)).ext (e79.trans e84)).updN u91 (by omega)).ext (e929.trans e939)).updN u946 (by omega)).ext e1495) [.bool sb, .slice Ab nb cb] rfl (Nat.le_of_ble_eq_true rfl) rfl) (by decide) ?_
              exact pi_done rfl (Ext.refl _) rfl
            · -- 1
              intro v1496 e1497
              have hw18 : Ext w v1496 := hw17.trans e1497
              refine deps_nil ?_
              refine wl_load rfl rfl (load_agg aggInt (((((hb74.ext (e79.trans e84)).updN u91 (by omega)).ext (e929.trans e939)).updN u946 (by omega)).ext e1497) [.bool s65, .slice A65 n65 c65] rfl (Nat.le_of_ble_eq_true rfl) rfl) (by decide) ?_
              exact pi_done rfl (Ext.refl _) rfl
            · -- 2
              intro v1498 e1499
              have hw18 : Ext w v1498 := hw17.trans e1499
              refine deps_nil ?_
              refine wl_load rfl rfl (load_agg aggInt (((((hb74.ext (e79.trans e84)).updN u91 (by omega)).ext (e929.trans e939)).updN u946 (by omega)).ext e1499) [.bool s65, .slice A65 n65 c65] rfl (Nat.le_of_ble_eq_true rfl) rfl) (by decide) ?_
              exact pi_done rfl (Ext.refl _) rfl
            · -- 3
              intro v1500 e1501
              have hw18 : Ext w v1500 := hw17.trans e1501
              refine deps_cons rfl rfl fun x1502 y1503 h1504 e1505 f1506 => ?_
              obtain rfl := h1504
              refine deps_cons rfl rfl fun x1507 y1508 h1509 e1510 f1511 => ?_
              obtain rfl := h1509
              refine deps_nil ?_
              have L1512 : ln ((p40 * p40) + (p40 * p40)) ≤ 2097153 := Nat.le_trans (ln_add L61 L61) (by decide)
              refine wl_call rfl rfl (vs := [.agg #[.bool s65, .slice A65 n65 c65], .agg #[.bool s65, .slice A65 n65 c65]]) (by kernel_rfl) (by decide) (g_zint_Add hw18.size (((((((z65.ext e68).updT hb73 u75).ext (e79.trans e84)).updT hb89 u91).ext (e929.trans e939)).updT hb944 u946).ext e1501).zi (z65.le (Nat.le_trans L61 (by decide))) (((((((z65.ext e68).updT hb73 u75).ext (e79.trans e84)).updT hb89 u91).ext (e929.trans e939)).updT hb944 u946).ext e1501).zi (z65.le (Nat.le_trans L61 (by decide)))) ?_
              rintro _ v1513 ⟨xr1515, rfl, r1515, e1514⟩
              refine ret_intro ?_
              have hw19 : Ext w v1513 := hw18.trans e1514
              obtain ⟨s1516, A1516, n1516, c1516, rfl, z1516⟩ := r1515
              exact pi_done rfl e1514 ⟨_, _, _, _, rfl, z1516⟩
            · -- 4
              intro v1517 e1518
              have hw18 : Ext w v1517 := hw17.trans e1518
              refine deps_cons rfl rfl fun x1519 y1520 h1521 e1522 f1523 => ?_
              obtain rfl := h1521
              refine deps_cons rfl rfl fun x1524 y1525 h1526 e1527 f1528 => ?_
              obtain ⟨s1529, A1529, n1529, c1529, rfl, z1529⟩ := h1526
              have z1529 := z1529.ext f1528
              refine deps_nil ?_
              refine wl_call rfl rfl (vs := [.agg #[.bool sb, .slice Ab nb cb], .agg #[.bool s1529, .slice A1529 n1529 c1529]]) (by kernel_rfl) (by decide) (g_zint_Cmp (hm.ext hw18) (Nat.le_trans lb (by decide)) z1529.zi (z1529.le (Nat.le_trans L1490 (by decide)))) ?_
              rintro _ v1530 ⟨xr1532, rfl, r1532, e1531⟩
              refine ret_intro ?_
              have hw19 : Ext w v1530 := hw18.trans e1531
              obtain rfl := r1532
              exact pi_done rfl e1531 rfl
            · -- 5
              intro v1533 e1534
              have hw18 : Ext w v1533 := hw17.trans e1534
              refine deps_cons rfl rfl fun x1535 y1536 h1537 e1538 f1539 => ?_
              obtain rfl := h1537
              refine deps_nil ?_
              refine wl_cmp rfl rfl rfl false (scmp_le_f (by omega)) (by decide) ?_
              exact pi_done rfl (Ext.refl _) rfl
            · -- 6
              intro v1540 e1541
              have hw18 : Ext w v1540 := hw17.trans e1541
              refine deps_cons rfl rfl fun x1542 y1543 h1544 e1545 f1546 => ?_
              obtain rfl := h1544
              refine deps_nil ?_
              refine wl_move rfl rfl (by decide) ?_
              exact pi_done rfl (Ext.refl _) rfl
            · -- 7
              intro v1547 e1548
              have hw18 : Ext w v1547 := hw17.trans e1548
              refine deps_cons rfl rfl fun x1549 y1550 h1551 e1552 f1553 => ?_
              obtain rfl := h1551
              refine deps_nil ?_
              refine wl_load rfl rfl (load_agg aggInt (((((((((hb9.ext (e13.trans (e35.trans (e38.trans e49)))).updN u56 (by omega)).ext (e59.trans (e63.trans e68))).updN u75 (by omega)).ext (e79.trans e84)).updN u91 (by omega)).ext (e929.trans e939)).updN u946 (by omega)).ext e1548) [.bool sb, .slice Ab nb cb] rfl (Nat.le_of_ble_eq_true rfl) rfl) (by decide) ?_
              exact pi_done rfl (Ext.refl _) rfl
            · -- 8
              intro v1554 e1555
              have hw18 : Ext w v1554 := hw17.trans e1555
              refine deps_cons rfl rfl fun x1556 y1557 h1558 e1559 f1560 => ?_
              obtain rfl := h1558
              refine deps_nil ?_
              refine wl_load rfl rfl (load_agg aggInt (((hb90.ext (e929.trans e939)).updN u946 (by omega)).ext e1555) [.bool s81, .slice A81 n81 c81] rfl (Nat.le_of_ble_eq_true rfl) rfl) (by decide) ?_
              exact pi_done rfl (Ext.refl _) rfl
            · -- 9
              intro v1561 e1562
              have hw18 : Ext w v1561 := hw17.trans e1562
              refine deps_cons rfl rfl fun x1563 y1564 h1565 e1566 f1567 => ?_
              obtain rfl := h1565
              refine deps_nil ?_
              refine wl_load rfl rfl (load_agg aggInt (((hb90.ext (e929.trans e939)).updN u946 (by omega)).ext e1562) [.bool s81, .slice A81 n81 c81] rfl (Nat.le_of_ble_eq_true rfl) rfl) (by decide) ?_
              exact pi_done rfl (Ext.refl _) rfl
            · -- 10
              intro v1568 e1569
              have hw18 : Ext w v1568 := hw17.trans e1569
              refine deps_cons rfl rfl fun x1570 y1571 h1572 e1573 f1574 => ?_
              obtain rfl := h1572
              refine deps_cons rfl rfl fun x1575 y1576 h1577 e1578 f1579 => ?_
              obtain rfl := h1577
              refine deps_cons rfl rfl fun x1580 y1581 h1582 e1583 f1584 => ?_
              obtain rfl := h1582
              refine deps_nil ?_
              have L1585 : ln ((q41 * q41) + (q41 * q41)) ≤ 2097153 := Nat.le_trans (ln_add L77 L77) (by decide)
              refine wl_call rfl rfl (vs := [.agg #[.bool s81, .slice A81 n81 c81], .agg #[.bool s81, .slice A81 n81 c81]]) (by kernel_rfl) (by decide) (g_zint_Add hw18.size (((((z81.ext e84).updT hb89 u91).ext (e929.trans e939)).updT hb944 u946).ext e1569).zi (z81.le (Nat.le_trans L77 (by decide))) (((((z81.ext e84).updT hb89 u91).ext (e929.trans e939)).updT hb944 u946).ext e1569).zi (z81.le (Nat.le_trans L77 (by decide)))) ?_
              rintro _ v1586 ⟨xr1588, rfl, r1588, e1587⟩
              refine ret_intro ?_
              have hw19 : Ext w v1586 := hw18.trans e1587
              obtain ⟨s1589, A1589, n1589, c1589, rfl, z1589⟩ := r1588
              exact pi_done rfl e1587 ⟨_, _, _, _, rfl, z1589⟩
            · -- 11
              intro v1590 e1591
              have hw18 : Ext w v1590 := hw17.trans e1591
              refine deps_cons rfl rfl fun x1592 y1593 h1594 e1595 f1596 => ?_
              obtain rfl := h1594
              refine deps_cons rfl rfl fun x1597 y1598 h1599 e1600 f1601 => ?_
              obtain rfl := h1599
              refine deps_cons rfl rfl fun x1602 y1603 h1604 e1605 f1606 => ?_
              obtain ⟨s1607, A1607, n1607, c1607, rfl, z1607⟩ := h1604
              have z1607 := z1607.ext f1606
              refine deps_nil ?_
              refine wl_call rfl rfl (vs := [.agg #[.bool sb, .slice Ab nb cb], .agg #[.bool s1607, .slice A1607 n1607 c1607]]) (by kernel_rfl) (by decide) (g_zint_Cmp (hm.ext hw18) (Nat.le_trans lb (by decide)) z1607.zi (z1607.le (Nat.le_trans L1492 (by decide)))) ?_
              rintro _ v1608 ⟨xr1610, rfl, r1610, e1609⟩
              refine ret_intro ?_
              have hw19 : Ext w v1608 := hw18.trans e1609
              obtain rfl := r1610
              exact pi_done rfl e1609 rfl
            · -- 12
              intro v1611 e1612
              have hw18 : Ext w v1611 := hw17.trans e1612
              refine deps_cons rfl rfl fun x1613 y1614 h1615 e1616 f1617 => ?_
              obtain rfl := h1615
              refine deps_cons rfl rfl fun x1618 y1619 h1620 e1621 f1622 => ?_
              obtain rfl := h1620
              refine deps_nil ?_
              refine wl_cmp rfl rfl rfl false (scmp_le_f (by omega)) (by decide) ?_
              exact pi_done rfl (Ext.refl _) rfl
            · -- 13
              intro v1623 e1624
              have hw18 : Ext w v1623 := hw17.trans e1624
              refine deps_cons rfl rfl fun x1625 y1626 h1627 e1628 f1629 => ?_
              obtain rfl := h1627
              refine deps_cons rfl rfl fun x1630 y1631 h1632 e1633 f1634 => ?_
              obtain rfl := h1632
              refine deps_nil ?_
              refine wl_pure rfl rfl (v := .bool false) (by decide) (by kernel_rfl) ?_
              exact pi_done rfl (Ext.refl _) rfl
            · -- 14
              intro v1635 e1636
              have hw18 : Ext w v1635 := hw17.trans e1636
              refine deps_cons rfl rfl fun x1637 y1638 h1639 e1640 f1641 => ?_
              obtain rfl := h1639
              refine deps_nil ?_
              refine wl_move rfl rfl (by decide) ?_
              exact pi_done rfl (Ext.refl _) rfl
            · -- 15
              intro v1642 e1643
              have hw18 : Ext w v1642 := hw17.trans e1643
              refine deps_cons rfl rfl fun x1644 y1645 h1646 e1647 f1648 => ?_
              obtain rfl := h1646
              refine deps_nil ?_
              refine wl_move rfl rfl (by decide) ?_
              exact pi_done rfl (Ext.refl _) rfl
            · -- 16
              intro v1649 e1650
              have hw18 : Ext w v1649 := hw17.trans e1650
              refine deps_cons rfl rfl fun x1651 y1652 h1653 e1654 f1655 => ?_
              obtain rfl := h1653
              refine deps_cons rfl rfl fun x1656 y1657 h1658 e1659 f1660 => ?_
              obtain rfl := h1658
              refine deps_nil ?_
              refine wl_pure rfl rfl (v := .bool false) (by decide) (by kernel_rfl) ?_
              exact pi_done rfl (Ext.refl _) rfl
            · -- 17
              intro v1661 e1662
              have hw18 : Ext w v1661 := hw17.trans e1662
              refine deps_cons rfl rfl fun x1663 y1664 h1665 e1666 f1667 => ?_
              obtain rfl := h1665
              refine deps_cons rfl rfl fun x1668 y1669 h1670 e1671 f1672 => ?_
              obtain rfl := h1670
              refine deps_nil ?_
              refine wl_pure rfl rfl (v := .bool false) (by decide) (by kernel_rfl) ?_
              exact pi_done rfl (Ext.refl _) rfl
            · -- all
              intro v1673 e1674
              have hw18 : Ext w v1673 := hw17.trans e1674
              refine deps_cons rfl rfl fun x1675 y1676 h1677 e1678 f1679 => ?_
              obtain rfl := h1677
              refine deps_cons rfl rfl fun x1680 y1681 h1682 e1683 f1684 => ?_
              obtain rfl := h1682
              refine deps_cons rfl rfl fun x1685 y1686 h1687 e1688 f1689 => ?_
              obtain rfl := h1687
              refine deps_cons rfl rfl fun x1690 y1691 h1692 e1693 f1694 => ?_
              obtain ⟨s1695, A1695, n1695, c1695, rfl, z1695⟩ := h1692
              have z1695 := z1695.ext f1694
              refine deps_cons rfl rfl fun x1696 y1697 h1698 e1699 f1700 => ?_
              obtain rfl := h1698
              refine deps_cons rfl rfl fun x1701 y1702 h1703 e1704 f1705 => ?_
              obtain rfl := h1703
              refine deps_cons rfl rfl fun x1706 y1707 h1708 e1709 f1710 => ?_
              obtain rfl := h1708
              refine deps_cons rfl rfl fun x1711 y1712 h1713 e1714 f1715 => ?_
              obtain rfl := h1713
              refine deps_cons rfl rfl fun x1716 y1717 h1718 e1719 f1720 => ?_
              obtain rfl := h1718
              refine deps_cons rfl rfl fun x1721 y1722 h1723 e1724 f1725 => ?_
              obtain rfl := h1723
              refine deps_cons rfl rfl fun x1726 y1727 h1728 e1729 f1730 => ?_
              obtain ⟨s1731, A1731, n1731, c1731, rfl, z1731⟩ := h1728
              have z1731 := z1731.ext f1730
              refine deps_cons rfl rfl fun x1732 y1733 h1734 e1735 f1736 => ?_
              obtain rfl := h1734
              refine deps_cons rfl rfl fun x1737 y1738 h1739 e1740 f1741 => ?_
              obtain rfl := h1739
              refine deps_cons rfl rfl fun x1742 y1743 h1744 e1745 f1746 => ?_
              obtain rfl := h1744
              refine deps_cons rfl rfl fun x1747 y1748 h1749 e1750 f1751 => ?_
              obtain rfl := h1749
              refine deps_cons rfl rfl fun x1752 y1753 h1754 e1755 f1756 => ?_
              obtain rfl := h1754
              refine deps_cons rfl rfl fun x1757 y1758 h1759 e1760 f1761 => ?_
              obtain rfl := h1759
              refine deps_cons rfl rfl fun x1762 y1763 h1764 e1765 f1766 => ?_
              obtain rfl := h1764
              refine deps_nil ?_
              refine wl_nil ?_
              refine eo_np ?_
              refine eo_then ?_
              refine cw_false rfl ?_
              refine cw_skip ?_
              refine eo_then ?_
              refine cw_seq ?_
              -- region 14, in whatever order
              have L1767 : ln (p40 * u931) ≤ 2097153 := Nat.le_trans (ln_mul L43 L934) (by decide)
              refine cw_draw mix 10 [7, 8] [Is (.pointer (some ⟨g47, 0, none⟩)), Is (.agg #[.bool s46, .slice A46 n46 c46]), Is (.agg #[.bool s936, .slice A936 n936 c936]), ZR w.heap.size (p40 * u931), Is (.agg #[.bool sb, .slice Ab nb cb]), T2 (FR w.heap.size (p40) (q41)) (Is (.int .i64 0)), T2 (fun v' w' => ∃ s0 A0 n0 c0 s1 A1 n1 c1, v' = .agg #[.bool s0, .slice A0 n0 c0, .bool s1, .slice A1 n1 c1] ∧ Zr w' w.heap.size s0 A0 n0 c0 (p40) ∧ Zr w' w.heap.size s1 A1 n1 c1 (q41)) (Is (.int .i64 0)), fun v' w' => ∃ s0 A0 n0 c0 s1 A1 n1 c1, v' = .agg #[.bool s0, .slice A0 n0 c0, .bool s1, .slice A1 n1 c1] ∧ Zr w' w.heap.size s0 A0 n0 c0 (p40) ∧ Zr w' w.heap.size s1 A1 n1 c1 (q41), Is (.int .i64 0), PR v1673.heap.size 29 [.bool false, .slice none 0 0, .bool false, .slice none 0 0]] [[], [0], [], [1, 2], [], [3, 4], [5], [6], [6], []] [[], [0], [], [0, 1, 2], [], [0, 1, 2, 3, 4], [0, 1, 2, 3, 4, 5], [0, 1, 2, 3, 4, 5, 6], [0, 1, 2, 3, 4, 5, 6], [], [0, 1, 2, 3, 4, 5, 6, 7, 9], [0, 1, 2, 3, 4, 5, 6, 7, 8, 9, 10]] rfl
                (obs_cons rfl rfl (hob rfl rfl ?_) (obs_cons rfl rfl (hob rfl rfl ?_) (obs_cons rfl rfl (hob rfl rfl ?_) (obs_cons rfl rfl (hob rfl rfl ?_) (obs_cons rfl rfl (hob rfl rfl ?_) (obs_cons rfl rfl (hob rfl rfl ?_) (obs_cons rfl rfl (hob rfl rfl ?_) (obs_float rfl rfl (fob rfl ?_) (obs_float rfl rfl (fob rfl ?_) (obs_cons rfl rfl (hob rfl rfl ?_) obs_nil)))))))))) ?_
              · -- 0
                intro v1776 e1777
                have hw19 : Ext w v1776 := hw18.trans e1777
                refine deps_nil ?_
                refine wl_pure rfl rfl (v := .pointer (some ⟨g47, 0, none⟩)) (by decide) (by kernel_rfl) ?_
                exact pi_done rfl (Ext.refl _) rfl
              · -- 1
                intro v1778 e1779
                have hw19 : Ext w v1778 := hw18.trans e1779
                refine deps_cons rfl rfl fun x1780 y1781 h1782 e1783 f1784 => ?_
                obtain rfl := h1782
                refine deps_nil ?_
                refine wl_load rfl rfl (load_agg aggInt (((((((hb55.ext (e59.trans (e63.trans e68))).updN u75 (by omega)).ext (e79.trans e84)).updN u91 (by omega)).ext (e929.trans e939)).updN u946 (by omega)).ext (e1674.trans e1779)) [.bool s46, .slice A46 n46 c46] rfl (Nat.le_of_ble_eq_true rfl) rfl) (by decide) ?_
                exact pi_done rfl (Ext.refl _) rfl
              · -- 2
                intro v1785 e1786
                have hw19 : Ext w v1785 := hw18.trans e1786
                refine deps_nil ?_
                refine wl_load rfl rfl (load_agg aggInt (hb945.ext (e1674.trans e1786)) [.bool s936, .slice A936 n936 c936] rfl (Nat.le_of_ble_eq_true rfl) rfl) (by decide) ?_
                exact pi_done rfl (Ext.refl _) rfl
              · -- 3
                intro v1787 e1788
                have hw19 : Ext w v1787 := hw18.trans e1788
                refine deps_cons rfl rfl fun x1789 y1790 h1791 e1792 f1793 => ?_
                obtain rfl := h1791
                refine deps_cons rfl rfl fun x1794 y1795 h1796 e1797 f1798 => ?_
                obtain rfl := h1796
                refine deps_nil ?_
                have L1799 : ln (p40 * u931) ≤ 2097153 := Nat.le_trans (ln_mul L43 L934) (by decide)
                refine wl_call rfl rfl (vs := [.agg #[.bool s46, .slice A46 n46 c46], .agg #[.bool s936, .slice A936 n936 c936]]) (by kernel_rfl) (by decide) (g_zint_Mul hw19.size (((((((((z46.ext e49).updT hb54 u56).ext (e59.trans (e63.trans e68))).updT hb73 u75).ext (e79.trans e84)).updT hb89 u91).ext (e929.trans e939)).updT hb944 u946).ext (e1674.trans e1788)).zi (z46.le (Nat.le_trans L43 (by decide))) (((z936.ext e939).updT hb944 u946).ext (e1674.trans e1788)).zi (z936.le (Nat.le_trans L934 (by decide)))) ?_
                rintro _ v1800 ⟨xr1802, rfl, r1802, e1801⟩
                refine ret_intro ?_
                have hw20 : Ext w v1800 := hw19.trans e1801
                obtain ⟨s1803, A1803, n1803, c1803, rfl, z1803⟩ := r1802
                exact pi_done rfl e1801 ⟨_, _, _, _, rfl, z1803⟩
              · -- 4
                intro v1804 e1805
                have hw19 : Ext w v1804 := hw18.trans e1805
                refine deps_nil ?_
                refine wl_load rfl rfl (load_agg aggInt (((((((((hb9.ext (e13.trans (e35.trans (e38.trans e49)))).updN u56 (by omega)).ext (e59.trans (e63.trans e68))).updN u75 (by omega)).ext (e79.trans e84)).updN u91 (by omega)).ext (e929.trans e939)).updN u946 (by omega)).ext (e1674.trans e1805)) [.bool sb, .slice Ab nb cb] rfl (Nat.le_of_ble_eq_true rfl) rfl) (by decide) ?_
                exact pi_done rfl (Ext.refl _) rfl
              · -- 5
                intro v1806 e1807
                have hw19 : Ext w v1806 := hw18.trans e1807
                refine deps_cons rfl rfl fun x1808 y1809 h1810 e1811 f1812 => ?_
                obtain ⟨s1813, A1813, n1813, c1813, rfl, z1813⟩ := h1810
                have z1813 := z1813.ext f1812
                refine deps_cons rfl rfl fun x1814 y1815 h1816 e1817 f1818 => ?_
                obtain rfl := h1816
                refine deps_nil ?_
                refine wl_call rfl rfl (vs := [.agg #[.bool s1813, .slice A1813 n1813 c1813], .agg #[.bool sb, .slice Ab nb cb]]) (by kernel_rfl) (by decide) (g_frac_Recover hw19.size z1813.zi (z1813.le (Nat.le_trans L1767 (by decide))) (hm.ext hw19) (Nat.le_trans lb (by decide)) (sq_pos hs1) (N := p40) (D := q41) (sq_lt hs1) (sq_lt hs2) p42.pos p42.co (p933.cong hmz hg) (by exact_mod_cast hg)) ?_
                rintro _ v1819 ⟨xr1821, rfl, r1821, e1820⟩
                refine ret_intro ?_
                have hw20 : Ext w v1819 := hw19.trans e1820
                obtain ⟨a1822_0, a1822_1, rfl, r1822_0, r1822_1⟩ := r1821
                obtain ⟨s1823, A1823, n1823, c1823, t1823, B1823, m1823, d1823, rfl, z1823, y1823⟩ := r1822_0
                obtain rfl := r1822_1
                exact pi_done rfl e1820 ⟨_, _, rfl, ⟨_, _, _, _, _, _, _, _, rfl, z1823, y1823⟩, rfl⟩
              · -- 6
                intro v1824 e1825
                have hw19 : Ext w v1824 := hw18.trans e1825
                refine deps_cons rfl rfl fun x1826 y1827 h1828 e1829 f1830 => ?_
                obtain ⟨a1831_0, a1831_1, rfl, r1831_0, r1831_1⟩ := h1828
                obtain ⟨s1832, A1832, n1832, c1832, t1832, B1832, m1832, d1832, rfl, z1832, y1832⟩ := r1831_0
                obtain rfl := r1831_1
                have z1832 := z1832.ext f1830
                have y1832 := y1832.ext f1830
                refine deps_nil ?_
                refine wl_move rfl rfl (by decide) ?_
                exact pi_done rfl (Ext.refl _) ⟨_, _, rfl, ⟨_, _, _, _, _, _, _, _, rfl, z1832, y1832⟩, rfl⟩
              · -- 7
                intro v1833 e1834
                have hw19 : Ext w v1833 := hw18.trans e1834
                refine deps_cons rfl rfl fun x1835 y1836 h1837 e1838 f1839 => ?_
                obtain ⟨a1840_0, a1840_1, rfl, r1840_0, r1840_1⟩ := h1837
                obtain ⟨s1841, A1841, n1841, c1841, s1842, A1842, n1842, c1842, rfl, z1841, z1842⟩ := r1840_0
                obtain rfl := r1840_1
                have z1841 := z1841.ext f1839
                have z1842 := z1842.ext f1839
                refine deps_nil ?_
                exact ⟨.agg #[.bool s1841, .slice A1841 n1841 c1841, .bool s1842, .slice A1842 n1842 c1842], rfl, rfl, fun _ => by kernel_rfl, ⟨_, _, _, _, _, _, _, _, rfl, z1841, z1842⟩⟩
              · -- 8
                intro v1843 e1844
                have hw19 : Ext w v1843 := hw18.trans e1844
                refine deps_cons rfl rfl fun x1845 y1846 h1847 e1848 f1849 => ?_
                obtain ⟨a1850_0, a1850_1, rfl, r1850_0, r1850_1⟩ := h1847
                obtain ⟨s1851, A1851, n1851, c1851, s1852, A1852, n1852, c1852, rfl, z1851, z1852⟩ := r1850_0
                obtain rfl := r1850_1
                have z1851 := z1851.ext f1849
                have z1852 := z1852.ext f1849
                refine deps_nil ?_
                exact ⟨.int .i64 0, rfl, rfl, fun _ => by kernel_rfl, rfl⟩
              · -- 9
                intro v1853 e1854
                have hw19 : Ext w v1853 := hw18.trans e1854
                refine deps_nil ?_
                refine wl_alloc rfl (z := .agg #[.bool false, .slice none 0 0, .bool false, .slice none 0 0]) (vs := [.bool false, .slice none 0 0, .bool false, .slice none 0 0]) (fun _ => by kernel_rfl) rfl (by decide) fun g1855 v1856 nb => ?_
                exact pi_done rfl nb.ext ⟨_, rfl, by rw [← nb.at_]; exact e1854.size, nb.bk⟩
              · -- all
                intro v1857 e1858
                have hw19 : Ext w v1857 := hw18.trans e1858
                refine deps_cons rfl rfl fun x1859 y1860 h1861 e1862 f1863 => ?_
                obtain rfl := h1861
                refine deps_cons rfl rfl fun x1864 y1865 h1866 e1867 f1868 => ?_
                obtain rfl := h1866
                refine deps_cons rfl rfl fun x1869 y1870 h1871 e1872 f1873 => ?_
                obtain rfl := h1871
                refine deps_cons rfl rfl fun x1874 y1875 h1876 e1877 f1878 => ?_
                obtain ⟨s1879, A1879, n1879, c1879, rfl, z1879⟩ := h1876
                have z1879 := z1879.ext f1878
                refine deps_cons rfl rfl fun x1880 y1881 h1882 e1883 f1884 => ?_
                obtain rfl := h1882
                refine deps_cons rfl rfl fun x1885 y1886 h1887 e1888 f1889 => ?_
                obtain ⟨a1890_0, a1890_1, rfl, r1890_0, r1890_1⟩ := h1887
                obtain ⟨s1891, A1891, n1891, c1891, t1891, B1891, m1891, d1891, rfl, z1891, y1891⟩ := r1890_0
                obtain rfl := r1890_1
                have z1891 := z1891.ext f1889
                have y1891 := y1891.ext f1889
                refine deps_cons rfl rfl fun x1892 y1893 h1894 e1895 f1896 => ?_
                obtain ⟨a1897_0, a1897_1, rfl, r1897_0, r1897_1⟩ := h1894
                obtain ⟨s1898, A1898, n1898, c1898, s1899, A1899, n1899, c1899, rfl, z1898, z1899⟩ := r1897_0
                obtain rfl := r1897_1
                have z1898 := z1898.ext f1896
                have z1899 := z1899.ext f1896
                refine deps_cons rfl rfl fun x1900 y1901 h1902 e1903 f1904 => ?_
                obtain ⟨s1905, A1905, n1905, c1905, s1906, A1906, n1906, c1906, rfl, z1905, z1906⟩ := h1902
                have z1905 := z1905.ext f1904
                have z1906 := z1906.ext f1904
                refine deps_cons rfl rfl fun x1907 y1908 h1909 e1910 f1911 => ?_
                obtain rfl := h1909
                refine deps_cons rfl rfl fun x1912 y1913 h1914 e1915 f1916 => ?_
                obtain ⟨g1917, rfl, ge1919, hb1918⟩ := h1914
                have hb1918 := hb1918.ext f1916
                have q1920 : g937 < g1917 := Nat.lt_of_lt_of_le (hb945.ext e1674).lt ge1919
                have ge1919 : w.heap.size ≤ g1917 := Nat.le_trans hw18.size ge1919
                refine deps_nil ?_
                have hb1922 := hb1918
                refine wl_stored rfl rfl rfl aggFrac rfl hb1922 (Nat.le_of_ble_eq_true rfl) rfl [.bool s1905, .slice A1905 n1905 c1905, .bool s1906, .slice A1906 n1906 c1906] rfl fun v1921 hb1923 u1924 hs1925 => ?_
                have hw20 : Ext w v1921 := u1924.ext hw19 ge1919
                refine wl_assign rfl rfl (by decide) ?_
                refine wl_nil ?_
                refine eo_np ?_
                refine eo_then ?_
                refine cw_seq ?_
                -- region 15
                refine cw_region ?_
                refine wl_move rfl rfl (by decide) ?_
                refine wl_pure rfl rfl (v := .bool true) (by decide) (by kernel_rfl) ?_
                refine wl_move rfl rfl (by decide) ?_
                refine wl_load rfl rfl (load_agg aggFrac hb1923 [.bool s1905, .slice A1905 n1905 c1905, .bool s1906, .slice A1906 n1906 c1906] rfl (Nat.le_of_ble_eq_true rfl) rfl) (by decide) ?_
                refine wl_load rfl rfl (load_agg aggFrac ((((((((hb55.ext (e59.trans (e63.trans e68))).updN u75 (by omega)).ext (e79.trans e84)).updN u91 (by omega)).ext (e929.trans e939)).updN u946 (by omega)).ext (e1674.trans e1858)).updN u1924 (by omega)) [.bool s46, .slice A46 n46 c46, .bool t46, .slice B46 m46 d46] rfl (Nat.le_of_ble_eq_true rfl) rfl) (by decide) ?_
                refine wl_call rfl rfl (vs := [.agg #[.bool s1905, .slice A1905 n1905 c1905, .bool s1906, .slice A1906 n1906 c1906], .agg #[.bool s46, .slice A46 n46 c46, .bool t46, .slice B46 m46 d46]]) (by kernel_rfl) (by decide) (g_law8_like (z1905.updT hb1922 u1924) (z1905.le (Nat.le_trans L43 (by decide))) (z1906.updT hb1922 u1924) (z1906.le (Nat.le_trans L44 (by decide))) ((((((((((z46.ext e49).updT hb54 u56).ext (e59.trans (e63.trans e68))).updT hb73 u75).ext (e79.trans e84)).updT hb89 u91).ext (e929.trans e939)).updT hb944 u946).ext (e1674.trans e1858)).updT hb1922 u1924) (z46.le (Nat.le_trans L43 (by decide))) ((((((((((y46.ext e49).updT hb54 u56).ext (e59.trans (e63.trans e68))).updT hb73 u75).ext (e79.trans e84)).updT hb89 u91).ext (e929.trans e939)).updT hb944 u946).ext (e1674.trans e1858)).updT hb1922 u1924) (y46.le (Nat.le_trans L44 (by decide))) rfl rfl) ?_
                rintro _ v1926 ⟨xr1928, rfl, r1928, e1927⟩
                refine ret_intro ?_
                have hw21 : Ext w v1926 := hw20.trans e1927
                obtain rfl := r1928
                refine wl_pure rfl rfl (v := .bool true) (by decide) (by kernel_rfl) ?_
                refine wl_assign rfl rfl (by decide) ?_
                refine wl_nil ?_
                refine eo_then ?_
                refine cw_ret ?_
                refine eo_ret [.bool true] rfl ⟨rfl, trivial⟩ ?_
                exact bool_of _ _ ⟨_, rfl, rfl, hw21⟩
      ·
        -- region 11
        refine cw_region ?_
        refine wl_pure rfl rfl (v := .pointer (some ⟨g47, 2, none⟩)) (by decide) (by kernel_rfl) ?_
        refine wl_load rfl rfl (load_agg aggInt ((((hb55.ext (e59.trans (e63.trans e68))).updN u75 (by omega)).ext (e79.trans e84)).updN u91 (by omega)) [.bool t46, .slice B46 m46 d46] rfl (Nat.le_of_ble_eq_true rfl) rfl) (by decide) ?_
        refine wl_load rfl rfl (load_agg aggInt ((((((hb9.ext (e13.trans (e35.trans (e38.trans e49)))).updN u56 (by omega)).ext (e59.trans (e63.trans e68))).updN u75 (by omega)).ext (e79.trans e84)).updN u91 (by omega)) [.bool sb, .slice Ab nb cb] rfl (Nat.le_of_ble_eq_true rfl) rfl) (by decide) ?_
        refine wl_call rfl rfl (vs := [.agg #[.bool t46, .slice B46 m46 d46], .agg #[.bool sb, .slice Ab nb cb]]) (by kernel_rfl) (by decide) (g_bezout_Inverse_none hw14.size ((((((y46.ext e49).updT hb54 u56).ext (e59.trans (e63.trans e68))).updT hb73 u75).ext (e79.trans e84)).updT hb89 u91).zi (y46.le (Nat.le_trans L44 (by decide))) (hm.ext hw14) (Nat.le_trans lb (by decide)) hmz hg) ?_
        rintro _ v1929 ⟨xr1931, rfl, r1931, e1930⟩
        refine ret_intro ?_
        have hw15 : Ext w v1929 := hw14.trans e1930
        obtain ⟨a1932_0, a1932_1, rfl, r1932_0, r1932_1⟩ := r1931
        obtain ⟨s1933, A1933, n1933, c1933, rfl, z1933⟩ := r1932_0
        obtain rfl := r1932_1
        refine wl_move rfl rfl (by decide) ?_
        refine wl_pure rfl rfl (v := .agg #[.bool s1933, .slice A1933 n1933 c1933]) (by decide) (by kernel_rfl) ?_
        refine wl_pure rfl rfl (v := .int .i64 6) (by decide) (by kernel_rfl) ?_
        refine wl_alloc rfl (z := .agg #[.bool false, .slice none 0 0]) (vs := [.bool false, .slice none 0 0]) (fun _ => by kernel_rfl) rfl (by decide) fun g1934 v1935 nb => ?_
        have hb1937 := nb.bk
        have ge1938 : w.heap.size ≤ g1934 := by rw [← nb.at_]; exact hw15.size
        have q1939 : g82 < g1934 := by rw [← nb.at_]; exact (hb90.ext e1930).lt
        have e1936 := nb.ext
        clear nb
        have hw16 : Ext w v1935 := hw15.trans e1936
        have hb1941 := hb1937
        refine wl_stored rfl rfl rfl aggInt rfl hb1941 (Nat.le_of_ble_eq_true rfl) rfl [.bool s1933, .slice A1933 n1933 c1933] rfl fun v1940 hb1942 u1943 hs1944 => ?_
        have hw17 : Ext w v1940 := u1943.ext hw16 ge1938
        refine wl_assign rfl rfl (by decide) ?_
        refine wl_nil ?_
        refine eo_then ?_
        refine cw_seq ?_
        refine cw_seq ?_
        by_cases hs1 : m ≤ (p40 * p40) + (p40 * p40)
        ·
          -- region 12, in whatever order
          have L1945 : ln ((p40 * p40) + (p40 * p40)) ≤ 2097153 := Nat.le_trans (ln_add L61 L61) (by decide)
          refine cw_draw mix 18 [] [Is (.agg #[.bool sb, .slice Ab nb cb]), Is (.agg #[.bool s65, .slice A65 n65 c65]), Is (.agg #[.bool s65, .slice A65 n65 c65]), ZR w.heap.size ((p40 * p40) + (p40 * p40)), Is (.int .i64 (scmp m ((p40 * p40) + (p40 * p40)))), Is (.bool true), Is (.bool true), Is (undef), Is (undef), Is (undef), Is (undef), Is (undef), Is (undef), Is (.bool true), Is (.bool true), Is (undef), Is (undef), Is (.bool true)] [[], [], [], [1, 2], [0, 3], [4], [5], [6], [6], [6], [6, 8, 9], [6, 7, 10], [6, 11], [6, 12], [13], [14], [14, 15], [14, 16]] [[], [], [], [1, 2], [0, 1, 2, 3], [0, 1, 2, 3, 4], [0, 1, 2, 3, 4, 5], [0, 1, 2, 3, 4, 5, 6], [0, 1, 2, 3, 4, 5, 6], [0, 1, 2, 3, 4, 5, 6], [0, 1, 2, 3, 4, 5, 6, 8, 9], [0, 1, 2, 3, 4, 5, 6, 7, 8, 9, 10], [0, 1, 2, 3, 4, 5, 6, 7, 8, 9, 10, 11], [0, 1, 2, 3, 4, 5, 6, 7, 8, 9, 10, 11, 12], [0, 1, 2, 3, 4, 5, 6, 7, 8, 9, 10, 11, 12, 13], [0, 1, 2, 3, 4, 5, 6, 7, 8, 9, 10, 11, 12, 13, 14], [0, 1, 2, 3, 4, 5, 6, 7, 8, 9, 10, 11, 12, 13, 14, 15], [0, 1, 2, 3, 4, 5, 6, 7, 8, 9, 10, 11, 12, 13, 14, 15, 16]] rfl
            (obs_cons rfl rfl (hob rfl rfl ?_) (obs_cons rfl rfl (hob rfl rfl ?_) (obs_cons rfl rfl (hob rfl rfl ?_) (obs_cons rfl rfl (hob rfl rfl ?_) (obs_cons rfl rfl (hob rfl rfl ?_) (obs_cons rfl rfl (hob rfl rfl ?_) (obs_cons rfl rfl (hob rfl rfl ?_) (obs_cons rfl rfl (hob rfl rfl ?_) (obs_cons rfl rfl (hob rfl rfl ?_) (obs_cons rfl rfl (hob rfl rfl ?_) (obs_cons rfl rfl (hob rfl rfl ?_) (obs_cons rfl rfl (hob rfl rfl ?_) (obs_cons rfl rfl (hob rfl rfl ?_) (obs_cons rfl rfl (hob rfl rfl ?_) (obs_cons rfl rfl (hob rfl rfl ?_) (obs_cons rfl rfl (hob rfl rfl ?_) (obs_cons rfl rfl (hob rfl rfl ?_) (obs_cons rfl rfl (hob rfl rfl ?_) obs_nil)))))))))))))))))) ?_
          · -- 0
            intro v1947 e1948
            have hw18 : Ext w v1947 := hw17.trans e1948
            refine deps_nil ?_
            refine wl_load rfl rfl (load_agg aggInt (((((((((hb9.ext (e13.trans (e35.trans (e38.trans e49)))).updN u56 (by omega)).ext (e59.trans (e63.trans e68))).updN u75 (by omega)).ext (e79.trans e84)).updN u91 (by omega)).ext (e1930.trans e1936)).updN u1943 (by omega)).ext e1948) [.bool sb, .slice Ab nb cb] rfl (Nat.le_of_ble_eq_true rfl) rfl) (by decide) ?_
            exact pi_done rfl (Ext.refl _) rfl
          · -- 1
            intro v1949 e1950
            have hw18 : Ext w v1949 := hw17.trans e1950
            refine deps_nil ?_
            refine wl_load rfl rfl (load_agg aggInt (((((hb74.ext (e79.trans e84)).updN u91 (by omega)).ext (e1930.trans e1936)).updN u1943 (by omega)).ext e1950) [.bool s65, .slice A65 n65 c65] rfl (Nat.le_of_ble_eq_true rfl) rfl) (by decide) ?_
            exact pi_done rfl (Ext.refl _) rfl
          · -- 2
            intro v1951 e1952
            have hw18 : Ext w v1951 := hw17.trans e1952
            refine deps_nil ?_
            refine wl_load rfl rfl (load_agg aggInt (((((hb74.ext (e79.trans e84)).updN u91 (by omega)).ext (e1930.trans e1936)).updN u1943 (by omega)).ext e1952) [.bool s65, .slice A65 n65 c65] rfl (Nat.le_of_ble_eq_true rfl) rfl) (by decide) ?_
            exact pi_done rfl (Ext.refl _) rfl
          · -- 3
            intro v1953 e1954
            have hw18 : Ext w v1953 := hw17.trans e1954
            refine deps_cons rfl rfl fun x1955 y1956 h1957 e1958 f1959 => ?_
            obtain rfl := h1957
            refine deps_cons rfl rfl fun x1960 y1961 h1962 e1963 f1964 => ?_
            obtain rfl := h1962
            refine deps_nil ?_
            have L1965 : ln ((p40 * p40) + (p40 * p40)) ≤ 2097153 := Nat.le_trans (ln_add L61 L61) (by decide)
            refine wl_call rfl rfl (vs := [.agg #[.bool s65, .slice A65 n65 c65], .agg #[.bool s65, .slice A65 n65 c65]]) (by kernel_rfl) (by decide) (g_zint_Add hw18.size (((((((z65.ext e68).updT hb73 u75).ext (e79.trans e84)).updT hb89 u91).ext (e1930.trans e1936)).updT hb1941 u1943).ext e1954).zi (z65.le (Nat.le_trans L61 (by decide))) (((((((z65.ext e68).updT hb73 u75).ext (e79.trans e84)).updT hb89 u91).ext (e1930.trans e1936)).updT hb1941 u1943).ext e1954).zi (z65.le (Nat.le_trans L61 (by decide)))) ?_
            rintro _ v1966 ⟨xr1968, rfl, r1968, e1967⟩
            refine ret_intro ?_
            have hw19 : Ext w v1966 := hw18.trans e1967
            obtain ⟨s1969, A1969, n1969, c1969, rfl, z1969⟩ := r1968
            exact pi_done rfl e1967 ⟨_, _, _, _, rfl, z1969⟩
          · -- 4
            intro v1970 e1971
            have hw18 : Ext w v1970 := hw17.trans e1971
            refine deps_cons rfl rfl fun x1972 y1973 h1974 e1975 f1976 => ?_
            obtain rfl := h1974
            refine deps_cons rfl rfl fun x1977 y1978 h1979 e1980 f1981 => ?_
            obtain ⟨s1982, A1982, n1982, c1982, rfl, z1982⟩ := h1979
            have z1982 := z1982.ext f1981
            refine deps_nil ?_
            refine wl_call rfl rfl (vs := [.agg #[.bool sb, .slice Ab nb cb], .agg #[.bool s1982, .slice A1982 n1982 c1982]]) (by kernel_rfl) (by decide) (g_zint_Cmp (hm.ext hw18) (Nat.le_trans lb (by decide)) z1982.zi (z1982.le (Nat.le_trans L1945 (by decide)))) ?_
            rintro _ v1983 ⟨xr1985, rfl, r1985, e1984⟩
            refine ret_intro ?_
            have hw19 : Ext w v1983 := hw18.trans e1984
            obtain rfl := r1985
            exact pi_done rfl e1984 rfl
          · -- 5
            intro v1986 e1987
            have hw18 : Ext w v1986 := hw17.trans e1987
            refine deps_cons rfl rfl fun x1988 y1989 h1990 e1991 f1992 => ?_
            obtain rfl := h1990
            refine deps_nil ?_
            refine wl_cmp rfl rfl rfl true (scmp_le_t hs1) (by decide) ?_
            exact pi_done rfl (Ext.refl _) rfl
          · -- 6
            intro v1993 e1994
            have hw18 : Ext w v1993 := hw17.trans e1994
            refine deps_cons rfl rfl fun x1995 y1996 h1997 e1998 f1999 => ?_
            obtain rfl := h1997
            refine deps_nil ?_
            refine wl_move rfl rfl (by decide) ?_
            exact pi_done rfl (Ext.refl _) rfl
          · -- 7
            intro v2000 e2001
            have hw18 : Ext w v2000 := hw17.trans e2001
            refine deps_cons rfl rfl fun x2002 y2003 h2004 e2005 f2006 => ?_
            obtain rfl := h2004
            refine deps_nil ?_
            refine wl_off rfl (by decide) ?_
            exact pi_done rfl (Ext.refl _) rfl
          · -- 8
            intro v2007 e2008
            have hw18 : Ext w v2007 := hw17.trans e2008
            refine deps_cons rfl rfl fun x2009 y2010 h2011 e2012 f2013 => ?_
            obtain rfl := h2011
            refine deps_nil ?_
            refine wl_off rfl (by decide) ?_
            exact pi_done rfl (Ext.refl _) rfl
          · -- 9
            intro v2014 e2015
            have hw18 : Ext w v2014 := hw17.trans e2015
            refine deps_cons rfl rfl fun x2016 y2017 h2018 e2019 f2020 => ?_
            obtain rfl := h2018
            refine deps_nil ?_
            refine wl_off rfl (by decide) ?_
            exact pi_done rfl (Ext.refl _) rfl
          · -- 10
            intro v2021 e2022
            have hw18 : Ext w v2021 := hw17.trans e2022
            refine deps_cons rfl rfl fun x2023 y2024 h2025 e2026 f2027 => ?_
            obtain rfl := h2025
            refine deps_cons rfl rfl fun x2028 y2029 h2030 e2031 f2032 => ?_
            obtain rfl := h2030
            refine deps_cons rfl rfl fun x2033 y2034 h2035 e2036 f2037 => ?_
            obtain rfl := h2035
            refine deps_nil ?_
            refine wl_off rfl (by decide) ?_
            exact pi_done rfl (Ext.refl _) rfl
          · -- 11
            intro v2038 e2039
            have hw18 : Ext w v2038 := hw17.trans e2039
            refine deps_cons rfl rfl fun x2040 y2041 h2042 e2043 f2044 => ?_
            obtain rfl := h2042
            refine deps_cons rfl rfl fun x2045 y2046 h2047 e2048 f2049 => ?_
            obtain rfl := h2047
            refine deps_cons rfl rfl fun x2050 y2051 h2052 e2053 f2054 => ?_
            obtain rfl := h2052
            refine deps_nil ?_
            refine wl_off rfl (by decide) ?_
            exact pi_done rfl (Ext.refl _) rfl
          · -- 12
            intro v2055 e2056
            have hw18 : Ext w v2055 := hw17.trans e2056
            refine deps_cons rfl rfl fun x2057 y2058 h2059 e2060 f2061 => ?_
            obtain rfl := h2059
            refine deps_cons rfl rfl fun x2062 y2063 h2064 e2065 f2066 => ?_
            obtain rfl := h2064
            refine deps_nil ?_
            refine wl_off rfl (by decide) ?_
            exact pi_done rfl (Ext.refl _) rfl
          · -- 13
            intro v2067 e2068
            have hw18 : Ext w v2067 := hw17.trans e2068
            refine deps_cons rfl rfl fun x2069 y2070 h2071 e2072 f2073 => ?_
            obtain rfl := h2071
            refine deps_cons rfl rfl fun x2074 y2075 h2076 e2077 f2078 => ?_
            obtain rfl := h2076
            refine deps_nil ?_
            refine wl_pure rfl rfl (v := .bool true) (by decide) (by kernel_rfl) ?_
            exact pi_done rfl (Ext.refl _) rfl
          · -- 14
            intro v2079 e2080
            have hw18 : Ext w v2079 := hw17.trans e2080
            refine deps_cons rfl rfl fun x2081 y2082 h2083 e2084 f2085 => ?_
            obtain rfl := h2083
            refine deps_nil ?_
            refine wl_move rfl rfl (by decide) ?_
            exact pi_done rfl (Ext.refl _) rfl
          · -- 15
            intro v2086 e2087
            have hw18 : Ext w v2086 := hw17.trans e2087
            refine deps_cons rfl rfl fun x2088 y2089 h2090 e2091 f2092 => ?_
            obtain rfl := h2090
            refine deps_nil ?_
            refine wl_off rfl (by decide) ?_
            exact pi_done rfl (Ext.refl _) rfl
          · -- 16
            intro v2093 e2094
            have hw18 : Ext w v2093 := hw17.trans e2094
            refine deps_cons rfl rfl fun x2095 y2096 h2097 e2098 f2099 => ?_
            obtain rfl := h2097
            refine deps_cons rfl rfl fun x2100 y2101 h2102 e2103 f2104 => ?_
            obtain rfl := h2102
            refine deps_nil ?_
            refine wl_off rfl (by decide) ?_
            exact pi_done rfl (Ext.refl _) rfl
          · -- 17
            intro v2105 e2106
            have hw18 : Ext w v2105 := hw17.trans e2106
            refine deps_cons rfl rfl fun x2107 y2108 h2109 e2110 f2111 => ?_
            obtain rfl := h2109
            refine deps_cons rfl rfl fun x2112 y2113 h2114 e2115 f2116 => ?_
            obtain rfl := h2114
            refine deps_nil ?_
            refine wl_pure rfl rfl (v := .bool true) (by decide) (by kernel_rfl) ?_
            exact pi_done rfl (Ext.refl _) rfl
          · -- all
            intro v2117 e2118
            have hw18 : Ext w v2117 := hw17.trans e2118
            refine deps_cons rfl rfl fun x2119 y2120 h2121 e2122 f2123 => ?_
            obtain rfl := h2121
            refine deps_cons rfl rfl fun x2124 y2125 h2126 e2127 f2128 => ?_
            obtain rfl := h2126
            refine deps_cons rfl rfl fun x2129 y2130 h2131 e2132 f2133 => ?_
            obtain rfl := h2131
            refine deps_cons rfl rfl fun x2134 y2135 h2136 e2137 f2138 => ?_
            obtain ⟨s2139, A2139, n2139, c2139, rfl, z2139⟩ := h2136
            have z2139 := z2139.ext f2138
            refine deps_cons rfl rfl fun x2140 y2141 h2142 e2143 f2144 => ?_
            obtain rfl := h2142
            refine deps_cons rfl rfl fun x2145 y2146 h2147 e2148 f2149 => ?_
            obtain rfl := h2147
            refine deps_cons rfl rfl fun x2150 y2151 h2152 e2153 f2154 => ?_
            obtain rfl := h2152
            refine deps_cons rfl rfl fun x2155 y2156 h2157 e2158 f2159 => ?_
            obtain rfl := h2157
            refine deps_cons rfl rfl fun x2160 y2161 h2162 e2163 f2164 => ?_
            obtain rfl := h2162
            refine deps_cons rfl rfl fun x2165 y2166 h2167 e2168 f2169 => ?_
            obtain rfl := h2167
            refine deps_cons rfl rfl fun x2170 y2171 h2172 e2173 f2174 => ?_
            obtain rfl := h2172
            refine deps_cons rfl rfl fun x2175 y2176 h2177 e2178 f2179 => ?_
            obtain rfl := h2177
            refine deps_cons rfl rfl fun x2180 y2181 h2182 e2183 f2184 => ?_
            obtain rfl := h2182
            refine deps_cons rfl rfl fun x2185 y2186 h2187 e2188 f2189 => ?_
            obtain rfl := h2187
            refine deps_cons rfl rfl fun x2190 y2191 h2192 e2193 f2194 => ?_
            obtain rfl := h2192
            refine deps_cons rfl rfl fun x2195 y2196 h2197 e2198 f2199 => ?_
            obtain rfl := h2197
            refine deps_cons rfl rfl fun x2200 y2201 h2202 e2203 f2204 => ?_
            obtain rfl := h2202
            refine deps_cons rfl rfl fun x2205 y2206 h2207 e2208 f2209 => ?_
            obtain rfl := h2207
            refine deps_nil ?_
            refine wl_nil ?_
            refine eo_np ?_
            refine eo_then ?_
            refine cw_true rfl ?_
            refine cw_seq ?_
            -- region 13
            refine cw_region ?_
            refine wl_assign rfl rfl (by decide) ?_
            refine wl_nil ?_
            refine eo_then ?_
            refine cw_ret ?_
            refine eo_thenR ?_
            refine eo_ret [.bool true] rfl ⟨rfl, trivial⟩ ?_
            exact bool_of _ _ ⟨_, rfl, rfl, hw18⟩
        ·
          by_cases hs2 : m ≤ (q41 * q41) + (q41 * q41)
          ·
            -- region 12, in whatever order
            have L2210 : ln ((p40 * p40) + (p40 * p40)) ≤ 2097153 := Nat.le_trans (ln_add L61 L61) (by decide)
            have L2212 : ln ((q41 * q41) + (q41 * q41)) ≤ 2097153 := Nat.le_trans (ln_add L77 L77) (by decide)
            refine cw_draw mix 18 [] [Is (.agg #[.bool sb, .slice Ab nb cb]), Is (.agg #[.bool s65, .slice A65 n65 c65]), Is (.agg #[.bool s65, .slice A65 n65 c65]), ZR w.heap.size ((p40 * p40) + (p40 * p40)), Is (.int .i64 (scmp m ((p40 * p40) + (p40 * p40)))), Is (.bool false), Is (.bool false), Is (.agg #[.bool sb, .slice Ab nb cb]), Is (.agg #[.bool s81, .slice A81 n81 c81]), Is (.agg #[.bool s81, .slice A81 n81 c81]), ZR w.heap.size ((q41 * q41) + (q41 * q41)), Is (.int .i64 (scmp m ((q41 * q41) + (q41 * q41)))), Is (.bool true), Is (.bool true), Is (.bool true), Is (undef), Is (undef), Is (.bool true)] [[], [], [], [1, 2], [0, 3], [4], [5], [6], [6], [6], [6, 8, 9], [6, 7, 10], [6, 11], [6, 12], [13], [14], [14, 15], [14, 16]] [[], [], [], [1, 2], [0, 1, 2, 3], [0, 1, 2, 3, 4], [0, 1, 2, 3, 4, 5], [0, 1, 2, 3, 4, 5, 6], [0, 1, 2, 3, 4, 5, 6], [0, 1, 2, 3, 4, 5, 6], [0, 1, 2, 3, 4, 5, 6, 8, 9], [0, 1, 2, 3, 4, 5, 6, 7, 8, 9, 10], [0, 1, 2, 3, 4, 5, 6, 7, 8, 9, 10, 11], [0, 1, 2, 3, 4, 5, 6, 7, 8, 9, 10, 11, 12], [0, 1, 2, 3, 4, 5, 6, 7, 8, 9, 10, 11, 12, 13], [0, 1, 2, 3, 4, 5, 6, 7, 8, 9, 10, 11, 12, 13, 14], [0, 1, 2, 3, 4, 5, 6, 7, 8, 9, 10, 11, 12, 13, 14, 15], [0, 1, 2, 3, 4, 5, 6, 7, 8, 9, 10, 11, 12, 13, 14, 15, 16]] rfl
              (obs_cons rfl rfl (hob rfl rfl ?_) (obs_cons rfl rfl (hob rfl rfl ?_) (obs_cons rfl rfl (hob rfl rfl ?_) (obs_cons rfl rfl (hob rfl rfl ?_) (obs_cons rfl rfl (hob rfl rfl ?_) (obs_cons rfl rfl (hob rfl rfl ?_) (obs_cons rfl rfl (hob rfl rfl ?_) (obs_cons rfl rfl (hob rfl rfl ?_) (obs_cons rfl rfl (hob rfl rfl ?_) (obs_cons rfl rfl (hob rfl rfl ?_) (obs_cons rfl rfl (hob rfl rfl ?_) (obs_cons rfl rfl (hob rfl rfl ?_) (obs_cons rfl rfl (hob rfl rfl ?_) (obs_cons rfl rfl (hob rfl rfl ?_) (obs_cons rfl rfl (hob rfl rfl ?_) (obs_cons rfl rfl (hob rfl rfl ?_) (obs_cons rfl rfl (hob rfl rfl ?_) (obs_cons rfl rfl (hob rfl rfl ?_) obs_nil)))))))))))))))))) ?_
            · -- 0
              intro v2214 e2215
              have hw18 : Ext w v2214 := hw17.trans e2215
              refine deps_nil ?_
              refine wl_load rfl rfl (load_agg aggInt (((((((((hb9.ext (e13.trans (e35.trans (e38.trans e49)))).updN u56 (by omega)).ext (e59.trans (e63.trans e68))).updN u75 (by omega)).ext (e79.trans e84)).updN u91 (by omega)).ext (e1930.trans e1936)).updN u1943 (by omega)).ext e2215) [.bool sb, .slice Ab nb cb] rfl (Nat.le_of_ble_eq_true rfl) rfl) (by decide) ?_
              exact pi_done rfl (Ext.refl _) rfl
            · -- 1
              intro v2216 e2217
              have hw18 : Ext w v2216 := hw17.trans e2217
              refine deps_nil ?_
              refine wl_load rfl rfl (load_agg aggInt (((((hb74.ext (e79.trans e84)).updN u91 (by omega)).ext (e1930.trans e1936)).updN u1943 (by omega)).ext e2217) [.bool s65, .slice A65 n65 c65] rfl (Nat.le_of_ble_eq_true rfl) rfl) (by decide) ?_
              exact pi_done rfl (Ext.refl _) rfl
            · -- 2
              intro v2218 e2219
              have hw18 : Ext w v2218 := hw17.trans e2219
              refine deps_nil ?_
              refine wl_load rfl rfl (load_agg aggInt (((((hb74.ext (e79.trans e84)).updN u91 (by omega)).ext (e1930.trans e1936)).updN u1943 (by omega)).ext e2219) [.bool s65, .slice A65 n65 c65] rfl (Nat.le_of_ble_eq_true rfl) rfl) (by decide) ?_
              exact pi_done rfl (Ext.refl _) rfl
            · -- 3
              intro v2220 e2221
              have hw18 : Ext w v2220 := hw17.trans e2221
              refine deps_cons rfl rfl fun x2222 y2223 h2224 e2225 f2226 => ?_
              obtain rfl := h2224
              refine deps_cons rfl rfl fun x2227 y2228 h2229 e2230 f2231 => ?_
              obtain rfl := h2229
              refine deps_nil ?_
              have L2232 : ln ((p40 * p40) + (p40 * p40)) ≤ 2097153 := Nat.le_trans (ln_add L61 L61) (by decide)
              refine wl_call rfl rfl (vs := [.agg #[.bool s65, .slice A65 n65 c65], .agg #[.bool s65, .slice A65 n65 c65]]) (by kernel_rfl) (by decide) (g_zint_Add hw18.size (((((((z65.ext e68).updT hb73 u75).ext (e79.trans e84)).updT hb89 u91).ext (e1930.trans e1936)).updT hb1941 u1943).ext e2221).zi (z65.le (Nat.le_trans L61 (by decide))) (((((((z65.ext e68).updT hb73 u75).ext (e79.trans e84)).updT hb89 u91).ext (e1930.trans e1936)).updT hb1941 u1943).ext e2221).zi (z65.le (Nat.le_trans L61 (by decide)))) ?_
              rintro _ v2233 ⟨xr2235, rfl, r2235, e2234⟩
              refine ret_intro ?_
              have hw19 : Ext w v2233 := hw18.trans e2234
              obtain ⟨s2236, A2236, n2236, c2236, rfl, z2236⟩ := r2235
              exact pi_done rfl e2234 ⟨_, _, _, _, rfl, z2236⟩
            · -- 4
              intro v2237 e2238
              have hw18 : Ext w v2237 := hw17.trans e2238
              refine deps_cons rfl rfl fun x2239 y2240 h2241 e2242 f2243 => ?_
              obtain rfl := h2241
              refine deps_cons rfl rfl fun x2244 y2245 h2246 e2247 f2248 => ?_
              obtain ⟨s2249, A2249, n2249, c2249, rfl, z2249⟩ := h2246
              have z2249 := z2249.ext f2248
              refine deps_nil ?_
              refine wl_call rfl rfl (vs := [.agg #[.bool sb, .slice Ab nb cb], .agg #[.bool s2249, .slice A2249 n2249 c2249]]) (by kernel_rfl) (by decide) (g_zint_Cmp (hm.ext hw18) (Nat.le_trans lb (by decide)) z2249.zi (z2249.le (Nat.le_trans L2210 (by decide)))) ?_
              rintro _ v2250 ⟨xr2252, rfl, r2252, e2251⟩
              refine ret_intro ?_
              have hw19 : Ext w v2250 := hw18.trans e2251
              obtain rfl := r2252
              exact pi_done rfl e2251 rfl
            · -- 5
              intro v2253 e2254
              have hw18 : Ext w v2253 := hw17.trans e2254
              refine deps_cons rfl rfl fun x2255 y2256 h2257 e2258 f2259 => ?_
              obtain rfl := h2257
              refine deps_nil ?_
              refine wl_cmp rfl rfl rfl false (scmp_le_f (by omega)) (by decide) ?_
              exact pi_done rfl (Ext.refl _) rfl
            · -- 6
              intro v2260 e2261
              have hw18 : Ext w v2260 := hw17.trans e2261
              refine deps_cons rfl rfl fun x2262 y2263 h2264 e2265 f2266 => ?_
              obtain rfl := h2264
              refine deps_nil ?_
              refine wl_move rfl rfl (by decide) ?_
              exact pi_done rfl (Ext.refl _) rfl
            · -- 7
              intro v2267 e2268
              have hw18 : Ext w v2267 := hw17.trans e2268
              refine deps_cons rfl rfl fun x2269 y2270 h2271 e2272 f2273 => ?_
              obtain rfl := h2271
              refine deps_nil ?_
              refine wl_load rfl rfl (load_agg aggInt (((((((((hb9.ext (e13.trans (e35.trans (e38.trans e49)))).updN u56 (by omega)).ext (e59.trans (e63.trans e68))).updN u75 (by omega)).ext (e79.trans e84)).updN u91 (by omega)).ext (e1930.trans e1936)).updN u1943 (by omega)).ext e2268) [.bool sb, .slice Ab nb cb] rfl (Nat.le_of_ble_eq_true rfl) rfl) (by decide) ?_
              exact pi_done rfl (Ext.refl _) rfl
            · -- 8
              intro v2274 e2275
              have hw18 : Ext w v2274 := hw17.trans e2275
              refine deps_cons rfl rfl fun x2276 y2277 h2278 e2279 f2280 => ?_
              obtain rfl := h2278
              refine deps_nil ?_
              refine wl_load rfl rfl (load_agg aggInt (((hb90.ext (e1930.trans e1936)).updN u1943 (by omega)).ext e2275) [.bool s81, .slice A81 n81 c81] rfl (Nat.le_of_ble_eq_true rfl) rfl) (by decide) ?_
              exact pi_done rfl (Ext.refl _) rfl
            · -- 9
              intro v2281 e2282
              have hw18 : Ext w v2281 := hw17.trans e2282
              refine deps_cons rfl rfl fun x2283 y2284 h2285 e2286 f2287 => ?_
              obtain rfl := h2285
              refine deps_nil ?_
              refine wl_load rfl rfl (load_agg aggInt (((hb90.ext (e1930.trans e1936)).updN u1943 (by omega)).ext e2282) [.bool s81, .slice A81 n81 c81] rfl (Nat.le_of_ble_eq_true rfl) rfl) (by decide) ?_
              exact pi_done rfl (Ext.refl _) rfl
            · -- 10
              intro v2288 e2289
              have hw18 : Ext w v2288 := hw17.trans e2289
              refine deps_cons rfl rfl fun x2290 y2291 h2292 e2293 f2294 => ?_
              obtain rfl := h2292
              refine deps_cons rfl rfl fun x2295 y2296 h2297 e2298 f2299 => ?_
              obtain rfl := h2297
              refine deps_cons rfl rfl fun x2300 y2301 h2302 e2303 f2304 => ?_
              obtain rfl := h2302
              refine deps_nil ?_
              have L2305 : ln ((q41 * q41) + (q41 * q41)) ≤ 2097153 := Nat.le_trans (ln_add L77 L77) (by decide)
              refine wl_call rfl rfl (vs := [.agg #[.bool s81, .slice A81 n81 c81], .agg #[.bool s81, .slice A81 n81 c81]]) (by kernel_rfl) (by decide) (g_zint_Add hw18.size (((((z81.ext e84).updT hb89 u91).ext (e1930.trans e1936)).updT hb1941 u1943).ext e2289).zi (z81.le (Nat.le_trans L77 (by decide))) (((((z81.ext e84).updT hb89 u91).ext (e1930.trans e1936)).updT hb1941 u1943).ext e2289).zi (z81.le (Nat.le_trans L77 (by decide)))) ?_
              rintro _ v2306 ⟨xr2308, rfl, r2308, e2307⟩
              refine ret_intro ?_
              have hw19 : Ext w v2306 := hw18.trans e2307
              obtain ⟨s2309, A2309, n2309, c2309, rfl, z2309⟩ := r2308
              exact pi_done rfl e2307 ⟨_, _, _, _, rfl, z2309⟩
            · -- 11
              intro v2310 e2311
              have hw18 : Ext w v2310 := hw17.trans e2311
              refine deps_cons rfl rfl fun x2312 y2313 h2314 e2315 f2316 => ?_
              obtain rfl := h2314
              refine deps_cons rfl rfl fun x2317 y2318 h2319 e2320 f2321 => ?_
              obtain rfl := h2319
              refine deps_cons rfl rfl fun x2322 y2323 h2324 e2325 f2326 => ?_
              obtain ⟨s2327, A2327, n2327, c2327, rfl, z2327⟩ := h2324
              have z2327 := z2327.ext f2326
              refine deps_nil ?_
              refine wl_call rfl rfl (vs := [.agg #[.bool sb, .slice Ab nb cb], .agg #[.bool s2327, .slice A2327 n2327 c2327]]) (by kernel_rfl) (by decide) (g_zint_Cmp (hm.ext hw18) (Nat.le_trans lb (by decide)) z2327.zi (z2327.le (Nat.le_trans L2212 (by decide)))) ?_
              rintro _ v2328 ⟨xr2330, rfl, r2330, e2329⟩
              refine ret_intro ?_
              have hw19 : Ext w v2328 := hw18.trans e2329
              obtain rfl := r2330
              exact pi_done rfl e2329 rfl
            · -- 12
              intro v2331 e2332
              have hw18 : Ext w v2331 := hw17.trans e2332
              refine deps_cons rfl rfl fun x2333 y2334 h2335 e2336 f2337 => ?_
              obtain rfl := h2335
              refine deps_cons rfl rfl fun x2338 y2339 h2340 e2341 f2342 => ?_
              obtain rfl := h2340
              refine deps_nil ?_
              refine wl_cmp rfl rfl rfl true (scmp_le_t hs2) (by decide) ?_
              exact pi_done rfl (Ext.refl _) rfl
            · -- 13
              intro v2343 e2344
              have hw18 : Ext w v2343 := hw17.trans e2344
              refine deps_cons rfl rfl fun x2345 y2346 h2347 e2348 f2349 => ?_
              obtain rfl := h2347
              refine deps_cons rfl rfl fun x2350 y2351 h2352 e2353 f2354 => ?_
              obtain rfl := h2352
              refine deps_nil ?_
              refine wl_pure rfl rfl (v := .bool true) (by decide) (by kernel_rfl) ?_
              exact pi_done rfl (Ext.refl _) rfl
            · -- 14
              intro v2355 e2356
              have hw18 : Ext w v2355 := hw17.trans e2356
              refine deps_cons rfl rfl fun x2357 y2358 h2359 e2360 f2361 => ?_
              obtain rfl := h2359
              refine deps_nil ?_
              refine wl_move rfl rfl (by decide) ?_
              exact pi_done rfl (Ext.refl _) rfl
            · -- 15
              intro v2362 e2363
              have hw18 : Ext w v2362 := hw17.trans e2363
              refine deps_cons rfl rfl fun x2364 y2365 h2366 e2367 f2368 => ?_
              obtain rfl := h2366
              refine deps_nil ?_
              refine wl_off rfl (by decide) ?_
              exact pi_done rfl (Ext.refl _) rfl
            · -- 16
              intro v2369 e2370
              have hw18 : Ext w v2369 := hw17.trans e2370
              refine deps_cons rfl rfl fun x2371 y2372 h2373 e2374 f2375 => ?_
              obtain rfl := h2373
              refine deps_cons rfl rfl fun x2376 y2377 h2378 e2379 f2380 => ?_
              obtain rfl := h2378
              refine deps_nil ?_
              refine wl_off rfl (by decide) ?_
              exact pi_done rfl (Ext.refl _) rfl
            · -- 17
              intro v2381 e2382
              have hw18 : Ext w v2381 := hw17.trans e2382
              refine deps_cons rfl rfl fun x2383 y2384 h2385 e2386 f2387 => ?_
              obtain rfl := h2385
              refine deps_cons rfl rfl fun x2388 y2389 h2390 e2391 f2392 => ?_
              obtain rfl := h2390
              refine deps_nil ?_
              refine wl_pure rfl rfl (v := .bool true) (by decide) (by kernel_rfl) ?_
              exact pi_done rfl (Ext.refl _) rfl
            · -- all
              intro v2393 e2394
              have hw18 : Ext w v2393 := hw17.trans e2394
              refine deps_cons rfl rfl fun x2395 y2396 h2397 e2398 f2399 => ?_
              obtain rfl := h2397
              refine deps_cons rfl rfl fun x2400 y2401 h2402 e2403 f2404 => ?_
              obtain rfl := h2402
              refine deps_cons rfl rfl fun x2405 y2406 h2407 e2408 f2409 => ?_
              obtain rfl := h2407
              refine deps_cons rfl rfl fun x2410 y2411 h2412 e2413 f2414 => ?_
              obtain ⟨s2415, A2415, n2415, c2415, rfl, z2415⟩ := h2412
              have z2415 := z2415.ext f2414
              refine deps_cons rfl rfl fun x2416 y2417 h2418 e2419 f2420 => ?_
              obtain rfl := h2418
              refine deps_cons rfl rfl fun x2421 y2422 h2423 e2424 f2425 => ?_
              obtain rfl := h2423
              refine deps_cons rfl rfl fun x2426 y2427 h2428 e2429 f2430 => ?_
              obtain rfl := h2428
              refine deps_cons rfl rfl fun x2431 y2432 h2433 e2434 f2435 => ?_
              obtain rfl := h2433
              refine deps_cons rfl rfl fun x2436 y2437 h2438 e2439 f2440 => ?_
              obtain rfl := h2438
              refine deps_cons rfl rfl fun x2441 y2442 h2443 e2444 f2445 => ?_
              obtain rfl := h2443
              refine deps_cons rfl rfl fun x2446 y2447 h2448 e2449 f2450 => ?_
              obtain ⟨s2451, A2451, n2451, c2451, rfl, z2451⟩ := h2448
              have z2451 := z2451.ext f2450
              refine deps_cons rfl rfl fun x2452 y2453 h2454 e2455 f2456 => ?_
              obtain rfl := h2454
              refine deps_cons rfl rfl fun x2457 y2458 h2459 e2460 f2461 => ?_
              obtain rfl := h2459
              refine deps_cons rfl rfl fun x2462 y2463 h2464 e2465 f2466 => ?_
              obtain rfl := h2464
              refine deps_cons rfl rfl fun x2467 y2468 h2469 e2470 f2471 => ?_
              obtain rfl := h2469
              refine deps_cons rfl rfl fun x2472 y2473 h2474 e2475 f2476 => ?_
              obtain rfl := h2474
              refine deps_cons rfl rfl fun x2477 y2478 h2479 e2480 f2481 => ?_
              obtain rfl := h2479
              refine deps_cons rfl rfl fun x2482 y2483 h2484 e2485 f2486 => ?_
              obtain rfl := h2484
              refine deps_nil ?_
              refine wl_nil ?_
              refine eo_np ?_
              refine eo_then ?_
              refine cw_true rfl ?_
              refine cw_seq ?_
              -- region 13
              refine cw_region ?_
              refine wl_assign rfl rfl (by decide) ?_
              refine wl_nil ?_
              refine eo_then ?_
              refine cw_ret ?_
              refine eo_thenR ?_
              refine eo_ret [.bool true] rfl ⟨rfl, trivial⟩ ?_
              exact bool_of _ _ ⟨_, rfl, rfl, hw18⟩
          ·
            -- region 12, in whatever order
            have L2487 : ln ((p40 * p40) + (p40 * p40)) ≤ 2097153 := Nat.le_trans (ln_add L61 L61) (by decide)
            have L2489 : ln ((q41 * q41) + (q41 * q41)) ≤ 2097153 := Nat.le_trans (ln_add L77 L77) (by decide)
            refine cw_draw mix 18 [] [Is (.agg #[.bool sb, .slice Ab nb cb]), Is (.agg #[.bool s65, .slice A65 n65 c65]), Is (.agg #[.bool s65, .slice A65 n65 c65]), ZR w.heap.size ((p40 * p40) + (p40 * p40)), Is (.int .i64 (scmp m ((p40 * p40) + (p40 * p40)))), Is (.bool false), Is (.bool false), Is (.agg #[.bool sb, .slice Ab nb cb]), Is (.agg #[.bool s81, .slice A81 n81 c81]), Is (.agg #[.bool s81, .slice A81 n81 c81]), ZR w.heap.size ((q41 * q41) + (q41 * q41)), Is (.int .i64 (scmp m ((q41 * q41) + (q41 * q41)))), Is (.bool false), Is (.bool false), Is (.bool false), Is (.int .i64 6), Is (.bool true), Is (.bool true)] [[], [], [], [1, 2], [0, 3], [4], [5], [6], [6], [6], [6, 8, 9], [6, 7, 10], [6, 11], [6, 12], [13], [14], [14, 15], [14, 16]] [[], [], [], [1, 2], [0, 1, 2, 3], [0, 1, 2, 3, 4], [0, 1, 2, 3, 4, 5], [0, 1, 2, 3, 4, 5, 6], [0, 1, 2, 3, 4, 5, 6], [0, 1, 2, 3, 4, 5, 6], [0, 1, 2, 3, 4, 5, 6, 8, 9], [0, 1, 2, 3, 4, 5, 6, 7, 8, 9, 10], [0, 1, 2, 3, 4, 5, 6, 7, 8, 9, 10, 11], [0, 1, 2, 3, 4, 5, 6, 7, 8, 9, 10, 11, 12], [0, 1, 2, 3, 4, 5, 6, 7, 8, 9, 10, 11, 12, 13], [0, 1, 2, 3, 4, 5, 6, 7, 8, 9, 10, 11, 12, 13, 14], [0, 1, 2, 3, 4, 5, 6, 7, 8, 9, 10, 11, 12, 13, 14, 15], [0, 1, 2, 3, 4, 5, 6, 7, 8, 9, 10, 11, 12, 13, 14, 15, 16]] rfl
              (obs_cons rfl rfl (hob rfl rfl ?_) (obs_cons rfl rfl (hob rfl rfl ?_) (obs_cons rfl rfl (hob rfl rfl ?_) (obs_cons rfl rfl (hob rfl rfl ?_) (obs_cons rfl rfl (hob rfl rfl ?_) (obs_cons rfl rfl (hob rfl rfl ?_) (obs_cons rfl rfl (hob rfl rfl ?_) (obs_cons rfl rfl (hob rfl rfl ?_) (obs_cons rfl rfl (hob rfl rfl ?_) (obs_cons rfl rfl (hob rfl rfl ?_) (obs_cons rfl rfl (hob rfl rfl ?_) (obs_cons rfl rfl (hob rfl rfl ?_) (obs_cons rfl rfl (hob rfl rfl ?_) (obs_cons rfl rfl (hob rfl rfl ?_) (obs_cons rfl rfl (hob rfl rfl ?_) (obs_cons rfl rfl (hob rfl rfl ?_) (obs_cons rfl rfl (hob rfl rfl ?_) (obs_cons rfl rfl (hob rfl rfl ?_) obs_nil)))))))))))))))))) ?_
            · -- 0
              intro v2491 e2492
              have hw18 : Ext w v2491 := hw17.trans e2492
              refine deps_nil ?_
              refine wl_load rfl rfl (load_agg aggInt (((((((((hb9.ext (e13.trans (e35.trans (e38.trans e49)))).updN u56 (by omega)).ext (e59.trans (e63.trans e68))).updN u75 (by omega)).ext (e79.trans e84)).updN u91 (by omega)).ext (e1930.trans e1936)).updN u1943 (by omega)).ext e2492) [.bool sb, .slice Ab nb cb] rfl (Nat.le_of_ble_eq_true rfl) rfl) (by decide) ?_
              exact pi_done rfl (Ext.refl _) rfl
            · -- 1
              intro v2493 e2494
              have hw18 : Ext w v2493 := hw17.trans e2494
              refine deps_nil ?_
              refine wl_load rfl rfl (load_agg aggInt (((((hb74.ext (e79.trans e84)).updN u91 (by omega)).ext (e1930.trans e1936)).updN u1943 (by omega)).ext e2494) [.bool s65, .slice A65 n65 c65] rfl (Nat.le_of_ble_eq_true rfl) rfl) (by decide) ?_
              exact pi_done rfl (Ext.refl _) rfl
            · -- 2
              intro v2495 e2496
              have hw18 : Ext w v2495 := hw17.trans e2496
              refine deps_nil ?_
              refine wl_load rfl rfl (load_agg aggInt (((((hb74.ext (e79.trans e84)).updN u91 (by omega)).ext (e1930.trans e1936)).updN u1943 (by omega)).ext e2496) [.bool s65, .slice A65 n65 c65] rfl (Nat.le_of_ble_eq_true rfl) rfl) (by decide) ?_
              exact pi_done rfl (Ext.refl _) rfl
            · -- 3
              intro v2497 e2498
              have hw18 : Ext w v2497 := hw17.trans e2498
              refine deps_cons rfl rfl fun x2499 y2500 h2501 e2502 f2503 => ?_
              obtain rfl := h2501
              refine deps_cons rfl rfl fun x2504 y2505 h2506 e2507 f2508 => ?_
              obtain rfl := h2506
              refine deps_nil ?_
              have L2509 : ln ((p40 * p40) + (p40 * p40)) ≤ 2097153 := Nat.le_trans (ln_add L61 L61) (by decide)
              refine wl_call rfl rfl (vs := [.agg #[.bool s65, .slice A65 n65 c65], .agg #[.bool s65, .slice A65 n65 c65]]) (by kernel_rfl) (by decide) (g_zint_Add hw18.size (((((((z65.ext e68).updT hb73 u75).ext (e79.trans e84)).updT hb89 u91).ext (e1930.trans e1936)).updT hb1941 u1943).ext e2498).zi (z65.le (Nat.le_trans L61 (by decide))) (((((((z65.ext e68).updT hb73 u75).ext (e79.trans e84)).updT hb89 u91).ext (e1930.trans e1936)).updT hb1941 u1943).ext e2498).zi (z65.le (Nat.le_trans L61 (by decide)))) ?_
              rintro _ v2510 ⟨xr2512, rfl, r2512, e2511⟩
              refine ret_intro ?_
              have hw19 : Ext w v2510 := hw18.trans e2511
              obtain ⟨s2513, A2513, n2513, c2513, rfl, z2513⟩ := r2512
              exact pi_done rfl e2511 ⟨_, _, _, _, rfl, z2513⟩
            · -- 4
              intro v2514 e2515
              have hw18 : Ext w v2514 := hw17.trans e2515
              refine deps_cons rfl rfl fun x2516 y2517 h2518 e2519 f2520 => ?_
              obtain rfl := h2518
              refine deps_cons rfl rfl fun x2521 y2522 h2523 e2524 f2525 => ?_
              obtain ⟨s2526, A2526, n2526, c2526, rfl, z2526⟩ := h2523
              have z2526 := z2526.ext f2525
              refine deps_nil ?_
              refine wl_call rfl rfl (vs := [.agg #[.bool sb, .slice Ab nb cb], .agg #[.bool s2526, .slice A2526 n2526 c2526]]) (by kernel_rfl) (by decide) (g_zint_Cmp (hm.ext hw18) (Nat.le_trans lb (by decide)) z2526.zi (z2526.le (Nat.le_trans L2487 (by decide)))) ?_
              rintro _ v2527 ⟨xr2529, rfl, r2529, e2528⟩
              refine ret_intro ?_
              have hw19 : Ext w v2527 := hw18.trans e2528
              obtain rfl := r2529
              exact pi_done rfl e2528 rfl
            · -- 5
              intro v2530 e2531
              have hw18 : Ext w v2530 := hw17.trans e2531
              refine deps_cons rfl rfl fun x2532 y2533 h2534 e2535 f2536 => ?_
              obtain rfl := h2534
              refine deps_nil ?_
              refine wl_cmp rfl rfl rfl false (scmp_le_f (by omega)) (by decide) ?_
              exact pi_done rfl (Ext.refl _) rfl
            · -- 6
              intro v2537 e2538
              have hw18 : Ext w v2537 := hw17.trans e2538
              refine deps_cons rfl rfl fun x2539 y2540 h2541 e2542 f2543 => ?_
              obtain rfl := h2541
              refine deps_nil ?_
              refine wl_move rfl rfl (by decide) ?_
              exact pi_done rfl (Ext.refl _) rfl
            · -- 7
              intro v2544 e2545
              have hw18 : Ext w v2544 := hw17.trans e2545
              refine deps_cons rfl rfl fun x2546 y2547 h2548 e2549 f2550 => ?_
              obtain rfl := h2548
              refine deps_nil ?_
              refine wl_load rfl rfl (load_agg aggInt (((((((((hb9.ext (e13.trans (e35.trans (e38.trans e49)))).updN u56 (by omega)).ext (e59.trans (e63.trans e68))).updN u75 (by omega)).ext (e79.trans e84)).updN u91 (by omega)).ext (e1930.trans e1936)).updN u1943 (by omega)).ext e2545) [.bool sb, .slice Ab nb cb] rfl (Nat.le_of_ble_eq_true rfl) rfl) (by decide) ?_
              exact pi_done rfl (Ext.refl _) rfl
            · -- 8
              intro v2551 e2552
              have hw18 : Ext w v2551 := hw17.trans e2552
              refine deps_cons rfl rfl fun x2553 y2554 h2555 e2556 f2557 => ?_
              obtain rfl := h2555
              refine deps_nil ?_
              refine wl_load rfl rfl (load_agg aggInt (((hb90.ext (e1930.trans e1936)).updN u1943 (by omega)).ext e2552) [.bool s81, .slice A81 n81 c81] rfl (Nat.le_of_ble_eq_true rfl) rfl) (by decide) ?_
              exact pi_done rfl (Ext.refl _) rfl
            · -- 9
              intro v2558 e2559
              have hw18 : Ext w v2558 := hw17.trans e2559
              refine deps_cons rfl rfl fun x2560 y2561 h2562 e2563 f2564 => ?_
              obtain rfl := h2562
              refine deps_nil ?_
              refine wl_load rfl rfl (load_agg aggInt (((hb90.ext (e1930.trans e1936)).updN u1943 (by omega)).ext e2559) [.bool s81, .slice A81 n81 c81] rfl (Nat.le_of_ble_eq_true rfl) rfl) (by decide) ?_
              exact pi_done rfl (Ext.refl _) rfl
            · -- 10
              intro v2565 e2566
              have hw18 : Ext w v2565 := hw17.trans e2566
              refine deps_cons rfl rfl fun x2567 y2568 h2569 e2570 f2571 => ?_
              obtain rfl := h2569
              refine deps_cons rfl rfl fun x2572 y2573 h2574 e2575 f2576 => ?_
              obtain rfl := h2574
              refine deps_cons rfl rfl fun x2577 y2578 h2579 e2580 f2581 => ?_
              obtain rfl := h2579
              refine deps_nil ?_
              have L2582 : ln ((q41 * q41) + (q41 * q41)) ≤ 2097153 := Nat.le_trans (ln_add L77 L77) (by decide)
              refine wl_call rfl rfl (vs := [.agg #[.bool s81, .slice A81 n81 c81], .agg #[.bool s81, .slice A81 n81 c81]]) (by kernel_rfl) (by decide) (g_zint_Add hw18.size (((((z81.ext e84).updT hb89 u91).ext (e1930.trans e1936)).updT hb1941 u1943).ext e2566).zi (z81.le (Nat.le_trans L77 (by decide))) (((((z81.ext e84).updT hb89 u91).ext (e1930.trans e1936)).updT hb1941 u1943).ext e2566).zi (z81.le (Nat.le_trans L77 (by decide)))) ?_
              rintro _ v2583 ⟨xr2585, rfl, r2585, e2584⟩
              refine ret_intro ?_
              have hw19 : Ext w v2583 := hw18.trans e2584
              obtain ⟨s2586, A2586, n2586, c2586, rfl, z2586⟩ := r2585
              exact pi_done rfl e2584 ⟨_, _, _, _, rfl, z2586⟩
            · -- 11
              intro v2587 e2588
              have hw18 : Ext w v2587 := hw17.trans e2588
              refine deps_cons rfl rfl fun x2589 y2590 h2591 e2592 f2593 => ?_
              obtain rfl := h2591
              refine deps_cons rfl rfl fun x2594 y2595 h2596 e2597 f2598 => ?_
              obtain rfl := h2596
              refine deps_cons rfl rfl fun x2599 y2600 h2601 e2602 f2603 => ?_
              obtain ⟨s2604, A2604, n2604, c2604, rfl, z2604⟩ := h2601
              have z2604 := z2604.ext f2603
              refine deps_nil ?_
              refine wl_call rfl rfl (vs := [.agg #[.bool sb, .slice Ab nb cb], .agg #[.bool s2604, .slice A2604 n2604 c2604]]) (by kernel_rfl) (by decide) (g_zint_Cmp (hm.ext hw18) (Nat.le_trans lb (by decide)) z2604.zi (z2604.le (Nat.le_trans L2489 (by decide)))) ?_
              rintro _ v2605 ⟨xr2607, rfl, r2607, e2606⟩
              refine ret_intro ?_
              have hw19 : Ext w v2605 := hw18.trans e2606
              obtain rfl := r2607
              exact pi_done rfl e2606 rfl
            · -- 12
              intro v2608 e2609
              have hw18 : Ext w v2608 := hw17.trans e2609
              refine deps_cons rfl rfl fun x2610 y2611 h2612 e2613 f2614 => ?_
              obtain rfl := h2612
              refine deps_cons rfl rfl fun x2615 y2616 h2617 e2618 f2619 => ?_
              obtain rfl := h2617
              refine deps_nil ?_
              refine wl_cmp rfl rfl rfl false (scmp_le_f (by omega)) (by decide) ?_
              exact pi_done rfl (Ext.refl _) rfl
            · -- 13
              intro v2620 e2621
              have hw18 : Ext w v2620 := hw17.trans e2621
              refine deps_cons rfl rfl fun x2622 y2623 h2624 e2625 f2626 => ?_
              obtain rfl := h2624
              refine deps_cons rfl rfl fun x2627 y2628 h2629 e2630 f2631 => ?_
              obtain rfl := h2629
              refine deps_nil ?_
              refine wl_pure rfl rfl (v := .bool false) (by decide) (by kernel_rfl) ?_
              exact pi_done rfl (Ext.refl _) rfl
            · -- 14
              intro v2632 e2633
              have hw18 : Ext w v2632 := hw17.trans e2633
              refine deps_cons rfl rfl fun x2634 y2635 h2636 e2637 f2638 => ?_
              obtain rfl := h2636
              refine deps_nil ?_
              refine wl_move rfl rfl (by decide) ?_
              exact pi_done rfl (Ext.refl _) rfl
            · -- 15
              intro v2639 e2640
              have hw18 : Ext w v2639 := hw17.trans e2640
              refine deps_cons rfl rfl fun x2641 y2642 h2643 e2644 f2645 => ?_
              obtain rfl := h2643
              refine deps_nil ?_
              refine wl_move rfl rfl (by decide) ?_
              exact pi_done rfl (Ext.refl _) rfl
            · -- 16
              intro v2646 e2647
              have hw18 : Ext w v2646 := hw17.trans e2647
              refine deps_cons rfl rfl fun x2648 y2649 h2650 e2651 f2652 => ?_
              obtain rfl := h2650
              refine deps_cons rfl rfl fun x2653 y2654 h2655 e2656 f2657 => ?_
              obtain rfl := h2655
              refine deps_nil ?_
              refine wl_pure rfl rfl (v := .bool true) (by decide) (by kernel_rfl) ?_
              exact pi_done rfl (Ext.refl _) rfl
            · -- 17
              intro v2658 e2659
              have hw18 : Ext w v2658 := hw17.trans e2659
              refine deps_cons rfl rfl fun x2660 y2661 h2662 e2663 f2664 => ?_
              obtain rfl := h2662
              refine deps_cons rfl rfl fun x2665 y2666 h2667 e2668 f2669 => ?_
              obtain rfl := h2667
              refine deps_nil ?_
              refine wl_pure rfl rfl (v := .bool true) (by decide) (by kernel_rfl) ?_
              exact pi_done rfl (Ext.refl _) rfl
            · -- all
              intro v2670 e2671
              have hw18 : Ext w v2670 := hw17.trans e2671
              refine deps_cons rfl rfl fun x2672 y2673 h2674 e2675 f2676 => ?_
              obtain rfl := h2674
              refine deps_cons rfl rfl fun x2677 y2678 h2679 e2680 f2681 => ?_
              obtain rfl := h2679
              refine deps_cons rfl rfl fun x2682 y2683 h2684 e2685 f2686 => ?_
              obtain rfl := h2684
              refine deps_cons rfl rfl fun x2687 y2688 h2689 e2690 f2691 => ?_
              obtain ⟨s2692, A2692, n2692, c2692, rfl, z2692⟩ := h2689
              have z2692 := z2692.ext f2691
              refine deps_cons rfl rfl fun x2693 y2694 h2695 e2696 f2697 => ?_
              obtain rfl := h2695
              refine deps_cons rfl rfl fun x2698 y2699 h2700 e2701 f2702 => ?_
              obtain rfl := h2700
              refine deps_cons rfl rfl fun x2703 y2704 h2705 e2706 f2707 => ?_
              obtain rfl := h2705
              refine deps_cons rfl rfl fun x2708 y2709 h2710 e2711 f2712 => ?_
              obtain rfl := h2710
              refine deps_cons rfl rfl fun x2713 y2714 h2715 e2716 f2717 => ?_
              obtain rfl := h2715
              refine deps_cons rfl rfl fun x2718 y2719 h2720 e2721 f2722 => ?_
              obtain rfl := h2720
              refine deps_cons rfl rfl fun x2723 y2724 h2725 e2726 f2727 => ?_
              obtain ⟨s2728, A2728, n2728, c2728, rfl, z2728⟩ := h2725
              have z2728 := z2728.ext f2727
              refine deps_cons rfl rfl fun x2729 y2730 h2731 e2732 f2733 => ?_
              obtain rfl := h2731
              refine deps_cons rfl rfl fun x2734 y2735 h2736 e2737 f2738 => ?_
              obtain rfl := h2736
              refine deps_cons rfl rfl fun x2739 y2740 h2741 e2742 f2743 => ?_
              obtain rfl := h2741
              refine deps_cons rfl rfl fun x2744 y2745 h2746 e2747 f2748 => ?_
              obtain rfl := h2746
              refine deps_cons rfl rfl fun x2749 y2750 h2751 e2752 f2753 => ?_
              obtain rfl := h2751
              refine deps_cons rfl rfl fun x2754 y2755 h2756 e2757 f2758 => ?_
              obtain rfl := h2756
              refine deps_cons rfl rfl fun x2759 y2760 h2761 e2762 f2763 => ?_
              obtain rfl := h2761
              refine deps_nil ?_
              refine wl_nil ?_
              refine eo_np ?_
              refine eo_then ?_
              refine cw_true rfl ?_
              refine cw_seq ?_
              -- region 13
              refine cw_region ?_
              refine wl_assign rfl rfl (by decide) ?_
              refine wl_nil ?_
              refine eo_then ?_
              refine cw_ret ?_
              refine eo_thenR ?_
              refine eo_ret [.bool true] rfl ⟨rfl, trivial⟩ ?_
              exact bool_of _ _ ⟨_, rfl, rfl, hw18⟩

end Go.Proofs.Ytmaconeeonkdgaa
