/- trellislaw06: BezoutIdentity, BezoutInverts, printed by p_law6b.py -/
import Derived.Test.YtmaconeeonkdgaaK7
namespace Go.Proofs.Ytmaconeeonkdgaa
open Go.RowKit

theorem Bez.parts {x y u v : Int} (h : Bez x y u v) (hy : y ≠ 0) : ∃ q p : Int, x = (Int.gcd x y : Int) * q ∧ y = (Int.gcd x y : Int) * p ∧ x.tdiv (Int.gcd x y : Int) = q ∧ y.tdiv (Int.gcd x y : Int) = p ∧ q * u + p * v = 1 ∧ 0 ≤ u ∧ u < p.natAbs ∧ (Int.gcd x y : Int) ≠ 0 := by
  have hg : 0 < Int.gcd x y := Int.gcd_pos_of_ne_zero_right x hy
  have hg0 : (Int.gcd x y : Int) ≠ 0 := by omega
  obtain ⟨p, hp⟩ := Int.gcd_dvd_right x y
  obtain ⟨q, hq⟩ := Int.gcd_dvd_left x y
  have e := h.eq
  have lo := h.lo hy
  have hi := h.hi hy
  refine ⟨q, p, hq, hp, ?_, ?_, ?_, lo, ?_, hg0⟩
  · conv => lhs; arg 1; rw [hq]
    exact Int.mul_tdiv_cancel_left _ hg0
  · conv => lhs; arg 1; rw [hp]
    exact Int.mul_tdiv_cancel_left _ hg0
  · refine Int.eq_of_mul_eq_mul_left hg0 ?_
    rw [Int.mul_add, ← Int.mul_assoc, ← Int.mul_assoc, ← hq, ← hp, Int.mul_one]; exact e
  · have h1 : y.natAbs = Int.gcd x y * p.natAbs := by
      conv => lhs; rw [hp]
      rw [Int.natAbs_mul, Int.natAbs_natCast]
    rw [h1] at hi
    refine Int.lt_of_mul_lt_mul_right (a := (Int.gcd x y : Int)) ?_ (by omega)
    rw [Int.natCast_mul] at hi
    rw [Int.mul_comm (p.natAbs : Int)]; exact hi
theorem Bez.inr {x y u v : Int} (h : Bez x y u v) (hy : y ≠ 0) : 0 ≤ u ∧ u < (y.tdiv (Int.gcd x y : Int)).natAbs := by
  obtain ⟨q, p, _, _, _, h4, _, h6, h7, _⟩ := h.parts hy
  rw [h4]; exact ⟨h6, h7⟩
theorem Bez.vle {x y u v : Int} (h : Bez x y u v) (hy : y ≠ 0) (hx : x ≠ 0) : v.natAbs ≤ (x.tdiv (Int.gcd x y : Int)).natAbs := by
  obtain ⟨q, p, h1, _, h3, _, h5, h6, h7, _⟩ := h.parts hy
  rw [h3]
  have hq : q ≠ 0 := fun e => hx (by rw [h1, e, Int.mul_zero])
  have h8 : (p * v).natAbs ≤ 1 + (q * u).natAbs := by omega
  rw [Int.natAbs_mul, Int.natAbs_mul] at h8
  have h9 : q.natAbs * (u.natAbs + 1) ≤ q.natAbs * p.natAbs := Nat.mul_le_mul_left _ (by omega)
  rw [Nat.mul_add, Nat.mul_one] at h9
  have h10 : p.natAbs * v.natAbs ≤ p.natAbs * q.natAbs := by rw [Nat.mul_comm p.natAbs q.natAbs]; omega
  exact Nat.le_of_mul_le_mul_left h10 (by omega)
theorem ln_lcm (x y : Int) : ln (Int.lcm x y : Int) ≤ ln x + ln y := by
  refine Nat.le_trans (ln_mono (y := x * y) ?_) (ln_mul (Nat.le_refl _) (Nat.le_refl _))
  rw [Int.natAbs_natCast]
  by_cases h : x * y = 0
  · rcases Int.mul_eq_zero.1 h with h | h <;> subst h <;> simp
  · refine Nat.le_of_dvd (by omega) ?_
    rw [Int.natAbs_mul, ← Int.gcd_mul_lcm x y]
    exact Nat.dvd_mul_left _ _
theorem lcm_zero_right {x y : Int} (h : y = 0) : (Int.lcm x y : Int) = 0 := by subst h; simp
theorem gcd_lcm (x y : Int) : (Int.gcd x y : Int) * (Int.lcm x y : Int) = ((x * y).natAbs : Int) := by
  rw [← Int.natCast_mul, Int.gcd_mul_lcm, Int.natAbs_mul]
theorem gcd_mod0r (x y : Int) : y.natAbs % (Int.gcd x y : Int).natAbs = 0 := by
  rw [Int.natAbs_natCast]
  exact Nat.mod_eq_zero_of_dvd (Int.gcd_dvd_natAbs_right x y)

set_option maxHeartbeats 4000000 in
theorem law_BezoutIdentity {w : World} {sa : Bool} {Aa : Option Addr} {na ca : Nat} {x : Int} {sb : Bool} {Ab : Option Addr} {nb cb : Nat} {y : Int} (hx : Zi w sa Aa na ca x) (la : na ≤ 1048576) (hy : Zi w sb Ab nb cb y) (lb : nb ≤ 1048576)  :
    Calls Try.prog 6 #[.agg #[.bool sa, .slice Aa na ca], .agg #[.bool sb, .slice Ab nb cb]] w (BoolP true w) := by
  have Lx : ln x ≤ 1048576 := Nat.le_trans hx.ln la
  have Ly : ln y ≤ 1048576 := Nat.le_trans hy.ln lb
  refine sx_enter Try.func6 rfl (n := 150) rfl (Nat.le_of_ble_eq_true rfl) (args := [.agg #[.bool sa, .slice Aa na ca], .agg #[.bool sb, .slice Ab nb cb]]) ?_
  refine cw_keep [(0, .agg #[.bool sa, .slice Aa na ca]), (1, .agg #[.bool sb, .slice Ab nb cb])] ⟨rfl, rfl, trivial⟩ ?_
  refine cw_seq ?_
  -- region 0
  refine cw_region ?_
  refine wl_box rfl rfl (vs := [.bool sa, .slice Aa na ca]) rfl (by decide) fun g1 v2 nb => ?_
  have hb4 := nb.bk
  have ge5 : w.heap.size ≤ g1 := by rw [← nb.at_]; exact (Ext.refl w).size
  have e3 := nb.ext
  clear nb
  have hw1 : Ext w v2 := (Ext.refl w).trans e3
  refine wl_box rfl rfl (vs := [.bool sb, .slice Ab nb cb]) rfl (by decide) fun g6 v7 nb => ?_
  have hb9 := nb.bk
  have ge10 : w.heap.size ≤ g6 := by rw [← nb.at_]; exact hw1.size
  have q11 : g1 < g6 := by rw [← nb.at_]; exact hb4.lt
  have e8 := nb.ext
  clear nb
  have hw2 : Ext w v7 := hw1.trans e8
  refine wl_assign rfl rfl (by decide) ?_
  refine wl_nil ?_
  refine eo_then ?_
  refine cw_seq ?_
  refine cw_seq ?_
  -- region 1
  refine cw_region ?_
  refine wl_call rfl rfl (vs := []) (by kernel_rfl) (by decide) (g_law6_wakes _) ?_
  rintro _ v12 ⟨xr14, rfl, r14, e13⟩
  refine ret_intro ?_
  have hw3 : Ext w v12 := hw2.trans e13
  obtain rfl := r14
  refine wl_pure rfl rfl (v := .bool false) (by decide) (by kernel_rfl) ?_
  refine wl_nil ?_
  refine eo_then ?_
  refine cw_false rfl ?_
  refine cw_skip ?_
  refine eo_then ?_
  refine cw_seq ?_
  -- region 3
  refine cw_region ?_
  refine wl_load rfl rfl (load_agg aggInt (hb4.ext (e8.trans e13)) [.bool sa, .slice Aa na ca] rfl (Nat.le_of_ble_eq_true rfl) rfl) (by decide) ?_
  refine wl_load rfl rfl (load_agg aggInt (hb9.ext e13) [.bool sb, .slice Ab nb cb] rfl (Nat.le_of_ble_eq_true rfl) rfl) (by decide) ?_
  refine wl_call rfl rfl (vs := [.agg #[.bool sa, .slice Aa na ca], .agg #[.bool sb, .slice Ab nb cb]]) (by kernel_rfl) (by decide) (g_bezout_Ext hw3.size (hx.ext hw3) (Nat.le_trans la (by decide)) (hy.ext hw3) (Nat.le_trans lb (by decide))) ?_
  rintro _ v15 ⟨u18, v19, p20, xr17, rfl, r17, e16⟩
  have L21 : ln ((Int.gcd x y : Int)) ≤ 1048576 := Nat.le_trans (ln_gcd _ _) (Nat.max_le.2 ⟨Nat.le_trans Lx (by decide), Nat.le_trans Ly (by decide)⟩)
  have L22 : ln (u18) ≤ 1048577 := (p20.ln_u Lx Ly)
  have L23 : ln (v19) ≤ 1048577 := (p20.ln_v Lx Ly)
  refine ret_intro ?_
  have hw4 : Ext w v15 := hw3.trans e16
  obtain ⟨a24_0, a24_1, a24_2, rfl, r24_0, r24_1, r24_2⟩ := r17
  obtain ⟨s25, A25, n25, c25, rfl, z25⟩ := r24_0
  obtain ⟨s26, A26, n26, c26, rfl, z26⟩ := r24_1
  obtain ⟨s27, A27, n27, c27, rfl, z27⟩ := r24_2
  refine wl_move rfl rfl (by decide) ?_
  refine wl_pure rfl rfl (v := .agg #[.bool s25, .slice A25 n25 c25]) (by decide) (by kernel_rfl) ?_
  refine wl_pure rfl rfl (v := .agg #[.bool s26, .slice A26 n26 c26]) (by decide) (by kernel_rfl) ?_
  refine wl_pure rfl rfl (v := .agg #[.bool s27, .slice A27 n27 c27]) (by decide) (by kernel_rfl) ?_
  refine wl_alloc rfl (z := .agg #[.bool false, .slice none 0 0]) (vs := [.bool false, .slice none 0 0]) (fun _ => by kernel_rfl) rfl (by decide) fun g28 v29 nb => ?_
  have hb31 := nb.bk
  have ge32 : w.heap.size ≤ g28 := by rw [← nb.at_]; exact hw4.size
  have q33 : g6 < g28 := by rw [← nb.at_]; exact (hb9.ext (e13.trans e16)).lt
  have e30 := nb.ext
  clear nb
  have hw5 : Ext w v29 := hw4.trans e30
  refine wl_alloc rfl (z := .agg #[.bool false, .slice none 0 0]) (vs := [.bool false, .slice none 0 0]) (fun _ => by kernel_rfl) rfl (by decide) fun g34 v35 nb => ?_
  have hb37 := nb.bk
  have ge38 : w.heap.size ≤ g34 := by rw [← nb.at_]; exact hw5.size
  have q39 : g28 < g34 := by rw [← nb.at_]; exact hb31.lt
  have e36 := nb.ext
  clear nb
  have hw6 : Ext w v35 := hw5.trans e36
  refine wl_alloc rfl (z := .agg #[.bool false, .slice none 0 0]) (vs := [.bool false, .slice none 0 0]) (fun _ => by kernel_rfl) rfl (by decide) fun g40 v41 nb => ?_
  have hb43 := nb.bk
  have ge44 : w.heap.size ≤ g40 := by rw [← nb.at_]; exact hw6.size
  have q45 : g34 < g40 := by rw [← nb.at_]; exact hb37.lt
  have e42 := nb.ext
  clear nb
  have hw7 : Ext w v41 := hw6.trans e42
  have hb47 := (hb31.ext (e36.trans e42))
  refine wl_stored rfl rfl rfl aggInt rfl hb47 (Nat.le_of_ble_eq_true rfl) rfl [.bool s25, .slice A25 n25 c25] rfl fun v46 hb48 u49 hs50 => ?_
  have hw8 : Ext w v46 := u49.ext hw7 ge32
  have hb52 := ((hb37.ext e42).updN u49 (by omega))
  refine wl_stored rfl rfl rfl aggInt rfl hb52 (Nat.le_of_ble_eq_true rfl) rfl [.bool s26, .slice A26 n26 c26] rfl fun v51 hb53 u54 hs55 => ?_
  have hw9 : Ext w v51 := u54.ext hw8 ge38
  have hb57 := ((hb43.updN u49 (by omega)).updN u54 (by omega))
  refine wl_stored rfl rfl rfl aggInt rfl hb57 (Nat.le_of_ble_eq_true rfl) rfl [.bool s27, .slice A27 n27 c27] rfl fun v56 hb58 u59 hs60 => ?_
  have hw10 : Ext w v56 := u59.ext hw9 ge44
  refine wl_nil ?_
  refine eo_then ?_
  refine cw_seq ?_
  -- region 4
  refine cw_region ?_
  refine wl_load rfl rfl (load_agg aggInt ((((hb4.ext (e8.trans (e13.trans (e16.trans (e30.trans (e36.trans e42)))))).updN u49 (by omega)).updN u54 (by omega)).updN u59 (by omega)) [.bool sa, .slice Aa na ca] rfl (Nat.le_of_ble_eq_true rfl) rfl) (by decide) ?_
  refine wl_load rfl rfl (load_agg aggInt ((((hb9.ext (e13.trans (e16.trans (e30.trans (e36.trans e42))))).updN u49 (by omega)).updN u54 (by omega)).updN u59 (by omega)) [.bool sb, .slice Ab nb cb] rfl (Nat.le_of_ble_eq_true rfl) rfl) (by decide) ?_
  have L61 : ln ((Int.gcd x y : Int)) ≤ 1048576 := Nat.le_trans (ln_gcd _ _) (Nat.max_le.2 ⟨Nat.le_trans Lx (by decide), Nat.le_trans Ly (by decide)⟩)
  refine wl_call rfl rfl (vs := [.agg #[.bool sa, .slice Aa na ca], .agg #[.bool sb, .slice Ab nb cb]]) (by kernel_rfl) (by decide) (g_bezout_Gcd hw10.size (hx.ext hw10) (Nat.le_trans la (by decide)) (hy.ext hw10) (Nat.le_trans lb (by decide))) ?_
  rintro _ v62 ⟨xr64, rfl, r64, e63⟩
  refine ret_intro ?_
  have hw11 : Ext w v62 := hw10.trans e63
  obtain ⟨s65, A65, n65, c65, rfl, z65⟩ := r64
  refine wl_alloc rfl (z := .agg #[.bool false, .slice none 0 0]) (vs := [.bool false, .slice none 0 0]) (fun _ => by kernel_rfl) rfl (by decide) fun g66 v67 nb => ?_
  have hb69 := nb.bk
  have ge70 : w.heap.size ≤ g66 := by rw [← nb.at_]; exact hw11.size
  have q71 : g40 < g66 := by rw [← nb.at_]; exact (hb58.ext e63).lt
  have e68 := nb.ext
  clear nb
  have hw12 : Ext w v67 := hw11.trans e68
  have hb73 := hb69
  refine wl_stored rfl rfl rfl aggInt rfl hb73 (Nat.le_of_ble_eq_true rfl) rfl [.bool s65, .slice A65 n65 c65] rfl fun v72 hb74 u75 hs76 => ?_
  have hw13 : Ext w v72 := u75.ext hw12 ge70
  refine wl_nil ?_
  refine eo_then ?_
  refine cw_seq ?_
  -- region 5
  refine cw_region ?_
  refine wl_load rfl rfl (load_agg aggInt ((((((hb4.ext (e8.trans (e13.trans (e16.trans (e30.trans (e36.trans e42)))))).updN u49 (by omega)).updN u54 (by omega)).updN u59 (by omega)).ext (e63.trans e68)).updN u75 (by omega)) [.bool sa, .slice Aa na ca] rfl (Nat.le_of_ble_eq_true rfl) rfl) (by decide) ?_
  refine wl_load rfl rfl (load_agg aggInt ((((((hb9.ext (e13.trans (e16.trans (e30.trans (e36.trans e42))))).updN u49 (by omega)).updN u54 (by omega)).updN u59 (by omega)).ext (e63.trans e68)).updN u75 (by omega)) [.bool sb, .slice Ab nb cb] rfl (Nat.le_of_ble_eq_true rfl) rfl) (by decide) ?_
  have L77 : ln ((Int.lcm x y : Int)) ≤ 2097152 := Nat.le_trans (ln_lcm _ _) (Nat.add_le_add Lx Ly)
  refine wl_call rfl rfl (vs := [.agg #[.bool sa, .slice Aa na ca], .agg #[.bool sb, .slice Ab nb cb]]) (by kernel_rfl) (by decide) (g_bezout_Lcm hw13.size (hx.ext hw13) (Nat.le_trans la (by decide)) (hy.ext hw13) (Nat.le_trans lb (by decide))) ?_
  rintro _ v78 ⟨xr80, rfl, r80, e79⟩
  refine ret_intro ?_
  have hw14 : Ext w v78 := hw13.trans e79
  obtain ⟨s81, A81, n81, c81, rfl, z81⟩ := r80
  refine wl_alloc rfl (z := .agg #[.bool false, .slice none 0 0]) (vs := [.bool false, .slice none 0 0]) (fun _ => by kernel_rfl) rfl (by decide) fun g82 v83 nb => ?_
  have hb85 := nb.bk
  have ge86 : w.heap.size ≤ g82 := by rw [← nb.at_]; exact hw14.size
  have q87 : g66 < g82 := by rw [← nb.at_]; exact (hb74.ext e79).lt
  have e84 := nb.ext
  clear nb
  have hw15 : Ext w v83 := hw14.trans e84
  have hb89 := hb85
  refine wl_stored rfl rfl rfl aggInt rfl hb89 (Nat.le_of_ble_eq_true rfl) rfl [.bool s81, .slice A81 n81 c81] rfl fun v88 hb90 u91 hs92 => ?_
  have hw16 : Ext w v88 := u91.ext hw15 ge86
  refine wl_nil ?_
  refine eo_then ?_
  refine cw_seq ?_
  refine cw_seq ?_
  -- region 6
  refine cw_region ?_
  refine wl_load rfl rfl (load_agg aggInt ((((((hb48.updN u54 (by omega)).updN u59 (by omega)).ext (e63.trans e68)).updN u75 (by omega)).ext (e79.trans e84)).updN u91 (by omega)) [.bool s25, .slice A25 n25 c25] rfl (Nat.le_of_ble_eq_true rfl) rfl) (by decide) ?_
  refine wl_call rfl rfl (vs := [.agg #[.bool s25, .slice A25 n25 c25]]) (by kernel_rfl) (by decide) (g_law6_least ((((((((z25.ext (e30.trans (e36.trans e42))).updT hb47 u49).updT hb52 u54).updT hb57 u59).ext (e63.trans e68)).updT hb73 u75).ext (e79.trans e84)).updT hb89 u91)) ?_
  rintro _ v93 ⟨xr95, rfl, r95, e94⟩
  refine ret_intro ?_
  have hw17 : Ext w v93 := hw16.trans e94
  obtain rfl := r95
  refine wl_pure rfl rfl (v := .bool false) (by decide) (by kernel_rfl) ?_
  refine wl_move rfl rfl (by decide) ?_
  refine wl_load rfl rfl (load_agg aggInt ((((((hb53.updN u59 (by omega)).ext (e63.trans e68)).updN u75 (by omega)).ext (e79.trans e84)).updN u91 (by omega)).ext e94) [.bool s26, .slice A26 n26 c26] rfl (Nat.le_of_ble_eq_true rfl) rfl) (by decide) ?_
  refine wl_call rfl rfl (vs := [.agg #[.bool s26, .slice A26 n26 c26]]) (by kernel_rfl) (by decide) (g_law6_least (((((((((z26.ext (e30.trans (e36.trans e42))).updT hb47 u49).updT hb52 u54).updT hb57 u59).ext (e63.trans e68)).updT hb73 u75).ext (e79.trans e84)).updT hb89 u91).ext e94)) ?_
  rintro _ v96 ⟨xr98, rfl, r98, e97⟩
  refine ret_intro ?_
  have hw18 : Ext w v96 := hw17.trans e97
  obtain rfl := r98
  refine wl_pure rfl rfl (v := .bool false) (by decide) (by kernel_rfl) ?_
  refine wl_pure rfl rfl (v := .bool false) (by decide) (by kernel_rfl) ?_
  refine wl_move rfl rfl (by decide) ?_
  refine wl_load rfl rfl (load_agg aggInt (((((hb58.ext (e63.trans e68)).updN u75 (by omega)).ext (e79.trans e84)).updN u91 (by omega)).ext (e94.trans e97)) [.bool s27, .slice A27 n27 c27] rfl (Nat.le_of_ble_eq_true rfl) rfl) (by decide) ?_
  refine wl_call rfl rfl (vs := [.agg #[.bool s27, .slice A27 n27 c27]]) (by kernel_rfl) (by decide) (g_law6_least (((((((((z27.ext (e30.trans (e36.trans e42))).updT hb47 u49).updT hb52 u54).updT hb57 u59).ext (e63.trans e68)).updT hb73 u75).ext (e79.trans e84)).updT hb89 u91).ext (e94.trans e97))) ?_
  rintro _ v99 ⟨xr101, rfl, r101, e100⟩
  refine ret_intro ?_
  have hw19 : Ext w v99 := hw18.trans e100
  obtain rfl := r101
  refine wl_pure rfl rfl (v := .bool false) (by decide) (by kernel_rfl) ?_
  refine wl_pure rfl rfl (v := .bool false) (by decide) (by kernel_rfl) ?_
  refine wl_move rfl rfl (by decide) ?_
  refine wl_load rfl rfl (load_agg aggInt (hb90.ext (e94.trans (e97.trans e100))) [.bool s81, .slice A81 n81 c81] rfl (Nat.le_of_ble_eq_true rfl) rfl) (by decide) ?_
  refine wl_call rfl rfl (vs := [.agg #[.bool s81, .slice A81 n81 c81]]) (by kernel_rfl) (by decide) (g_law6_least (((z81.ext e84).updT hb89 u91).ext (e94.trans (e97.trans e100)))) ?_
  rintro _ v102 ⟨xr104, rfl, r104, e103⟩
  refine ret_intro ?_
  have hw20 : Ext w v102 := hw19.trans e103
  obtain rfl := r104
  refine wl_pure rfl rfl (v := .bool false) (by decide) (by kernel_rfl) ?_
  refine wl_pure rfl rfl (v := .bool false) (by decide) (by kernel_rfl) ?_
  refine wl_move rfl rfl (by decide) ?_
  refine wl_load rfl rfl (load_agg aggInt (((((((hb48.updN u54 (by omega)).updN u59 (by omega)).ext (e63.trans e68)).updN u75 (by omega)).ext (e79.trans e84)).updN u91 (by omega)).ext (e94.trans (e97.trans (e100.trans e103)))) [.bool s25, .slice A25 n25 c25] rfl (Nat.le_of_ble_eq_true rfl) rfl) (by decide) ?_
  refine wl_load rfl rfl (load_agg aggInt (((hb74.ext (e79.trans e84)).updN u91 (by omega)).ext (e94.trans (e97.trans (e100.trans e103)))) [.bool s65, .slice A65 n65 c65] rfl (Nat.le_of_ble_eq_true rfl) rfl) (by decide) ?_
  refine wl_call rfl rfl (vs := [.agg #[.bool s25, .slice A25 n25 c25], .agg #[.bool s65, .slice A65 n65 c65]]) (by kernel_rfl) (by decide) (g_law6_alike (((((((((z25.ext (e30.trans (e36.trans e42))).updT hb47 u49).updT hb52 u54).updT hb57 u59).ext (e63.trans e68)).updT hb73 u75).ext (e79.trans e84)).updT hb89 u91).ext (e94.trans (e97.trans (e100.trans e103)))) (z25.le (Nat.le_trans L21 (by decide))) (((((z65.ext e68).updT hb73 u75).ext (e79.trans e84)).updT hb89 u91).ext (e94.trans (e97.trans (e100.trans e103)))) (z65.le (Nat.le_trans L61 (by decide)))) ?_
  rintro _ v105 ⟨xr107, rfl, r107, e106⟩
  refine ret_intro ?_
  have hw21 : Ext w v105 := hw20.trans e106
  obtain rfl := r107
  refine wl_pure rfl rfl (v := .bool false) (by decide) (by kernel_rfl) ?_
  refine wl_pure rfl rfl (v := .bool false) (by decide) (by kernel_rfl) ?_
  refine wl_move rfl rfl (by decide) ?_
  refine wl_load rfl rfl (load_agg aggInt (((((((hb48.updN u54 (by omega)).updN u59 (by omega)).ext (e63.trans e68)).updN u75 (by omega)).ext (e79.trans e84)).updN u91 (by omega)).ext (e94.trans (e97.trans (e100.trans (e103.trans e106))))) [.bool s25, .slice A25 n25 c25] rfl (Nat.le_of_ble_eq_true rfl) rfl) (by decide) ?_
  refine wl_call rfl rfl (vs := [.agg #[.bool s25, .slice A25 n25 c25]]) (by kernel_rfl) (by decide) (g_ref5_Sign (((((((((z25.ext (e30.trans (e36.trans e42))).updT hb47 u49).updT hb52 u54).updT hb57 u59).ext (e63.trans e68)).updT hb73 u75).ext (e79.trans e84)).updT hb89 u91).ext (e94.trans (e97.trans (e100.trans (e103.trans e106))))).zi (z25.le (Nat.le_trans L21 (by decide)))) ?_
  rintro _ v108 ⟨xr110, rfl, r110, e109⟩
  refine ret_intro ?_
  have hw22 : Ext w v108 := hw21.trans e109
  obtain rfl := r110
  refine wl_cmp rfl rfl rfl false (scmp_lt_f (by omega)) (by decide) ?_
  refine wl_pure rfl rfl (v := .bool false) (by decide) (by kernel_rfl) ?_
  refine wl_move rfl rfl (by decide) ?_
  refine wl_load rfl rfl (load_agg aggInt (hb90.ext (e94.trans (e97.trans (e100.trans (e103.trans (e106.trans e109)))))) [.bool s81, .slice A81 n81 c81] rfl (Nat.le_of_ble_eq_true rfl) rfl) (by decide) ?_
  refine wl_call rfl rfl (vs := [.agg #[.bool s81, .slice A81 n81 c81]]) (by kernel_rfl) (by decide) (g_ref5_Sign (((z81.ext e84).updT hb89 u91).ext (e94.trans (e97.trans (e100.trans (e103.trans (e106.trans e109)))))).zi (z81.le (Nat.le_trans L77 (by decide)))) ?_
  rintro _ v111 ⟨xr113, rfl, r113, e112⟩
  refine ret_intro ?_
  have hw23 : Ext w v111 := hw22.trans e112
  obtain rfl := r113
  refine wl_cmp rfl rfl rfl false (scmp_lt_f (by omega)) (by decide) ?_
  refine wl_pure rfl rfl (v := .bool false) (by decide) (by kernel_rfl) ?_
  refine wl_nil ?_
  refine eo_then ?_
  refine cw_false rfl ?_
  refine cw_skip ?_
  refine eo_then ?_
  refine cw_seq ?_
  refine cw_seq ?_
  -- region 8
  refine cw_region ?_
  refine wl_load rfl rfl (load_agg aggInt (((((((hb48.updN u54 (by omega)).updN u59 (by omega)).ext (e63.trans e68)).updN u75 (by omega)).ext (e79.trans e84)).updN u91 (by omega)).ext (e94.trans (e97.trans (e100.trans (e103.trans (e106.trans (e109.trans e112))))))) [.bool s25, .slice A25 n25 c25] rfl (Nat.le_of_ble_eq_true rfl) rfl) (by decide) ?_
  refine wl_load rfl rfl (load_agg aggInt (((((((((hb4.ext (e8.trans (e13.trans (e16.trans (e30.trans (e36.trans e42)))))).updN u49 (by omega)).updN u54 (by omega)).updN u59 (by omega)).ext (e63.trans e68)).updN u75 (by omega)).ext (e79.trans e84)).updN u91 (by omega)).ext (e94.trans (e97.trans (e100.trans (e103.trans (e106.trans (e109.trans e112))))))) [.bool sa, .slice Aa na ca] rfl (Nat.le_of_ble_eq_true rfl) rfl) (by decide) ?_
  refine wl_call rfl rfl (vs := [.agg #[.bool s25, .slice A25 n25 c25], .agg #[.bool sa, .slice Aa na ca]]) (by kernel_rfl) (by decide) (g_law6_divides (((((((((z25.ext (e30.trans (e36.trans e42))).updT hb47 u49).updT hb52 u54).updT hb57 u59).ext (e63.trans e68)).updT hb73 u75).ext (e79.trans e84)).updT hb89 u91).ext (e94.trans (e97.trans (e100.trans (e103.trans (e106.trans (e109.trans e112))))))).zi (z25.le (Nat.le_trans L21 (by decide))) (hx.ext hw23) (Nat.le_trans la (by decide)) (Int.gcd_dvd_left x y)) ?_
  rintro _ v114 ⟨xr116, rfl, r116, e115⟩
  refine ret_intro ?_
  have hw24 : Ext w v114 := hw23.trans e115
  obtain rfl := r116
  refine wl_pure rfl rfl (v := .bool false) (by decide) (by kernel_rfl) ?_
  refine wl_move rfl rfl (by decide) ?_
  refine wl_load rfl rfl (load_agg aggInt (((((((hb48.updN u54 (by omega)).updN u59 (by omega)).ext (e63.trans e68)).updN u75 (by omega)).ext (e79.trans e84)).updN u91 (by omega)).ext (e94.trans (e97.trans (e100.trans (e103.trans (e106.trans (e109.trans (e112.trans e115)))))))) [.bool s25, .slice A25 n25 c25] rfl (Nat.le_of_ble_eq_true rfl) rfl) (by decide) ?_
  refine wl_load rfl rfl (load_agg aggInt (((((((((hb9.ext (e13.trans (e16.trans (e30.trans (e36.trans e42))))).updN u49 (by omega)).updN u54 (by omega)).updN u59 (by omega)).ext (e63.trans e68)).updN u75 (by omega)).ext (e79.trans e84)).updN u91 (by omega)).ext (e94.trans (e97.trans (e100.trans (e103.trans (e106.trans (e109.trans (e112.trans e115)))))))) [.bool sb, .slice Ab nb cb] rfl (Nat.le_of_ble_eq_true rfl) rfl) (by decide) ?_
  refine wl_call rfl rfl (vs := [.agg #[.bool s25, .slice A25 n25 c25], .agg #[.bool sb, .slice Ab nb cb]]) (by kernel_rfl) (by decide) (g_law6_divides (((((((((z25.ext (e30.trans (e36.trans e42))).updT hb47 u49).updT hb52 u54).updT hb57 u59).ext (e63.trans e68)).updT hb73 u75).ext (e79.trans e84)).updT hb89 u91).ext (e94.trans (e97.trans (e100.trans (e103.trans (e106.trans (e109.trans (e112.trans e115)))))))).zi (z25.le (Nat.le_trans L21 (by decide))) (hy.ext hw24) (Nat.le_trans lb (by decide)) (Int.gcd_dvd_right x y)) ?_
  rintro _ v117 ⟨xr119, rfl, r119, e118⟩
  refine ret_intro ?_
  have hw25 : Ext w v117 := hw24.trans e118
  obtain rfl := r119
  refine wl_pure rfl rfl (v := .bool false) (by decide) (by kernel_rfl) ?_
  refine wl_pure rfl rfl (v := .bool false) (by decide) (by kernel_rfl) ?_
  refine wl_nil ?_
  refine eo_then ?_
  refine cw_false rfl ?_
  refine cw_skip ?_
  refine eo_then ?_
  refine cw_seq ?_
  -- region 10, in whatever order
  have L120 : ln (x * u18) ≤ 2097153 := Nat.le_trans (ln_mul Lx L22) (by decide)
  have L122 : ln (y * v19) ≤ 2097153 := Nat.le_trans (ln_mul Ly L23) (by decide)
  have L124 : ln ((x * u18) + (y * v19)) ≤ 2097154 := Nat.le_trans (ln_add L120 L122) (by decide)
  refine cw_draw mix 8 [] [Is (.agg #[.bool sa, .slice Aa na ca]), Is (.agg #[.bool s26, .slice A26 n26 c26]), ZR w.heap.size (x * u18), Is (.agg #[.bool sb, .slice Ab nb cb]), Is (.agg #[.bool s27, .slice A27 n27 c27]), ZR w.heap.size (y * v19), ZR w.heap.size ((x * u18) + (y * v19)), PR v117.heap.size 27 [.bool false, .slice none 0 0]] [[], [], [0, 1], [], [], [3, 4], [2, 5], []] [[], [], [0, 1], [], [], [0, 1, 2, 3, 4], [0, 1, 2, 3, 4, 5], [], [0, 1, 2, 3, 4, 5, 6, 7]] rfl
    (obs_cons rfl rfl (hob rfl rfl ?_) (obs_cons rfl rfl (hob rfl rfl ?_) (obs_cons rfl rfl (hob rfl rfl ?_) (obs_cons rfl rfl (hob rfl rfl ?_) (obs_cons rfl rfl (hob rfl rfl ?_) (obs_cons rfl rfl (hob rfl rfl ?_) (obs_cons rfl rfl (hob rfl rfl ?_) (obs_cons rfl rfl (hob rfl rfl ?_) obs_nil)))))))) ?_
  · -- 0
    intro v126 e127
    have hw26 : Ext w v126 := hw25.trans e127
    refine deps_nil ?_
    refine wl_load rfl rfl (load_agg aggInt (((((((((hb4.ext (e8.trans (e13.trans (e16.trans (e30.trans (e36.trans e42)))))).updN u49 (by omega)).updN u54 (by omega)).updN u59 (by omega)).ext (e63.trans e68)).updN u75 (by omega)).ext (e79.trans e84)).updN u91 (by omega)).ext (e94.trans (e97.trans (e100.trans (e103.trans (e106.trans (e109.trans (e112.trans (e115.trans (e118.trans e127)))))))))) [.bool sa, .slice Aa na ca] rfl (Nat.le_of_ble_eq_true rfl) rfl) (by decide) ?_
    exact pi_done rfl (Ext.refl _) rfl
  · -- 1
    intro v128 e129
    have hw26 : Ext w v128 := hw25.trans e129
    refine deps_nil ?_
    refine wl_load rfl rfl (load_agg aggInt ((((((hb53.updN u59 (by omega)).ext (e63.trans e68)).updN u75 (by omega)).ext (e79.trans e84)).updN u91 (by omega)).ext (e94.trans (e97.trans (e100.trans (e103.trans (e106.trans (e109.trans (e112.trans (e115.trans (e118.trans e129)))))))))) [.bool s26, .slice A26 n26 c26] rfl (Nat.le_of_ble_eq_true rfl) rfl) (by decide) ?_
    exact pi_done rfl (Ext.refl _) rfl
  · -- 2
    intro v130 e131
    have hw26 : Ext w v130 := hw25.trans e131
    refine deps_cons rfl rfl fun x132 y133 h134 e135 f136 => ?_
    obtain rfl := h134
    refine deps_cons rfl rfl fun x137 y138 h139 e140 f141 => ?_
    obtain rfl := h139
    refine deps_nil ?_
    have L142 : ln (x * u18) ≤ 2097153 := Nat.le_trans (ln_mul Lx L22) (by decide)
    refine wl_call rfl rfl (vs := [.agg #[.bool sa, .slice Aa na ca], .agg #[.bool s26, .slice A26 n26 c26]]) (by kernel_rfl) (by decide) (g_ref5_Mul hw26.size (hx.ext hw26) (Nat.le_trans la (by decide)) (((((((((z26.ext (e30.trans (e36.trans e42))).updT hb47 u49).updT hb52 u54).updT hb57 u59).ext (e63.trans e68)).updT hb73 u75).ext (e79.trans e84)).updT hb89 u91).ext (e94.trans (e97.trans (e100.trans (e103.trans (e106.trans (e109.trans (e112.trans (e115.trans (e118.trans e131)))))))))).zi (z26.le (Nat.le_trans L22 (by decide)))) ?_
    rintro _ v143 ⟨xr145, rfl, r145, e144⟩
    refine ret_intro ?_
    have hw27 : Ext w v143 := hw26.trans e144
    obtain ⟨s146, A146, n146, c146, rfl, z146⟩ := r145
    exact pi_done rfl e144 ⟨_, _, _, _, rfl, z146⟩
  · -- 3
    intro v147 e148
    have hw26 : Ext w v147 := hw25.trans e148
    refine deps_nil ?_
    refine wl_load rfl rfl (load_agg aggInt (((((((((hb9.ext (e13.trans (e16.trans (e30.trans (e36.trans e42))))).updN u49 (by omega)).updN u54 (by omega)).updN u59 (by omega)).ext (e63.trans e68)).updN u75 (by omega)).ext (e79.trans e84)).updN u91 (by omega)).ext (e94.trans (e97.trans (e100.trans (e103.trans (e106.trans (e109.trans (e112.trans (e115.trans (e118.trans e148)))))))))) [.bool sb, .slice Ab nb cb] rfl (Nat.le_of_ble_eq_true rfl) rfl) (by decide) ?_
    exact pi_done rfl (Ext.refl _) rfl
  · -- 4
    intro v149 e150
    have hw26 : Ext w v149 := hw25.trans e150
    refine deps_nil ?_
    refine wl_load rfl rfl (load_agg aggInt (((((hb58.ext (e63.trans e68)).updN u75 (by omega)).ext (e79.trans e84)).updN u91 (by omega)).ext (e94.trans (e97.trans (e100.trans (e103.trans (e106.trans (e109.trans (e112.trans (e115.trans (e118.trans e150)))))))))) [.bool s27, .slice A27 n27 c27] rfl (Nat.le_of_ble_eq_true rfl) rfl) (by decide) ?_
    exact pi_done rfl (Ext.refl _) rfl
  · -- 5
    intro v151 e152
    have hw26 : Ext w v151 := hw25.trans e152
    refine deps_cons rfl rfl fun x153 y154 h155 e156 f157 => ?_
    obtain rfl := h155
    refine deps_cons rfl rfl fun x158 y159 h160 e161 f162 => ?_
    obtain rfl := h160
    refine deps_nil ?_
    have L163 : ln (y * v19) ≤ 2097153 := Nat.le_trans (ln_mul Ly L23) (by decide)
    refine wl_call rfl rfl (vs := [.agg #[.bool sb, .slice Ab nb cb], .agg #[.bool s27, .slice A27 n27 c27]]) (by kernel_rfl) (by decide) (g_ref5_Mul hw26.size (hy.ext hw26) (Nat.le_trans lb (by decide)) (((((((((z27.ext (e30.trans (e36.trans e42))).updT hb47 u49).updT hb52 u54).updT hb57 u59).ext (e63.trans e68)).updT hb73 u75).ext (e79.trans e84)).updT hb89 u91).ext (e94.trans (e97.trans (e100.trans (e103.trans (e106.trans (e109.trans (e112.trans (e115.trans (e118.trans e152)))))))))).zi (z27.le (Nat.le_trans L23 (by decide)))) ?_
    rintro _ v164 ⟨xr166, rfl, r166, e165⟩
    refine ret_intro ?_
    have hw27 : Ext w v164 := hw26.trans e165
    obtain ⟨s167, A167, n167, c167, rfl, z167⟩ := r166
    exact pi_done rfl e165 ⟨_, _, _, _, rfl, z167⟩
  · -- 6
    intro v168 e169
    have hw26 : Ext w v168 := hw25.trans e169
    refine deps_cons rfl rfl fun x170 y171 h172 e173 f174 => ?_
    obtain ⟨s175, A175, n175, c175, rfl, z175⟩ := h172
    have z175 := z175.ext f174
    refine deps_cons rfl rfl fun x176 y177 h178 e179 f180 => ?_
    obtain ⟨s181, A181, n181, c181, rfl, z181⟩ := h178
    have z181 := z181.ext f180
    refine deps_nil ?_
    have L182 : ln ((x * u18) + (y * v19)) ≤ 2097154 := Nat.le_trans (ln_add L120 L122) (by decide)
    refine wl_call rfl rfl (vs := [.agg #[.bool s175, .slice A175 n175 c175], .agg #[.bool s181, .slice A181 n181 c181]]) (by kernel_rfl) (by decide) (g_ref5_Add hw26.size z175.zi (z175.le (Nat.le_trans L120 (by decide))) z181.zi (z181.le (Nat.le_trans L122 (by decide)))) ?_
    rintro _ v183 ⟨xr185, rfl, r185, e184⟩
    refine ret_intro ?_
    have hw27 : Ext w v183 := hw26.trans e184
    obtain ⟨s186, A186, n186, c186, rfl, z186⟩ := r185
    exact pi_done rfl e184 ⟨_, _, _, _, rfl, z186⟩
  · -- 7
    intro v187 e188
    have hw26 : Ext w v187 := hw25.trans e188
    refine deps_nil ?_
    refine wl_alloc rfl (z := .agg #[.bool false, .slice none 0 0]) (vs := [.bool false, .slice none 0 0]) (fun _ => by kernel_rfl) rfl (by decide) fun g189 v190 nb => ?_
    exact pi_done rfl nb.ext ⟨_, rfl, by rw [← nb.at_]; exact e188.size, nb.bk⟩
  · -- all
    intro v191 e192
    have hw26 : Ext w v191 := hw25.trans e192
    refine deps_cons rfl rfl fun x193 y194 h195 e196 f197 => ?_
    obtain rfl := h195
    refine deps_cons rfl rfl fun x198 y199 h200 e201 f202 => ?_
    obtain rfl := h200
    refine deps_cons rfl rfl fun x203 y204 h205 e206 f207 => ?_
    obtain ⟨s208, A208, n208, c208, rfl, z208⟩ := h205
    have z208 := z208.ext f207
    refine deps_cons rfl rfl fun x209 y210 h211 e212 f213 => ?_
    obtain rfl := h211
    refine deps_cons rfl rfl fun x214 y215 h216 e217 f218 => ?_
    obtain rfl := h216
    refine deps_cons rfl rfl fun x219 y220 h221 e222 f223 => ?_
    obtain ⟨s224, A224, n224, c224, rfl, z224⟩ := h221
    have z224 := z224.ext f223
    refine deps_cons rfl rfl fun x225 y226 h227 e228 f229 => ?_
    obtain ⟨s230, A230, n230, c230, rfl, z230⟩ := h227
    have z230 := z230.ext f229
    refine deps_cons rfl rfl fun x231 y232 h233 e234 f235 => ?_
    obtain ⟨g236, rfl, ge238, hb237⟩ := h233
    have hb237 := hb237.ext f235
    have q239 : g82 < g236 := Nat.lt_of_lt_of_le (hb90.ext (e94.trans (e97.trans (e100.trans (e103.trans (e106.trans (e109.trans (e112.trans (e115.trans e118))))))))).lt ge238
    have ge238 : w.heap.size ≤ g236 := Nat.le_trans hw25.size ge238
    refine deps_nil ?_
    have hb241 := hb237
    refine wl_stored rfl rfl rfl aggInt rfl hb241 (Nat.le_of_ble_eq_true rfl) rfl [.bool s230, .slice A230 n230 c230] rfl fun v240 hb242 u243 hs244 => ?_
    have hw27 : Ext w v240 := u243.ext hw26 ge238
    refine wl_nil ?_
    refine eo_np ?_
    refine eo_then ?_
    refine cw_seq ?_
    -- region 11
    refine cw_region ?_
    refine wl_load rfl rfl (load_agg aggInt ((((((((((hb4.ext (e8.trans (e13.trans (e16.trans (e30.trans (e36.trans e42)))))).updN u49 (by omega)).updN u54 (by omega)).updN u59 (by omega)).ext (e63.trans e68)).updN u75 (by omega)).ext (e79.trans e84)).updN u91 (by omega)).ext (e94.trans (e97.trans (e100.trans (e103.trans (e106.trans (e109.trans (e112.trans (e115.trans (e118.trans e192)))))))))).updN u243 (by omega)) [.bool sa, .slice Aa na ca] rfl (Nat.le_of_ble_eq_true rfl) rfl) (by decide) ?_
    refine wl_load rfl rfl (load_agg aggInt ((((((((((hb9.ext (e13.trans (e16.trans (e30.trans (e36.trans e42))))).updN u49 (by omega)).updN u54 (by omega)).updN u59 (by omega)).ext (e63.trans e68)).updN u75 (by omega)).ext (e79.trans e84)).updN u91 (by omega)).ext (e94.trans (e97.trans (e100.trans (e103.trans (e106.trans (e109.trans (e112.trans (e115.trans (e118.trans e192)))))))))).updN u243 (by omega)) [.bool sb, .slice Ab nb cb] rfl (Nat.le_of_ble_eq_true rfl) rfl) (by decide) ?_
    have L245 : ln (x * y) ≤ 2097152 := Nat.le_trans (ln_mul Lx Ly) (by decide)
    refine wl_call rfl rfl (vs := [.agg #[.bool sa, .slice Aa na ca], .agg #[.bool sb, .slice Ab nb cb]]) (by kernel_rfl) (by decide) (g_ref5_Mul hw27.size (hx.ext hw27) (Nat.le_trans la (by decide)) (hy.ext hw27) (Nat.le_trans lb (by decide))) ?_
    rintro _ v246 ⟨xr248, rfl, r248, e247⟩
    refine ret_intro ?_
    have hw28 : Ext w v246 := hw27.trans e247
    obtain ⟨s249, A249, n249, c249, rfl, z249⟩ := r248
    have L250 : ln ((Int.natAbs (x * y) : Int)) ≤ 2097152 := (by rw [ln_abs]; exact L245)
    refine wl_call rfl rfl (vs := [.agg #[.bool s249, .slice A249 n249 c249]]) (by kernel_rfl) (by decide) (g_ref5_Abs hw28.size z249.zi (z249.le (Nat.le_trans L245 (by decide)))) ?_
    rintro _ v251 ⟨xr253, rfl, r253, e252⟩
    refine ret_intro ?_
    have hw29 : Ext w v251 := hw28.trans e252
    obtain ⟨s254, A254, n254, c254, rfl, z254⟩ := r253
    refine wl_alloc rfl (z := .agg #[.bool false, .slice none 0 0]) (vs := [.bool false, .slice none 0 0]) (fun _ => by kernel_rfl) rfl (by decide) fun g255 v256 nb => ?_
    have hb258 := nb.bk
    have ge259 : w.heap.size ≤ g255 := by rw [← nb.at_]; exact hw29.size
    have q260 : g236 < g255 := by rw [← nb.at_]; exact (hb242.ext (e247.trans e252)).lt
    have e257 := nb.ext
    clear nb
    have hw30 : Ext w v256 := hw29.trans e257
    have hb262 := hb258
    refine wl_stored rfl rfl rfl aggInt rfl hb262 (Nat.le_of_ble_eq_true rfl) rfl [.bool s254, .slice A254 n254 c254] rfl fun v261 hb263 u264 hs265 => ?_
    have hw31 : Ext w v261 := u264.ext hw30 ge259
    refine wl_nil ?_
    refine eo_then ?_
    refine cw_seq ?_
    refine cw_seq ?_
    -- region 12, in whatever order
    have L266 : ln ((Int.gcd x y : Int) * (Int.lcm x y : Int)) ≤ 3145728 := Nat.le_trans (ln_mul L21 L77) (by decide)
    refine cw_draw mix 12 [] [Is (.agg #[.bool s230, .slice A230 n230 c230]), Is (.agg #[.bool s25, .slice A25 n25 c25]), Is (.bool true), Is (.bool false), Is (.bool false), Is (.agg #[.bool s25, .slice A25 n25 c25]), Is (.agg #[.bool s81, .slice A81 n81 c81]), ZR w.heap.size ((Int.gcd x y : Int) * (Int.lcm x y : Int)), Is (.agg #[.bool s254, .slice A254 n254 c254]), Is (.bool true), Is (.bool false), Is (.bool false)] [[], [], [0, 1], [2], [3], [4], [4], [4, 5, 6], [4], [4, 7, 8], [4, 9], [4, 10]] [[], [], [0, 1], [0, 1, 2], [0, 1, 2, 3], [0, 1, 2, 3, 4], [0, 1, 2, 3, 4], [0, 1, 2, 3, 4, 5, 6], [0, 1, 2, 3, 4], [0, 1, 2, 3, 4, 5, 6, 7, 8], [0, 1, 2, 3, 4, 5, 6, 7, 8, 9], [0, 1, 2, 3, 4, 5, 6, 7, 8, 9, 10]] rfl
      (obs_cons rfl rfl (hob rfl rfl ?_) (obs_cons rfl rfl (hob rfl rfl ?_) (obs_cons rfl rfl (hob rfl rfl ?_) (obs_cons rfl rfl (hob rfl rfl ?_) (obs_cons rfl rfl (hob rfl rfl ?_) (obs_cons rfl rfl (hob rfl rfl ?_) (obs_cons rfl rfl (hob rfl rfl ?_) (obs_cons rfl rfl (hob rfl rfl ?_) (obs_cons rfl rfl (hob rfl rfl ?_) (obs_cons rfl rfl (hob rfl rfl ?_) (obs_cons rfl rfl (hob rfl rfl ?_) (obs_cons rfl rfl (hob rfl rfl ?_) obs_nil)))))))))))) ?_
    · -- 0
      intro v268 e269
      have hw32 : Ext w v268 := hw31.trans e269
      refine deps_nil ?_
      refine wl_load rfl rfl (load_agg aggInt (((hb242.ext (e247.trans (e252.trans e257))).updN u264 (by omega)).ext e269) [.bool s230, .slice A230 n230 c230] rfl (Nat.le_of_ble_eq_true rfl) rfl) (by decide) ?_
      exact pi_done rfl (Ext.refl _) rfl
    · -- 1
      intro v270 e271
      have hw32 : Ext w v270 := hw31.trans e271
      refine deps_nil ?_
      refine wl_load rfl rfl (load_agg aggInt (((((((((((hb48.updN u54 (by omega)).updN u59 (by omega)).ext (e63.trans e68)).updN u75 (by omega)).ext (e79.trans e84)).updN u91 (by omega)).ext (e94.trans (e97.trans (e100.trans (e103.trans (e106.trans (e109.trans (e112.trans (e115.trans (e118.trans e192)))))))))).updN u243 (by omega)).ext (e247.trans (e252.trans e257))).updN u264 (by omega)).ext e271) [.bool s25, .slice A25 n25 c25] rfl (Nat.le_of_ble_eq_true rfl) rfl) (by decide) ?_
      exact pi_done rfl (Ext.refl _) rfl
    · -- 2
      intro v272 e273
      have hw32 : Ext w v272 := hw31.trans e273
      refine deps_cons rfl rfl fun x274 y275 h276 e277 f278 => ?_
      obtain rfl := h276
      refine deps_cons rfl rfl fun x279 y280 h281 e282 f283 => ?_
      obtain rfl := h281
      refine deps_nil ?_
      refine wl_call rfl rfl (vs := [.agg #[.bool s230, .slice A230 n230 c230], .agg #[.bool s25, .slice A25 n25 c25]]) (by kernel_rfl) (by decide) (g_law6_equal ((((z230.updT hb241 u243).ext (e247.trans (e252.trans e257))).updT hb262 u264).ext e273).zi (z230.le (Nat.le_trans L124 (by decide))) (((((((((((((z25.ext (e30.trans (e36.trans e42))).updT hb47 u49).updT hb52 u54).updT hb57 u59).ext (e63.trans e68)).updT hb73 u75).ext (e79.trans e84)).updT hb89 u91).ext (e94.trans (e97.trans (e100.trans (e103.trans (e106.trans (e109.trans (e112.trans (e115.trans (e118.trans e192)))))))))).updT hb241 u243).ext (e247.trans (e252.trans e257))).updT hb262 u264).ext e273).zi (z25.le (Nat.le_trans L21 (by decide))) p20.eq) ?_
      rintro _ v284 ⟨xr286, rfl, r286, e285⟩
      refine ret_intro ?_
      have hw33 : Ext w v284 := hw32.trans e285
      obtain rfl := r286
      exact pi_done rfl e285 rfl
    · -- 3
      intro v287 e288
      have hw32 : Ext w v287 := hw31.trans e288
      refine deps_cons rfl rfl fun x289 y290 h291 e292 f293 => ?_
      obtain rfl := h291
      refine deps_nil ?_
      refine wl_pure rfl rfl (v := .bool false) (by decide) (by kernel_rfl) ?_
      exact pi_done rfl (Ext.refl _) rfl
    · -- 4
      intro v294 e295
      have hw32 : Ext w v294 := hw31.trans e295
      refine deps_cons rfl rfl fun x296 y297 h298 e299 f300 => ?_
      obtain rfl := h298
      refine deps_nil ?_
      refine wl_move rfl rfl (by decide) ?_
      exact pi_done rfl (Ext.refl _) rfl
    · -- 5
      intro v301 e302
      have hw32 : Ext w v301 := hw31.trans e302
      refine deps_cons rfl rfl fun x303 y304 h305 e306 f307 => ?_
      obtain rfl := h305
      refine deps_nil ?_
      refine wl_load rfl rfl (load_agg aggInt (((((((((((hb48.updN u54 (by omega)).updN u59 (by omega)).ext (e63.trans e68)).updN u75 (by omega)).ext (e79.trans e84)).updN u91 (by omega)).ext (e94.trans (e97.trans (e100.trans (e103.trans (e106.trans (e109.trans (e112.trans (e115.trans (e118.trans e192)))))))))).updN u243 (by omega)).ext (e247.trans (e252.trans e257))).updN u264 (by omega)).ext e302) [.bool s25, .slice A25 n25 c25] rfl (Nat.le_of_ble_eq_true rfl) rfl) (by decide) ?_
      exact pi_done rfl (Ext.refl _) rfl
    · -- 6
      intro v308 e309
      have hw32 : Ext w v308 := hw31.trans e309
      refine deps_cons rfl rfl fun x310 y311 h312 e313 f314 => ?_
      obtain rfl := h312
      refine deps_nil ?_
      refine wl_load rfl rfl (load_agg aggInt (((((hb90.ext (e94.trans (e97.trans (e100.trans (e103.trans (e106.trans (e109.trans (e112.trans (e115.trans (e118.trans e192)))))))))).updN u243 (by omega)).ext (e247.trans (e252.trans e257))).updN u264 (by omega)).ext e309) [.bool s81, .slice A81 n81 c81] rfl (Nat.le_of_ble_eq_true rfl) rfl) (by decide) ?_
      exact pi_done rfl (Ext.refl _) rfl
    · -- 7
      intro v315 e316
      have hw32 : Ext w v315 := hw31.trans e316
      refine deps_cons rfl rfl fun x317 y318 h319 e320 f321 => ?_
      obtain rfl := h319
      refine deps_cons rfl rfl fun x322 y323 h324 e325 f326 => ?_
      obtain rfl := h324
      refine deps_cons rfl rfl fun x327 y328 h329 e330 f331 => ?_
      obtain rfl := h329
      refine deps_nil ?_
      have L332 : ln ((Int.gcd x y : Int) * (Int.lcm x y : Int)) ≤ 3145728 := Nat.le_trans (ln_mul L21 L77) (by decide)
      refine wl_call rfl rfl (vs := [.agg #[.bool s25, .slice A25 n25 c25], .agg #[.bool s81, .slice A81 n81 c81]]) (by kernel_rfl) (by decide) (g_ref5_Mul hw32.size (((((((((((((z25.ext (e30.trans (e36.trans e42))).updT hb47 u49).updT hb52 u54).updT hb57 u59).ext (e63.trans e68)).updT hb73 u75).ext (e79.trans e84)).updT hb89 u91).ext (e94.trans (e97.trans (e100.trans (e103.trans (e106.trans (e109.trans (e112.trans (e115.trans (e118.trans e192)))))))))).updT hb241 u243).ext (e247.trans (e252.trans e257))).updT hb262 u264).ext e316).zi (z25.le (Nat.le_trans L21 (by decide))) (((((((z81.ext e84).updT hb89 u91).ext (e94.trans (e97.trans (e100.trans (e103.trans (e106.trans (e109.trans (e112.trans (e115.trans (e118.trans e192)))))))))).updT hb241 u243).ext (e247.trans (e252.trans e257))).updT hb262 u264).ext e316).zi (z81.le (Nat.le_trans L77 (by decide)))) ?_
      rintro _ v333 ⟨xr335, rfl, r335, e334⟩
      refine ret_intro ?_
      have hw33 : Ext w v333 := hw32.trans e334
      obtain ⟨s336, A336, n336, c336, rfl, z336⟩ := r335
      exact pi_done rfl e334 ⟨_, _, _, _, rfl, z336⟩
    · -- 8
      intro v337 e338
      have hw32 : Ext w v337 := hw31.trans e338
      refine deps_cons rfl rfl fun x339 y340 h341 e342 f343 => ?_
      obtain rfl := h341
      refine deps_nil ?_
      refine wl_load rfl rfl (load_agg aggInt (hb263.ext e338) [.bool s254, .slice A254 n254 c254] rfl (Nat.le_of_ble_eq_true rfl) rfl) (by decide) ?_
      exact pi_done rfl (Ext.refl _) rfl
    · -- 9
      intro v344 e345
      have hw32 : Ext w v344 := hw31.trans e345
      refine deps_cons rfl rfl fun x346 y347 h348 e349 f350 => ?_
      obtain rfl := h348
      refine deps_cons rfl rfl fun x351 y352 h353 e354 f355 => ?_
      obtain ⟨s356, A356, n356, c356, rfl, z356⟩ := h353
      have z356 := z356.ext f355
      refine deps_cons rfl rfl fun x357 y358 h359 e360 f361 => ?_
      obtain rfl := h359
      refine deps_nil ?_
      refine wl_call rfl rfl (vs := [.agg #[.bool s356, .slice A356 n356 c356], .agg #[.bool s254, .slice A254 n254 c254]]) (by kernel_rfl) (by decide) (g_law6_equal z356.zi (z356.le (Nat.le_trans L266 (by decide))) (((z254.ext e257).updT hb262 u264).ext e345).zi (z254.le (Nat.le_trans L250 (by decide))) (gcd_lcm x y)) ?_
      rintro _ v362 ⟨xr364, rfl, r364, e363⟩
      refine ret_intro ?_
      have hw33 : Ext w v362 := hw32.trans e363
      obtain rfl := r364
      exact pi_done rfl e363 rfl
    · -- 10
      intro v365 e366
      have hw32 : Ext w v365 := hw31.trans e366
      refine deps_cons rfl rfl fun x367 y368 h369 e370 f371 => ?_
      obtain rfl := h369
      refine deps_cons rfl rfl fun x372 y373 h374 e375 f376 => ?_
      obtain rfl := h374
      refine deps_nil ?_
      refine wl_pure rfl rfl (v := .bool false) (by decide) (by kernel_rfl) ?_
      exact pi_done rfl (Ext.refl _) rfl
    · -- 11
      intro v377 e378
      have hw32 : Ext w v377 := hw31.trans e378
      refine deps_cons rfl rfl fun x379 y380 h381 e382 f383 => ?_
      obtain rfl := h381
      refine deps_cons rfl rfl fun x384 y385 h386 e387 f388 => ?_
      obtain rfl := h386
      refine deps_nil ?_
      refine wl_pure rfl rfl (v := .bool false) (by decide) (by kernel_rfl) ?_
      exact pi_done rfl (Ext.refl _) rfl
    · -- all
      intro v389 e390
      have hw32 : Ext w v389 := hw31.trans e390
      refine deps_cons rfl rfl fun x391 y392 h393 e394 f395 => ?_
      obtain rfl := h393
      refine deps_cons rfl rfl fun x396 y397 h398 e399 f400 => ?_
      obtain rfl := h398
      refine deps_cons rfl rfl fun x401 y402 h403 e404 f405 => ?_
      obtain rfl := h403
      refine deps_cons rfl rfl fun x406 y407 h408 e409 f410 => ?_
      obtain rfl := h408
      refine deps_cons rfl rfl fun x411 y412 h413 e414 f415 => ?_
      obtain rfl := h413
      refine deps_cons rfl rfl fun x416 y417 h418 e419 f420 => ?_
      obtain rfl := h418
      refine deps_cons rfl rfl fun x421 y422 h423 e424 f425 => ?_
      obtain rfl := h423
      refine deps_cons rfl rfl fun x426 y427 h428 e429 f430 => ?_
      obtain ⟨s431, A431, n431, c431, rfl, z431⟩ := h428
      have z431 := z431.ext f430
      refine deps_cons rfl rfl fun x432 y433 h434 e435 f436 => ?_
      obtain rfl := h434
      refine deps_cons rfl rfl fun x437 y438 h439 e440 f441 => ?_
      obtain rfl := h439
      refine deps_cons rfl rfl fun x442 y443 h444 e445 f446 => ?_
      obtain rfl := h444
      refine deps_cons rfl rfl fun x447 y448 h449 e450 f451 => ?_
      obtain rfl := h449
      refine deps_nil ?_
      refine wl_nil ?_
      refine eo_np ?_
      refine eo_then ?_
      refine cw_false rfl ?_
      refine cw_skip ?_
      refine eo_then ?_
      refine cw_seq ?_
      refine cw_seq ?_
      by_cases hy0 : y = 0
      ·
        -- region 14
        refine cw_region ?_
        refine wl_load rfl rfl (load_agg aggInt (((((((((((((hb9.ext (e13.trans (e16.trans (e30.trans (e36.trans e42))))).updN u49 (by omega)).updN u54 (by omega)).updN u59 (by omega)).ext (e63.trans e68)).updN u75 (by omega)).ext (e79.trans e84)).updN u91 (by omega)).ext (e94.trans (e97.trans (e100.trans (e103.trans (e106.trans (e109.trans (e112.trans (e115.trans (e118.trans e192)))))))))).updN u243 (by omega)).ext (e247.trans (e252.trans e257))).updN u264 (by omega)).ext e390) [.bool sb, .slice Ab nb cb] rfl (Nat.le_of_ble_eq_true rfl) rfl) (by decide) ?_
        refine wl_call rfl rfl (vs := [.agg #[.bool sb, .slice Ab nb cb]]) (by kernel_rfl) (by decide) (g_ref5_Sign (hy.ext hw32) (Nat.le_trans lb (by decide))) ?_
        rintro _ v452 ⟨xr454, rfl, r454, e453⟩
        refine ret_intro ?_
        have hw33 : Ext w v452 := hw32.trans e453
        obtain rfl := r454
        refine wl_cmp rfl rfl rfl true (scmp_eq_t hy0) (by decide) ?_
        refine wl_nil ?_
        refine eo_then ?_
        refine cw_true rfl ?_
        refine cw_seq ?_
        -- region 15
        refine cw_region ?_
        refine wl_load rfl rfl (load_agg aggInt (((((((((((((hb4.ext (e8.trans (e13.trans (e16.trans (e30.trans (e36.trans e42)))))).updN u49 (by omega)).updN u54 (by omega)).updN u59 (by omega)).ext (e63.trans e68)).updN u75 (by omega)).ext (e79.trans e84)).updN u91 (by omega)).ext (e94.trans (e97.trans (e100.trans (e103.trans (e106.trans (e109.trans (e112.trans (e115.trans (e118.trans e192)))))))))).updN u243 (by omega)).ext (e247.trans (e252.trans e257))).updN u264 (by omega)).ext (e390.trans e453)) [.bool sa, .slice Aa na ca] rfl (Nat.le_of_ble_eq_true rfl) rfl) (by decide) ?_
        refine wl_call rfl rfl (vs := [.agg #[.bool sa, .slice Aa na ca]]) (by kernel_rfl) (by decide) (g_ref5_Sign (hx.ext hw33) (Nat.le_trans la (by decide))) ?_
        rintro _ v455 ⟨xr457, rfl, r457, e456⟩
        refine ret_intro ?_
        have hw34 : Ext w v455 := hw33.trans e456
        obtain rfl := r457
        refine wl_assign rfl rfl (by decide) ?_
        refine wl_nil ?_
        refine eo_then ?_
        refine cw_seq ?_
        have hnv : n27 = 0 := by rw [((((((((((((((z27.ext (e30.trans (e36.trans e42))).updT hb47 u49).updT hb52 u54).updT hb57 u59).ext (e63.trans e68)).updT hb73 u75).ext (e79.trans e84)).updT hb89 u91).ext (e94.trans (e97.trans (e100.trans (e103.trans (e106.trans (e109.trans (e112.trans (e115.trans (e118.trans e192)))))))))).updT hb241 u243).ext (e247.trans (e252.trans e257))).updT hb262 u264).ext (e390.trans (e453.trans e456)))).len, (p20.zero hy0).2]; rfl
        -- region 16, in whatever order
        refine cw_draw mix 15 [] [Is (.agg #[.bool s81, .slice A81 n81 c81]), Is (.int .i64 (scmp (Int.lcm x y : Int) 0)), Is (.bool true), Is (.bool true), Is (.pointer (some ⟨g40, 1, none⟩)), Is (.slice A27 n27 c27), Is (.int .i64 ((n27 : Nat) : Int)), Is (.bool true), Is (.bool true), Is (.bool true), Is (.agg #[.bool s26, .slice A26 n26 c26]), Is (.int .i64 (scmp x 0)), ZR w.heap.size (scmp x 0), Is (.bool true), Is (.bool true)] [[], [0], [1], [2], [3], [3, 4], [3, 5], [3, 6], [3, 7], [8], [9], [9], [9, 11], [9, 10, 12], [9, 13]] [[], [0], [0, 1], [0, 1, 2], [0, 1, 2, 3], [0, 1, 2, 3, 4], [0, 1, 2, 3, 4, 5], [0, 1, 2, 3, 4, 5, 6], [0, 1, 2, 3, 4, 5, 6, 7], [0, 1, 2, 3, 4, 5, 6, 7, 8], [0, 1, 2, 3, 4, 5, 6, 7, 8, 9], [0, 1, 2, 3, 4, 5, 6, 7, 8, 9], [0, 1, 2, 3, 4, 5, 6, 7, 8, 9, 11], [0, 1, 2, 3, 4, 5, 6, 7, 8, 9, 10, 11, 12], [0, 1, 2, 3, 4, 5, 6, 7, 8, 9, 10, 11, 12, 13], [0, 1, 2, 3, 4, 5, 6, 7, 8, 9, 10, 11, 12, 13, 14]] rfl
          (obs_cons rfl rfl (hob rfl rfl ?_) (obs_cons rfl rfl (hob rfl rfl ?_) (obs_cons rfl rfl (hob rfl rfl ?_) (obs_cons rfl rfl (hob rfl rfl ?_) (obs_cons rfl rfl (hob rfl rfl ?_) (obs_cons rfl rfl (hob rfl rfl ?_) (obs_cons rfl rfl (hob rfl rfl ?_) (obs_cons rfl rfl (hob rfl rfl ?_) (obs_cons rfl rfl (hob rfl rfl ?_) (obs_cons rfl rfl (hob rfl rfl ?_) (obs_cons rfl rfl (hob rfl rfl ?_) (obs_cons rfl rfl (hob rfl rfl ?_) (obs_cons rfl rfl (hob rfl rfl ?_) (obs_cons rfl rfl (hob rfl rfl ?_) (obs_cons rfl rfl (hob rfl rfl ?_) obs_nil))))))))))))))) ?_
        · -- 0
          intro v459 e460
          have hw35 : Ext w v459 := hw34.trans e460
          refine deps_nil ?_
          refine wl_load rfl rfl (load_agg aggInt (((((hb90.ext (e94.trans (e97.trans (e100.trans (e103.trans (e106.trans (e109.trans (e112.trans (e115.trans (e118.trans e192)))))))))).updN u243 (by omega)).ext (e247.trans (e252.trans e257))).updN u264 (by omega)).ext (e390.trans (e453.trans (e456.trans e460)))) [.bool s81, .slice A81 n81 c81] rfl (Nat.le_of_ble_eq_true rfl) rfl) (by decide) ?_
          exact pi_done rfl (Ext.refl _) rfl
        · -- 1
          intro v461 e462
          have hw35 : Ext w v461 := hw34.trans e462
          refine deps_cons rfl rfl fun x463 y464 h465 e466 f467 => ?_
          obtain rfl := h465
          refine deps_nil ?_
          refine wl_call rfl rfl (vs := [.agg #[.bool s81, .slice A81 n81 c81]]) (by kernel_rfl) (by decide) (g_ref5_Sign (((((((z81.ext e84).updT hb89 u91).ext (e94.trans (e97.trans (e100.trans (e103.trans (e106.trans (e109.trans (e112.trans (e115.trans (e118.trans e192)))))))))).updT hb241 u243).ext (e247.trans (e252.trans e257))).updT hb262 u264).ext (e390.trans (e453.trans (e456.trans e462)))).zi (z81.le (Nat.le_trans L77 (by decide)))) ?_
          rintro _ v468 ⟨xr470, rfl, r470, e469⟩
          refine ret_intro ?_
          have hw36 : Ext w v468 := hw35.trans e469
          obtain rfl := r470
          exact pi_done rfl e469 rfl
        · -- 2
          intro v471 e472
          have hw35 : Ext w v471 := hw34.trans e472
          refine deps_cons rfl rfl fun x473 y474 h475 e476 f477 => ?_
          obtain rfl := h475
          refine deps_nil ?_
          refine wl_cmp rfl rfl rfl true (scmp_eq_t (lcm_zero_right hy0)) (by decide) ?_
          exact pi_done rfl (Ext.refl _) rfl
        · -- 3
          intro v478 e479
          have hw35 : Ext w v478 := hw34.trans e479
          refine deps_cons rfl rfl fun x480 y481 h482 e483 f484 => ?_
          obtain rfl := h482
          refine deps_nil ?_
          refine wl_move rfl rfl (by decide) ?_
          exact pi_done rfl (Ext.refl _) rfl
        · -- 4
          intro v485 e486
          have hw35 : Ext w v485 := hw34.trans e486
          refine deps_cons rfl rfl fun x487 y488 h489 e490 f491 => ?_
          obtain rfl := h489
          refine deps_nil ?_
          refine wl_pure rfl rfl (v := .pointer (some ⟨g40, 1, none⟩)) (by decide) (by kernel_rfl) ?_
          exact pi_done rfl (Ext.refl _) rfl
        · -- 5
          intro v492 e493
          have hw35 : Ext w v492 := hw34.trans e493
          refine deps_cons rfl rfl fun x494 y495 h496 e497 f498 => ?_
          obtain rfl := h496
          refine deps_cons rfl rfl fun x499 y500 h501 e502 f503 => ?_
          obtain rfl := h501
          refine deps_nil ?_
          refine wl_load rfl rfl (load_cell cellWords (((((((((hb58.ext (e63.trans e68)).updN u75 (by omega)).ext (e79.trans e84)).updN u91 (by omega)).ext (e94.trans (e97.trans (e100.trans (e103.trans (e106.trans (e109.trans (e112.trans (e115.trans (e118.trans e192)))))))))).updN u243 (by omega)).ext (e247.trans (e252.trans e257))).updN u264 (by omega)).ext (e390.trans (e453.trans (e456.trans e493)))) rfl) (by decide) ?_
          exact pi_done rfl (Ext.refl _) rfl
        · -- 6
          intro v504 e505
          have hw35 : Ext w v504 := hw34.trans e505
          refine deps_cons rfl rfl fun x506 y507 h508 e509 f510 => ?_
          obtain rfl := h508
          refine deps_cons rfl rfl fun x511 y512 h513 e514 f515 => ?_
          obtain rfl := h513
          refine deps_nil ?_
          refine wl_pure rfl rfl (v := .int .i64 ((n27 : Nat) : Int)) (by decide) (by kernel_rfl) ?_
          exact pi_done rfl (Ext.refl _) rfl
        · -- 7
          intro v516 e517
          have hw35 : Ext w v516 := hw34.trans e517
          refine deps_cons rfl rfl fun x518 y519 h520 e521 f522 => ?_
          obtain rfl := h520
          refine deps_cons rfl rfl fun x523 y524 h525 e526 f527 => ?_
          obtain rfl := h525
          refine deps_nil ?_
          refine wl_cmp rfl rfl rfl true (eq_t (by omega)) (by decide) ?_
          exact pi_done rfl (Ext.refl _) rfl
        · -- 8
          intro v528 e529
          have hw35 : Ext w v528 := hw34.trans e529
          refine deps_cons rfl rfl fun x530 y531 h532 e533 f534 => ?_
          obtain rfl := h532
          refine deps_cons rfl rfl fun x535 y536 h537 e538 f539 => ?_
          obtain rfl := h537
          refine deps_nil ?_
          refine wl_pure rfl rfl (v := .bool true) (by decide) (by kernel_rfl) ?_
          exact pi_done rfl (Ext.refl _) rfl
        · -- 9
          intro v540 e541
          have hw35 : Ext w v540 := hw34.trans e541
          refine deps_cons rfl rfl fun x542 y543 h544 e545 f546 => ?_
          obtain rfl := h544
          refine deps_nil ?_
          refine wl_move rfl rfl (by decide) ?_
          exact pi_done rfl (Ext.refl _) rfl
        · -- 10
          intro v547 e548
          have hw35 : Ext w v547 := hw34.trans e548
          refine deps_cons rfl rfl fun x549 y550 h551 e552 f553 => ?_
          obtain rfl := h551
          refine deps_nil ?_
          refine wl_load rfl rfl (load_agg aggInt ((((((((((hb53.updN u59 (by omega)).ext (e63.trans e68)).updN u75 (by omega)).ext (e79.trans e84)).updN u91 (by omega)).ext (e94.trans (e97.trans (e100.trans (e103.trans (e106.trans (e109.trans (e112.trans (e115.trans (e118.trans e192)))))))))).updN u243 (by omega)).ext (e247.trans (e252.trans e257))).updN u264 (by omega)).ext (e390.trans (e453.trans (e456.trans e548)))) [.bool s26, .slice A26 n26 c26] rfl (Nat.le_of_ble_eq_true rfl) rfl) (by decide) ?_
          exact pi_done rfl (Ext.refl _) rfl
        · -- 11
          intro v554 e555
          have hw35 : Ext w v554 := hw34.trans e555
          refine deps_cons rfl rfl fun x556 y557 h558 e559 f560 => ?_
          obtain rfl := h558
          refine deps_nil ?_
          refine wl_move rfl rfl (by decide) ?_
          exact pi_done rfl (Ext.refl _) rfl
        · -- 12
          intro v561 e562
          have hw35 : Ext w v561 := hw34.trans e562
          refine deps_cons rfl rfl fun x563 y564 h565 e566 f567 => ?_
          obtain rfl := h565
          refine deps_cons rfl rfl fun x568 y569 h570 e571 f572 => ?_
          obtain rfl := h570
          refine deps_nil ?_
          refine wl_call rfl rfl (vs := [.int .i64 (scmp x 0)]) (by kernel_rfl) (by decide) (g_ref5_Of_sgn hw35.size x) ?_
          rintro _ v573 ⟨xr575, rfl, r575, e574⟩
          refine ret_intro ?_
          have hw36 : Ext w v573 := hw35.trans e574
          obtain ⟨s576, A576, n576, c576, rfl, z576⟩ := r575
          exact pi_done rfl e574 ⟨_, _, _, _, rfl, z576⟩
        · -- 13
          intro v577 e578
          have hw35 : Ext w v577 := hw34.trans e578
          refine deps_cons rfl rfl fun x579 y580 h581 e582 f583 => ?_
          obtain rfl := h581
          refine deps_cons rfl rfl fun x584 y585 h586 e587 f588 => ?_
          obtain rfl := h586
          refine deps_cons rfl rfl fun x589 y590 h591 e592 f593 => ?_
          obtain ⟨s594, A594, n594, c594, rfl, z594⟩ := h591
          have z594 := z594.ext f593
          refine deps_nil ?_
          refine wl_call rfl rfl (vs := [.agg #[.bool s26, .slice A26 n26 c26], .agg #[.bool s594, .slice A594 n594 c594]]) (by kernel_rfl) (by decide) (g_law6_equal (((((((((((((z26.ext (e30.trans (e36.trans e42))).updT hb47 u49).updT hb52 u54).updT hb57 u59).ext (e63.trans e68)).updT hb73 u75).ext (e79.trans e84)).updT hb89 u91).ext (e94.trans (e97.trans (e100.trans (e103.trans (e106.trans (e109.trans (e112.trans (e115.trans (e118.trans e192)))))))))).updT hb241 u243).ext (e247.trans (e252.trans e257))).updT hb262 u264).ext (e390.trans (e453.trans (e456.trans e578)))).zi (z26.le (Nat.le_trans L22 (by decide))) z594.zi (z594.le (Nat.le_trans (ln_scmp _ _) (by decide))) (by rw [(p20.zero hy0).1, scmp_sign])) ?_
          rintro _ v595 ⟨xr597, rfl, r597, e596⟩
          refine ret_intro ?_
          have hw36 : Ext w v595 := hw35.trans e596
          obtain rfl := r597
          exact pi_done rfl e596 rfl
        · -- 14
          intro v598 e599
          have hw35 : Ext w v598 := hw34.trans e599
          refine deps_cons rfl rfl fun x600 y601 h602 e603 f604 => ?_
          obtain rfl := h602
          refine deps_cons rfl rfl fun x605 y606 h607 e608 f609 => ?_
          obtain rfl := h607
          refine deps_nil ?_
          refine wl_pure rfl rfl (v := .bool true) (by decide) (by kernel_rfl) ?_
          exact pi_done rfl (Ext.refl _) rfl
        · -- all
          intro v610 e611
          have hw35 : Ext w v610 := hw34.trans e611
          refine deps_cons rfl rfl fun x612 y613 h614 e615 f616 => ?_
          obtain rfl := h614
          refine deps_cons rfl rfl fun x617 y618 h619 e620 f621 => ?_
          obtain rfl := h619
          refine deps_cons rfl rfl fun x622 y623 h624 e625 f626 => ?_
          obtain rfl := h624
          refine deps_cons rfl rfl fun x627 y628 h629 e630 f631 => ?_
          obtain rfl := h629
          refine deps_cons rfl rfl fun x632 y633 h634 e635 f636 => ?_
          obtain rfl := h634
          refine deps_cons rfl rfl fun x637 y638 h639 e640 f641 => ?_
          obtain rfl := h639
          refine deps_cons rfl rfl fun x642 y643 h644 e645 f646 => ?_
          obtain rfl := h644
          refine deps_cons rfl rfl fun x647 y648 h649 e650 f651 => ?_
          obtain rfl := h649
          refine deps_cons rfl rfl fun x652 y653 h654 e655 f656 => ?_
          obtain rfl := h654
          refine deps_cons rfl rfl fun x657 y658 h659 e660 f661 => ?_
          obtain rfl := h659
          refine deps_cons rfl rfl fun x662 y663 h664 e665 f666 => ?_
          obtain rfl := h664
          refine deps_cons rfl rfl fun x667 y668 h669 e670 f671 => ?_
          obtain rfl := h669
          refine deps_cons rfl rfl fun x672 y673 h674 e675 f676 => ?_
          obtain ⟨s677, A677, n677, c677, rfl, z677⟩ := h674
          have z677 := z677.ext f676
          refine deps_cons rfl rfl fun x678 y679 h680 e681 f682 => ?_
          obtain rfl := h680
          refine deps_cons rfl rfl fun x683 y684 h685 e686 f687 => ?_
          obtain rfl := h685
          refine deps_nil ?_
          refine wl_assign rfl rfl (by decide) ?_
          refine wl_nil ?_
          refine eo_np ?_
          refine eo_then ?_
          refine cw_ret ?_
          refine eo_thenR ?_
          refine eo_ret [.bool true] rfl ⟨rfl, trivial⟩ ?_
          exact bool_of _ _ ⟨_, rfl, rfl, hw35⟩
      ·
        -- region 14
        refine cw_region ?_
        refine wl_load rfl rfl (load_agg aggInt (((((((((((((hb9.ext (e13.trans (e16.trans (e30.trans (e36.trans e42))))).updN u49 (by omega)).updN u54 (by omega)).updN u59 (by omega)).ext (e63.trans e68)).updN u75 (by omega)).ext (e79.trans e84)).updN u91 (by omega)).ext (e94.trans (e97.trans (e100.trans (e103.trans (e106.trans (e109.trans (e112.trans (e115.trans (e118.trans e192)))))))))).updN u243 (by omega)).ext (e247.trans (e252.trans e257))).updN u264 (by omega)).ext e390) [.bool sb, .slice Ab nb cb] rfl (Nat.le_of_ble_eq_true rfl) rfl) (by decide) ?_
        refine wl_call rfl rfl (vs := [.agg #[.bool sb, .slice Ab nb cb]]) (by kernel_rfl) (by decide) (g_ref5_Sign (hy.ext hw32) (Nat.le_trans lb (by decide))) ?_
        rintro _ v688 ⟨xr690, rfl, r690, e689⟩
        refine ret_intro ?_
        have hw33 : Ext w v688 := hw32.trans e689
        obtain rfl := r690
        refine wl_cmp rfl rfl rfl false (scmp_eq_f hy0) (by decide) ?_
        refine wl_nil ?_
        refine eo_then ?_
        refine cw_false rfl ?_
        refine cw_skip ?_
        refine eo_then ?_
        refine cw_seq ?_
        -- region 17
        refine cw_region ?_
        refine wl_load rfl rfl (load_agg aggInt (((((((((((((hb9.ext (e13.trans (e16.trans (e30.trans (e36.trans e42))))).updN u49 (by omega)).updN u54 (by omega)).updN u59 (by omega)).ext (e63.trans e68)).updN u75 (by omega)).ext (e79.trans e84)).updN u91 (by omega)).ext (e94.trans (e97.trans (e100.trans (e103.trans (e106.trans (e109.trans (e112.trans (e115.trans (e118.trans e192)))))))))).updN u243 (by omega)).ext (e247.trans (e252.trans e257))).updN u264 (by omega)).ext (e390.trans e689)) [.bool sb, .slice Ab nb cb] rfl (Nat.le_of_ble_eq_true rfl) rfl) (by decide) ?_
        refine wl_load rfl rfl (load_agg aggInt (((((((((((hb48.updN u54 (by omega)).updN u59 (by omega)).ext (e63.trans e68)).updN u75 (by omega)).ext (e79.trans e84)).updN u91 (by omega)).ext (e94.trans (e97.trans (e100.trans (e103.trans (e106.trans (e109.trans (e112.trans (e115.trans (e118.trans e192)))))))))).updN u243 (by omega)).ext (e247.trans (e252.trans e257))).updN u264 (by omega)).ext (e390.trans e689)) [.bool s25, .slice A25 n25 c25] rfl (Nat.le_of_ble_eq_true rfl) rfl) (by decide) ?_
        have L691 : ln (y.tdiv (Int.gcd x y : Int)) ≤ 1048576 := Nat.le_trans (ln_tdiv _ _) Ly
        refine wl_call rfl rfl (vs := [.agg #[.bool sb, .slice Ab nb cb], .agg #[.bool s25, .slice A25 n25 c25]]) (by kernel_rfl) (by decide) (g_ref5_Exact_ok hw33.size (hy.ext hw33) (Nat.le_trans lb (by decide)) (((((((((((((z25.ext (e30.trans (e36.trans e42))).updT hb47 u49).updT hb52 u54).updT hb57 u59).ext (e63.trans e68)).updT hb73 u75).ext (e79.trans e84)).updT hb89 u91).ext (e94.trans (e97.trans (e100.trans (e103.trans (e106.trans (e109.trans (e112.trans (e115.trans (e118.trans e192)))))))))).updT hb241 u243).ext (e247.trans (e252.trans e257))).updT hb262 u264).ext (e390.trans e689)).zi (z25.le (Nat.le_trans L21 (by decide))) (by have := Int.gcd_pos_of_ne_zero_right x hy0; omega) (gcd_mod0r x y)) ?_
        rintro _ v692 ⟨xr694, rfl, r694, e693⟩
        refine ret_intro ?_
        have hw34 : Ext w v692 := hw33.trans e693
        obtain ⟨a695_0, a695_1, rfl, r695_0, r695_1⟩ := r694
        obtain ⟨s696, A696, n696, c696, rfl, z696⟩ := r695_0
        obtain rfl := r695_1
        refine wl_move rfl rfl (by decide) ?_
        refine wl_pure rfl rfl (v := .agg #[.bool s696, .slice A696 n696 c696]) (by decide) (by kernel_rfl) ?_
        refine wl_pure rfl rfl (v := .int .i64 0) (by decide) (by kernel_rfl) ?_
        refine wl_alloc rfl (z := .agg #[.bool false, .slice none 0 0]) (vs := [.bool false, .slice none 0 0]) (fun _ => by kernel_rfl) rfl (by decide) fun g697 v698 nb => ?_
        have hb700 := nb.bk
        have ge701 : w.heap.size ≤ g697 := by rw [← nb.at_]; exact hw34.size
        have q702 : g255 < g697 := by rw [← nb.at_]; exact (hb263.ext (e390.trans (e689.trans e693))).lt
        have e699 := nb.ext
        clear nb
        have hw35 : Ext w v698 := hw34.trans e699
        have hb704 := hb700
        refine wl_stored rfl rfl rfl aggInt rfl hb704 (Nat.le_of_ble_eq_true rfl) rfl [.bool s696, .slice A696 n696 c696] rfl fun v703 hb705 u706 hs707 => ?_
        have hw36 : Ext w v703 := u706.ext hw35 ge701
        refine wl_assign rfl rfl (by decide) ?_
        refine wl_nil ?_
        refine eo_then ?_
        refine cw_seq ?_
        refine cw_seq ?_
        -- region 18
        refine cw_region ?_
        refine wl_move rfl rfl (by decide) ?_
        refine wl_pure rfl rfl (v := .bool false) (by decide) (by kernel_rfl) ?_
        refine wl_move rfl rfl (by decide) ?_
        refine wl_load rfl rfl (load_agg aggInt (((((((((((hb53.updN u59 (by omega)).ext (e63.trans e68)).updN u75 (by omega)).ext (e79.trans e84)).updN u91 (by omega)).ext (e94.trans (e97.trans (e100.trans (e103.trans (e106.trans (e109.trans (e112.trans (e115.trans (e118.trans e192)))))))))).updN u243 (by omega)).ext (e247.trans (e252.trans e257))).updN u264 (by omega)).ext (e390.trans (e689.trans (e693.trans e699)))).updN u706 (by omega)) [.bool s26, .slice A26 n26 c26] rfl (Nat.le_of_ble_eq_true rfl) rfl) (by decide) ?_
        refine wl_load rfl rfl (load_agg aggInt hb705 [.bool s696, .slice A696 n696 c696] rfl (Nat.le_of_ble_eq_true rfl) rfl) (by decide) ?_
        refine wl_call rfl rfl (vs := [.agg #[.bool s26, .slice A26 n26 c26], .agg #[.bool s696, .slice A696 n696 c696]]) (by kernel_rfl) (by decide) (g_law6_within ((((((((((((((z26.ext (e30.trans (e36.trans e42))).updT hb47 u49).updT hb52 u54).updT hb57 u59).ext (e63.trans e68)).updT hb73 u75).ext (e79.trans e84)).updT hb89 u91).ext (e94.trans (e97.trans (e100.trans (e103.trans (e106.trans (e109.trans (e112.trans (e115.trans (e118.trans e192)))))))))).updT hb241 u243).ext (e247.trans (e252.trans e257))).updT hb262 u264).ext (e390.trans (e689.trans (e693.trans e699)))).updT hb704 u706).zi (z26.le (Nat.le_trans L22 (by decide))) ((z696.ext e699).updT hb704 u706).zi (z696.le (Nat.le_trans L691 (by decide))) (p20.inr hy0).1 (p20.inr hy0).2) ?_
        rintro _ v708 ⟨xr710, rfl, r710, e709⟩
        refine ret_intro ?_
        have hw37 : Ext w v708 := hw36.trans e709
        obtain rfl := r710
        refine wl_pure rfl rfl (v := .bool false) (by decide) (by kernel_rfl) ?_
        refine wl_pure rfl rfl (v := .bool false) (by decide) (by kernel_rfl) ?_
        refine wl_nil ?_
        refine eo_then ?_
        refine cw_false rfl ?_
        refine cw_skip ?_
        refine eo_then ?_
        refine cw_seq ?_
        refine cw_seq ?_
        by_cases hx0 : x = 0
        ·
          -- region 20
          refine cw_region ?_
          refine wl_load rfl rfl (load_agg aggInt (((((((((((((((hb4.ext (e8.trans (e13.trans (e16.trans (e30.trans (e36.trans e42)))))).updN u49 (by omega)).updN u54 (by omega)).updN u59 (by omega)).ext (e63.trans e68)).updN u75 (by omega)).ext (e79.trans e84)).updN u91 (by omega)).ext (e94.trans (e97.trans (e100.trans (e103.trans (e106.trans (e109.trans (e112.trans (e115.trans (e118.trans e192)))))))))).updN u243 (by omega)).ext (e247.trans (e252.trans e257))).updN u264 (by omega)).ext (e390.trans (e689.trans (e693.trans e699)))).updN u706 (by omega)).ext e709) [.bool sa, .slice Aa na ca] rfl (Nat.le_of_ble_eq_true rfl) rfl) (by decide) ?_
          refine wl_call rfl rfl (vs := [.agg #[.bool sa, .slice Aa na ca]]) (by kernel_rfl) (by decide) (g_ref5_Sign (hx.ext hw37) (Nat.le_trans la (by decide))) ?_
          rintro _ v711 ⟨xr713, rfl, r713, e712⟩
          refine ret_intro ?_
          have hw38 : Ext w v711 := hw37.trans e712
          obtain rfl := r713
          refine wl_cmp rfl rfl rfl true (scmp_eq_t hx0) (by decide) ?_
          refine wl_nil ?_
          refine eo_then ?_
          refine cw_true rfl ?_
          refine cw_seq ?_
          -- region 21
          refine cw_region ?_
          refine wl_assign rfl rfl (by decide) ?_
          refine wl_nil ?_
          refine eo_then ?_
          refine cw_ret ?_
          refine eo_thenR ?_
          refine eo_ret [.bool true] rfl ⟨rfl, trivial⟩ ?_
          exact bool_of _ _ ⟨_, rfl, rfl, hw38⟩
        ·
          -- region 20
          refine cw_region ?_
          refine wl_load rfl rfl (load_agg aggInt (((((((((((((((hb4.ext (e8.trans (e13.trans (e16.trans (e30.trans (e36.trans e42)))))).updN u49 (by omega)).updN u54 (by omega)).updN u59 (by omega)).ext (e63.trans e68)).updN u75 (by omega)).ext (e79.trans e84)).updN u91 (by omega)).ext (e94.trans (e97.trans (e100.trans (e103.trans (e106.trans (e109.trans (e112.trans (e115.trans (e118.trans e192)))))))))).updN u243 (by omega)).ext (e247.trans (e252.trans e257))).updN u264 (by omega)).ext (e390.trans (e689.trans (e693.trans e699)))).updN u706 (by omega)).ext e709) [.bool sa, .slice Aa na ca] rfl (Nat.le_of_ble_eq_true rfl) rfl) (by decide) ?_
          refine wl_call rfl rfl (vs := [.agg #[.bool sa, .slice Aa na ca]]) (by kernel_rfl) (by decide) (g_ref5_Sign (hx.ext hw37) (Nat.le_trans la (by decide))) ?_
          rintro _ v714 ⟨xr716, rfl, r716, e715⟩
          refine ret_intro ?_
          have hw38 : Ext w v714 := hw37.trans e715
          obtain rfl := r716
          refine wl_cmp rfl rfl rfl false (scmp_eq_f hx0) (by decide) ?_
          refine wl_nil ?_
          refine eo_then ?_
          refine cw_false rfl ?_
          refine cw_skip ?_
          refine eo_then ?_
          refine cw_seq ?_
          -- region 22
          refine cw_region ?_
          refine wl_load rfl rfl (load_agg aggInt (((((((((((((((hb4.ext (e8.trans (e13.trans (e16.trans (e30.trans (e36.trans e42)))))).updN u49 (by omega)).updN u54 (by omega)).updN u59 (by omega)).ext (e63.trans e68)).updN u75 (by omega)).ext (e79.trans e84)).updN u91 (by omega)).ext (e94.trans (e97.trans (e100.trans (e103.trans (e106.trans (e109.trans (e112.trans (e115.trans (e118.trans e192)))))))))).updN u243 (by omega)).ext (e247.trans (e252.trans e257))).updN u264 (by omega)).ext (e390.trans (e689.trans (e693.trans e699)))).updN u706 (by omega)).ext (e709.trans e715)) [.bool sa, .slice Aa na ca] rfl (Nat.le_of_ble_eq_true rfl) rfl) (by decide) ?_
          refine wl_load rfl rfl (load_agg aggInt (((((((((((((hb48.updN u54 (by omega)).updN u59 (by omega)).ext (e63.trans e68)).updN u75 (by omega)).ext (e79.trans e84)).updN u91 (by omega)).ext (e94.trans (e97.trans (e100.trans (e103.trans (e106.trans (e109.trans (e112.trans (e115.trans (e118.trans e192)))))))))).updN u243 (by omega)).ext (e247.trans (e252.trans e257))).updN u264 (by omega)).ext (e390.trans (e689.trans (e693.trans e699)))).updN u706 (by omega)).ext (e709.trans e715)) [.bool s25, .slice A25 n25 c25] rfl (Nat.le_of_ble_eq_true rfl) rfl) (by decide) ?_
          have L717 : ln (x.tdiv (Int.gcd x y : Int)) ≤ 1048576 := Nat.le_trans (ln_tdiv _ _) Lx
          refine wl_call rfl rfl (vs := [.agg #[.bool sa, .slice Aa na ca], .agg #[.bool s25, .slice A25 n25 c25]]) (by kernel_rfl) (by decide) (g_ref5_Exact_ok hw38.size (hx.ext hw38) (Nat.le_trans la (by decide)) (((((((((((((((z25.ext (e30.trans (e36.trans e42))).updT hb47 u49).updT hb52 u54).updT hb57 u59).ext (e63.trans e68)).updT hb73 u75).ext (e79.trans e84)).updT hb89 u91).ext (e94.trans (e97.trans (e100.trans (e103.trans (e106.trans (e109.trans (e112.trans (e115.trans (e118.trans e192)))))))))).updT hb241 u243).ext (e247.trans (e252.trans e257))).updT hb262 u264).ext (e390.trans (e689.trans (e693.trans e699)))).updT hb704 u706).ext (e709.trans e715)).zi (z25.le (Nat.le_trans L21 (by decide))) (by have := Int.gcd_pos_of_ne_zero_right x hy0; omega) (gcd_mod0 x y)) ?_
          rintro _ v718 ⟨xr720, rfl, r720, e719⟩
          refine ret_intro ?_
          have hw39 : Ext w v718 := hw38.trans e719
          obtain ⟨a721_0, a721_1, rfl, r721_0, r721_1⟩ := r720
          obtain ⟨s722, A722, n722, c722, rfl, z722⟩ := r721_0
          obtain rfl := r721_1
          refine wl_move rfl rfl (by decide) ?_
          refine wl_pure rfl rfl (v := .agg #[.bool s722, .slice A722 n722 c722]) (by decide) (by kernel_rfl) ?_
          refine wl_pure rfl rfl (v := .int .i64 0) (by decide) (by kernel_rfl) ?_
          refine wl_alloc rfl (z := .agg #[.bool false, .slice none 0 0]) (vs := [.bool false, .slice none 0 0]) (fun _ => by kernel_rfl) rfl (by decide) fun g723 v724 nb => ?_
          have hb726 := nb.bk
          have ge727 : w.heap.size ≤ g723 := by rw [← nb.at_]; exact hw39.size
          have q728 : g697 < g723 := by rw [← nb.at_]; exact (hb705.ext (e709.trans (e715.trans e719))).lt
          have e725 := nb.ext
          clear nb
          have hw40 : Ext w v724 := hw39.trans e725
          have hb730 := hb726
          refine wl_stored rfl rfl rfl aggInt rfl hb730 (Nat.le_of_ble_eq_true rfl) rfl [.bool s722, .slice A722 n722 c722] rfl fun v729 hb731 u732 hs733 => ?_
          have hw41 : Ext w v729 := u732.ext hw40 ge727
          refine wl_assign rfl rfl (by decide) ?_
          refine wl_nil ?_
          refine eo_then ?_
          refine cw_seq ?_
          -- region 23
          refine cw_region ?_
          refine wl_move rfl rfl (by decide) ?_
          refine wl_pure rfl rfl (v := .bool true) (by decide) (by kernel_rfl) ?_
          refine wl_move rfl rfl (by decide) ?_
          refine wl_load rfl rfl (load_agg aggInt ((((((((((((hb58.ext (e63.trans e68)).updN u75 (by omega)).ext (e79.trans e84)).updN u91 (by omega)).ext (e94.trans (e97.trans (e100.trans (e103.trans (e106.trans (e109.trans (e112.trans (e115.trans (e118.trans e192)))))))))).updN u243 (by omega)).ext (e247.trans (e252.trans e257))).updN u264 (by omega)).ext (e390.trans (e689.trans (e693.trans e699)))).updN u706 (by omega)).ext (e709.trans (e715.trans (e719.trans e725)))).updN u732 (by omega)) [.bool s27, .slice A27 n27 c27] rfl (Nat.le_of_ble_eq_true rfl) rfl) (by decide) ?_
          refine wl_load rfl rfl (load_agg aggInt hb731 [.bool s722, .slice A722 n722 c722] rfl (Nat.le_of_ble_eq_true rfl) rfl) (by decide) ?_
          refine wl_call rfl rfl (vs := [.agg #[.bool s27, .slice A27 n27 c27], .agg #[.bool s722, .slice A722 n722 c722]]) (by kernel_rfl) (by decide) (g_ref5_CmpAbs ((((((((((((((((z27.ext (e30.trans (e36.trans e42))).updT hb47 u49).updT hb52 u54).updT hb57 u59).ext (e63.trans e68)).updT hb73 u75).ext (e79.trans e84)).updT hb89 u91).ext (e94.trans (e97.trans (e100.trans (e103.trans (e106.trans (e109.trans (e112.trans (e115.trans (e118.trans e192)))))))))).updT hb241 u243).ext (e247.trans (e252.trans e257))).updT hb262 u264).ext (e390.trans (e689.trans (e693.trans e699)))).updT hb704 u706).ext (e709.trans (e715.trans (e719.trans e725)))).updT hb730 u732).zi (z27.le (Nat.le_trans L23 (by decide))) ((z722.ext e725).updT hb730 u732).zi (z722.le (Nat.le_trans L717 (by decide)))) ?_
          rintro _ v734 ⟨xr736, rfl, r736, e735⟩
          refine ret_intro ?_
          have hw42 : Ext w v734 := hw41.trans e735
          obtain rfl := r736
          refine wl_cmp rfl rfl rfl true (cmp3_le_t (p20.vle hy0 hx0)) (by decide) ?_
          refine wl_pure rfl rfl (v := .bool true) (by decide) (by kernel_rfl) ?_
          refine wl_assign rfl rfl (by decide) ?_
          refine wl_nil ?_
          refine eo_then ?_
          refine cw_ret ?_
          refine eo_ret [.bool true] rfl ⟨rfl, trivial⟩ ?_
          exact bool_of _ _ ⟨_, rfl, rfl, hw42⟩

end Go.Proofs.Ytmaconeeonkdgaa
