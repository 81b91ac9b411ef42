/- trellislaw06: BezoutInverts, printed by p_law6i.py -/
import Derived.Test.YtmaconeeonkdgaaK7
namespace Go.Proofs.Ytmaconeeonkdgaa
open Go.RowKit

theorem Bez.inr1 {x y u v : Int} (h : Bez x y u v) (hy : y ≠ 0) (hg : (Int.gcd x y : Int) = 1) : 0 ≤ u ∧ u < y.natAbs := by
  have h1 := h.lo hy
  have h2 := h.hi hy
  rw [hg, Int.mul_one] at h2
  exact ⟨h1, h2⟩
theorem Bez.one {x y u v : Int} (h : Bez x y u v) (hg : (Int.gcd x y : Int) = 1) : y ∣ x * u - 1 := by
  have e := h.eq
  rw [hg] at e
  exact ⟨-v, by rw [Int.mul_neg]; omega⟩

set_option maxHeartbeats 4000000 in
theorem law_BezoutInverts {w : World} {sa : Bool} {Aa : Option Addr} {na ca : Nat} {x : Int} {sb : Bool} {Ab : Option Addr} {nb cb : Nat} {y : Int} (hx : Zi w sa Aa na ca x) (la : na ≤ 1048576) (hy : Zi w sb Ab nb cb y) (lb : nb ≤ 1048576)  :
    Calls Try.prog 8 #[.agg #[.bool sa, .slice Aa na ca], .agg #[.bool sb, .slice Ab nb cb]] w (BoolP true w) := by
  have Lx : ln x ≤ 1048576 := Nat.le_trans hx.ln la
  have Ly : ln y ≤ 1048576 := Nat.le_trans hy.ln lb
  refine sx_enter Try.func8 rfl (n := 72) rfl (Nat.le_of_ble_eq_true rfl) (args := [.agg #[.bool sa, .slice Aa na ca], .agg #[.bool sb, .slice Ab nb cb]]) ?_
  refine cw_keep [(0, .agg #[.bool sa, .slice Aa na ca]), (1, .agg #[.bool sb, .slice Ab nb cb])] ⟨rfl, rfl, trivial⟩ ?_
  refine cw_seq ?_
  -- region 0
  refine cw_region ?_
  refine wl_box rfl rfl (vs := [.bool sa, .slice Aa na ca]) rfl (by decide) fun g1 v2 nb => ?_
  have hb4 := nb.bk
  have ge5 : w.heap.size ≤ g1 := by rw [← nb.at_]; exact (Ext.refl w).size
  have e3 := nb.ext
  clear nb
  have hw1 : Ext w v2 := (Ext.refl w).trans e3
  refine wl_box rfl rfl (vs := [.bool sb, .slice Ab nb cb]) rfl (by decide) fun g6 v7 nb => ?_
  have hb9 := nb.bk
  have ge10 : w.heap.size ≤ g6 := by rw [← nb.at_]; exact hw1.size
  have q11 : g1 < g6 := by rw [← nb.at_]; exact hb4.lt
  have e8 := nb.ext
  clear nb
  have hw2 : Ext w v7 := hw1.trans e8
  refine wl_assign rfl rfl (by decide) ?_
  refine wl_nil ?_
  refine eo_then ?_
  refine cw_seq ?_
  refine cw_seq ?_
  -- region 1
  refine cw_region ?_
  refine wl_call rfl rfl (vs := []) (by kernel_rfl) (by decide) (g_law6_wakes _) ?_
  rintro _ v12 ⟨xr14, rfl, r14, e13⟩
  refine ret_intro ?_
  have hw3 : Ext w v12 := hw2.trans e13
  obtain rfl := r14
  refine wl_pure rfl rfl (v := .bool false) (by decide) (by kernel_rfl) ?_
  refine wl_nil ?_
  refine eo_then ?_
  refine cw_false rfl ?_
  refine cw_skip ?_
  refine eo_then ?_
  refine cw_seq ?_
  by_cases hy0 : y = 0
  ·
    -- region 3
    refine cw_region ?_
    refine wl_load rfl rfl (load_agg aggInt (hb4.ext (e8.trans e13)) [.bool sa, .slice Aa na ca] rfl (Nat.le_of_ble_eq_true rfl) rfl) (by decide) ?_
    refine wl_load rfl rfl (load_agg aggInt (hb9.ext e13) [.bool sb, .slice Ab nb cb] rfl (Nat.le_of_ble_eq_true rfl) rfl) (by decide) ?_
    refine wl_call rfl rfl (vs := [.agg #[.bool sa, .slice Aa na ca], .agg #[.bool sb, .slice Ab nb cb]]) (by kernel_rfl) (by decide) (g_bezout_Inverse_zero hw3.size (hx.ext hw3) (Nat.le_trans la (by decide)) (hy.ext hw3) (Nat.le_trans lb (by decide)) hy0) ?_
    rintro _ v15 ⟨xr17, rfl, r17, e16⟩
    refine ret_intro ?_
    have hw4 : Ext w v15 := hw3.trans e16
    obtain ⟨a18_0, a18_1, rfl, r18_0, r18_1⟩ := r17
    obtain ⟨s19, A19, n19, c19, rfl, z19⟩ := r18_0
    obtain rfl := r18_1
    refine wl_move rfl rfl (by decide) ?_
    refine wl_pure rfl rfl (v := .agg #[.bool s19, .slice A19 n19 c19]) (by decide) (by kernel_rfl) ?_
    refine wl_pure rfl rfl (v := .int .i64 4) (by decide) (by kernel_rfl) ?_
    refine wl_alloc rfl (z := .agg #[.bool false, .slice none 0 0]) (vs := [.bool false, .slice none 0 0]) (fun _ => by kernel_rfl) rfl (by decide) fun g20 v21 nb => ?_
    have hb23 := nb.bk
    have ge24 : w.heap.size ≤ g20 := by rw [← nb.at_]; exact hw4.size
    have q25 : g6 < g20 := by rw [← nb.at_]; exact (hb9.ext (e13.trans e16)).lt
    have e22 := nb.ext
    clear nb
    have hw5 : Ext w v21 := hw4.trans e22
    have hb27 := hb23
    refine wl_stored rfl rfl rfl aggInt rfl hb27 (Nat.le_of_ble_eq_true rfl) rfl [.bool s19, .slice A19 n19 c19] rfl fun v26 hb28 u29 hs30 => ?_
    have hw6 : Ext w v26 := u29.ext hw5 ge24
    refine wl_assign rfl rfl (by decide) ?_
    refine wl_nil ?_
    refine eo_then ?_
    refine cw_seq ?_
    refine cw_seq ?_
    -- region 4
    refine cw_region ?_
    refine wl_load rfl rfl (load_agg aggInt ((hb9.ext (e13.trans (e16.trans e22))).updN u29 (by omega)) [.bool sb, .slice Ab nb cb] rfl (Nat.le_of_ble_eq_true rfl) rfl) (by decide) ?_
    refine wl_call rfl rfl (vs := [.agg #[.bool sb, .slice Ab nb cb]]) (by kernel_rfl) (by decide) (g_ref5_Sign (hy.ext hw6) (Nat.le_trans lb (by decide))) ?_
    rintro _ v31 ⟨xr33, rfl, r33, e32⟩
    refine ret_intro ?_
    have hw7 : Ext w v31 := hw6.trans e32
    obtain rfl := r33
    refine wl_cmp rfl rfl rfl true (scmp_eq_t hy0) (by decide) ?_
    refine wl_nil ?_
    refine eo_then ?_
    refine cw_true rfl ?_
    refine cw_seq ?_
    -- region 5
    refine cw_region ?_
    refine wl_move rfl rfl (by decide) ?_
    refine wl_pure rfl rfl (v := .bool true) (by decide) (by kernel_rfl) ?_
    refine wl_move rfl rfl (by decide) ?_
    refine wl_load rfl rfl (load_agg aggInt (hb28.ext e32) [.bool s19, .slice A19 n19 c19] rfl (Nat.le_of_ble_eq_true rfl) rfl) (by decide) ?_
    refine wl_pure rfl rfl (v := .agg #[.bool false, .slice none 0 0]) (by decide) (by kernel_rfl) ?_
    refine wl_call rfl rfl (vs := [.agg #[.bool s19, .slice A19 n19 c19], .agg #[.bool false, .slice none 0 0]]) (by kernel_rfl) (by decide) (g_law6_alike (((z19.ext e22).updT hb27 u29).ext e32) (z19.le (Nat.le_trans (show ln 0 ≤ 0 by decide) (by decide))) (Zr.zero (w := v31) (base := w.heap.size)) ((Zr.zero (w := v31) (base := w.heap.size)).le (Nat.le_trans (by decide : ln 0 ≤ 0) (by decide)))) ?_
    rintro _ v34 ⟨xr36, rfl, r36, e35⟩
    refine ret_intro ?_
    have hw8 : Ext w v34 := hw7.trans e35
    obtain rfl := r36
    refine wl_pure rfl rfl (v := .bool true) (by decide) (by kernel_rfl) ?_
    refine wl_assign rfl rfl (by decide) ?_
    refine wl_nil ?_
    refine eo_then ?_
    refine cw_ret ?_
    refine eo_thenR ?_
    refine eo_ret [.bool true] rfl ⟨rfl, trivial⟩ ?_
    exact bool_of _ _ ⟨_, rfl, rfl, hw8⟩
  ·
    by_cases hg : (Int.gcd x y : Int) = 1
    ·
      -- region 3
      refine cw_region ?_
      refine wl_load rfl rfl (load_agg aggInt (hb4.ext (e8.trans e13)) [.bool sa, .slice Aa na ca] rfl (Nat.le_of_ble_eq_true rfl) rfl) (by decide) ?_
      refine wl_load rfl rfl (load_agg aggInt (hb9.ext e13) [.bool sb, .slice Ab nb cb] rfl (Nat.le_of_ble_eq_true rfl) rfl) (by decide) ?_
      refine wl_call rfl rfl (vs := [.agg #[.bool sa, .slice Aa na ca], .agg #[.bool sb, .slice Ab nb cb]]) (by kernel_rfl) (by decide) (g_bezout_Inverse_ok hw3.size (hx.ext hw3) (Nat.le_trans la (by decide)) (hy.ext hw3) (Nat.le_trans lb (by decide)) hy0 hg) ?_
      rintro _ v37 ⟨u40, v41, p42, xr39, rfl, r39, e38⟩
      have L43 : ln (u40) ≤ 1048577 := (p42.ln_u Lx Ly)
      refine ret_intro ?_
      have hw4 : Ext w v37 := hw3.trans e38
      obtain ⟨a44_0, a44_1, rfl, r44_0, r44_1⟩ := r39
      obtain ⟨s45, A45, n45, c45, rfl, z45⟩ := r44_0
      obtain rfl := r44_1
      refine wl_move rfl rfl (by decide) ?_
      refine wl_pure rfl rfl (v := .agg #[.bool s45, .slice A45 n45 c45]) (by decide) (by kernel_rfl) ?_
      refine wl_pure rfl rfl (v := .int .i64 0) (by decide) (by kernel_rfl) ?_
      refine wl_alloc rfl (z := .agg #[.bool false, .slice none 0 0]) (vs := [.bool false, .slice none 0 0]) (fun _ => by kernel_rfl) rfl (by decide) fun g46 v47 nb => ?_
      have hb49 := nb.bk
      have ge50 : w.heap.size ≤ g46 := by rw [← nb.at_]; exact hw4.size
      have q51 : g6 < g46 := by rw [← nb.at_]; exact (hb9.ext (e13.trans e38)).lt
      have e48 := nb.ext
      clear nb
      have hw5 : Ext w v47 := hw4.trans e48
      have hb53 := hb49
      refine wl_stored rfl rfl rfl aggInt rfl hb53 (Nat.le_of_ble_eq_true rfl) rfl [.bool s45, .slice A45 n45 c45] rfl fun v52 hb54 u55 hs56 => ?_
      have hw6 : Ext w v52 := u55.ext hw5 ge50
      refine wl_assign rfl rfl (by decide) ?_
      refine wl_nil ?_
      refine eo_then ?_
      refine cw_seq ?_
      refine cw_seq ?_
      -- region 4
      refine cw_region ?_
      refine wl_load rfl rfl (load_agg aggInt ((hb9.ext (e13.trans (e38.trans e48))).updN u55 (by omega)) [.bool sb, .slice Ab nb cb] rfl (Nat.le_of_ble_eq_true rfl) rfl) (by decide) ?_
      refine wl_call rfl rfl (vs := [.agg #[.bool sb, .slice Ab nb cb]]) (by kernel_rfl) (by decide) (g_ref5_Sign (hy.ext hw6) (Nat.le_trans lb (by decide))) ?_
      rintro _ v57 ⟨xr59, rfl, r59, e58⟩
      refine ret_intro ?_
      have hw7 : Ext w v57 := hw6.trans e58
      obtain rfl := r59
      refine wl_cmp rfl rfl rfl false (scmp_eq_f hy0) (by decide) ?_
      refine wl_nil ?_
      refine eo_then ?_
      refine cw_false rfl ?_
      refine cw_skip ?_
      refine eo_then ?_
      refine cw_seq ?_
      refine cw_seq ?_
      -- region 6
      refine cw_region ?_
      refine wl_move rfl rfl (by decide) ?_
      refine wl_pure rfl rfl (v := .bool true) (by decide) (by kernel_rfl) ?_
      refine wl_nil ?_
      refine eo_then ?_
      refine cw_true rfl ?_
      refine cw_seq ?_
      -- region 7
      refine cw_region ?_
      refine wl_load rfl rfl (load_agg aggInt (((hb4.ext (e8.trans (e13.trans (e38.trans e48)))).updN u55 (by omega)).ext e58) [.bool sa, .slice Aa na ca] rfl (Nat.le_of_ble_eq_true rfl) rfl) (by decide) ?_
      refine wl_load rfl rfl (load_agg aggInt (hb54.ext e58) [.bool s45, .slice A45 n45 c45] rfl (Nat.le_of_ble_eq_true rfl) rfl) (by decide) ?_
      have L60 : ln (x * u40) ≤ 2097153 := Nat.le_trans (ln_mul Lx L43) (by decide)
      refine wl_call rfl rfl (vs := [.agg #[.bool sa, .slice Aa na ca], .agg #[.bool s45, .slice A45 n45 c45]]) (by kernel_rfl) (by decide) (g_ref5_Mul hw7.size (hx.ext hw7) (Nat.le_trans la (by decide)) (((z45.ext e48).updT hb53 u55).ext e58).zi (z45.le (Nat.le_trans L43 (by decide)))) ?_
      rintro _ v61 ⟨xr63, rfl, r63, e62⟩
      refine ret_intro ?_
      have hw8 : Ext w v61 := hw7.trans e62
      obtain ⟨s64, A64, n64, c64, rfl, z64⟩ := r63
      refine wl_call rfl rfl (vs := [.int .u64 1]) (by kernel_rfl) (by decide) ((g_law6_of hw8.size (by decide : 1 ≤ 18446744073709551615)).mono (Gv.imp (ZO.zr (by decide : 1 ≤ 18446744073709551615) (by decide : 1 ≠ 0)))) ?_
      rintro _ v65 ⟨xr67, rfl, r67, e66⟩
      refine ret_intro ?_
      have hw9 : Ext w v65 := hw8.trans e66
      obtain ⟨s68, A68, n68, c68, rfl, z68⟩ := r67
      have L69 : ln ((x * u40) - 1) ≤ 2097154 := Nat.le_trans (ln_sub L60 (show ln 1 ≤ 1 by decide +kernel)) (by decide)
      refine wl_call rfl rfl (vs := [.agg #[.bool s64, .slice A64 n64 c64], .agg #[.bool s68, .slice A68 n68 c68]]) (by kernel_rfl) (by decide) (g_ref5_Sub hw9.size (z64.ext e66).zi (z64.le (Nat.le_trans L60 (by decide))) z68.zi (z68.le (Nat.le_trans (show ln 1 ≤ 1 by decide +kernel) (by decide)))) ?_
      rintro _ v70 ⟨xr72, rfl, r72, e71⟩
      refine ret_intro ?_
      have hw10 : Ext w v70 := hw9.trans e71
      obtain ⟨s73, A73, n73, c73, rfl, z73⟩ := r72
      refine wl_alloc rfl (z := .agg #[.bool false, .slice none 0 0]) (vs := [.bool false, .slice none 0 0]) (fun _ => by kernel_rfl) rfl (by decide) fun g74 v75 nb => ?_
      have hb77 := nb.bk
      have ge78 : w.heap.size ≤ g74 := by rw [← nb.at_]; exact hw10.size
      have q79 : g46 < g74 := by rw [← nb.at_]; exact (hb54.ext (e58.trans (e62.trans (e66.trans e71)))).lt
      have e76 := nb.ext
      clear nb
      have hw11 : Ext w v75 := hw10.trans e76
      have hb81 := hb77
      refine wl_stored rfl rfl rfl aggInt rfl hb81 (Nat.le_of_ble_eq_true rfl) rfl [.bool s73, .slice A73 n73 c73] rfl fun v80 hb82 u83 hs84 => ?_
      have hw12 : Ext w v80 := u83.ext hw11 ge78
      refine wl_nil ?_
      refine eo_then ?_
      refine cw_seq ?_
      -- region 8
      refine cw_region ?_
      refine wl_load rfl rfl (load_agg aggInt ((hb54.ext (e58.trans (e62.trans (e66.trans (e71.trans e76))))).updN u83 (by omega)) [.bool s45, .slice A45 n45 c45] rfl (Nat.le_of_ble_eq_true rfl) rfl) (by decide) ?_
      refine wl_call rfl rfl (vs := [.agg #[.bool s45, .slice A45 n45 c45]]) (by kernel_rfl) (by decide) (g_law6_least ((((z45.ext e48).updT hb53 u55).ext (e58.trans (e62.trans (e66.trans (e71.trans e76))))).updT hb81 u83)) ?_
      rintro _ v85 ⟨xr87, rfl, r87, e86⟩
      refine ret_intro ?_
      have hw13 : Ext w v85 := hw12.trans e86
      obtain rfl := r87
      refine wl_move rfl rfl (by decide) ?_
      refine wl_load rfl rfl (load_agg aggInt (((hb54.ext (e58.trans (e62.trans (e66.trans (e71.trans e76))))).updN u83 (by omega)).ext e86) [.bool s45, .slice A45 n45 c45] rfl (Nat.le_of_ble_eq_true rfl) rfl) (by decide) ?_
      refine wl_load rfl rfl (load_agg aggInt (((((hb9.ext (e13.trans (e38.trans e48))).updN u55 (by omega)).ext (e58.trans (e62.trans (e66.trans (e71.trans e76))))).updN u83 (by omega)).ext e86) [.bool sb, .slice Ab nb cb] rfl (Nat.le_of_ble_eq_true rfl) rfl) (by decide) ?_
      refine wl_call rfl rfl (vs := [.agg #[.bool s45, .slice A45 n45 c45], .agg #[.bool sb, .slice Ab nb cb]]) (by kernel_rfl) (by decide) (g_law6_within (((((z45.ext e48).updT hb53 u55).ext (e58.trans (e62.trans (e66.trans (e71.trans e76))))).updT hb81 u83).ext e86).zi (z45.le (Nat.le_trans L43 (by decide))) (hy.ext hw13) (Nat.le_trans lb (by decide)) (p42.inr1 hy0 hg).1 (p42.inr1 hy0 hg).2) ?_
      rintro _ v88 ⟨xr90, rfl, r90, e89⟩
      refine ret_intro ?_
      have hw14 : Ext w v88 := hw13.trans e89
      obtain rfl := r90
      refine wl_pure rfl rfl (v := .bool true) (by decide) (by kernel_rfl) ?_
      refine wl_move rfl rfl (by decide) ?_
      refine wl_load rfl rfl (load_agg aggInt (((((hb9.ext (e13.trans (e38.trans e48))).updN u55 (by omega)).ext (e58.trans (e62.trans (e66.trans (e71.trans e76))))).updN u83 (by omega)).ext (e86.trans e89)) [.bool sb, .slice Ab nb cb] rfl (Nat.le_of_ble_eq_true rfl) rfl) (by decide) ?_
      refine wl_load rfl rfl (load_agg aggInt (hb82.ext (e86.trans e89)) [.bool s73, .slice A73 n73 c73] rfl (Nat.le_of_ble_eq_true rfl) rfl) (by decide) ?_
      refine wl_call rfl rfl (vs := [.agg #[.bool sb, .slice Ab nb cb], .agg #[.bool s73, .slice A73 n73 c73]]) (by kernel_rfl) (by decide) (g_law6_divides (hy.ext hw14) (Nat.le_trans lb (by decide)) (((z73.ext e76).updT hb81 u83).ext (e86.trans e89)).zi (z73.le (Nat.le_trans L69 (by decide))) (p42.one hg)) ?_
      rintro _ v91 ⟨xr93, rfl, r93, e92⟩
      refine ret_intro ?_
      have hw15 : Ext w v91 := hw14.trans e92
      obtain rfl := r93
      refine wl_pure rfl rfl (v := .bool true) (by decide) (by kernel_rfl) ?_
      refine wl_assign rfl rfl (by decide) ?_
      refine wl_nil ?_
      refine eo_then ?_
      refine cw_ret ?_
      refine eo_thenR ?_
      refine eo_ret [.bool true] rfl ⟨rfl, trivial⟩ ?_
      exact bool_of _ _ ⟨_, rfl, rfl, hw15⟩
    ·
      have hgp := Int.gcd_pos_of_ne_zero_right x hy0
      -- region 3
      refine cw_region ?_
      refine wl_load rfl rfl (load_agg aggInt (hb4.ext (e8.trans e13)) [.bool sa, .slice Aa na ca] rfl (Nat.le_of_ble_eq_true rfl) rfl) (by decide) ?_
      refine wl_load rfl rfl (load_agg aggInt (hb9.ext e13) [.bool sb, .slice Ab nb cb] rfl (Nat.le_of_ble_eq_true rfl) rfl) (by decide) ?_
      refine wl_call rfl rfl (vs := [.agg #[.bool sa, .slice Aa na ca], .agg #[.bool sb, .slice Ab nb cb]]) (by kernel_rfl) (by decide) (g_bezout_Inverse_none hw3.size (hx.ext hw3) (Nat.le_trans la (by decide)) (hy.ext hw3) (Nat.le_trans lb (by decide)) hy0 hg) ?_
      rintro _ v94 ⟨xr96, rfl, r96, e95⟩
      refine ret_intro ?_
      have hw4 : Ext w v94 := hw3.trans e95
      obtain ⟨a97_0, a97_1, rfl, r97_0, r97_1⟩ := r96
      obtain ⟨s98, A98, n98, c98, rfl, z98⟩ := r97_0
      obtain rfl := r97_1
      refine wl_move rfl rfl (by decide) ?_
      refine wl_pure rfl rfl (v := .agg #[.bool s98, .slice A98 n98 c98]) (by decide) (by kernel_rfl) ?_
      refine wl_pure rfl rfl (v := .int .i64 6) (by decide) (by kernel_rfl) ?_
      refine wl_alloc rfl (z := .agg #[.bool false, .slice none 0 0]) (vs := [.bool false, .slice none 0 0]) (fun _ => by kernel_rfl) rfl (by decide) fun g99 v100 nb => ?_
      have hb102 := nb.bk
      have ge103 : w.heap.size ≤ g99 := by rw [← nb.at_]; exact hw4.size
      have q104 : g6 < g99 := by rw [← nb.at_]; exact (hb9.ext (e13.trans e95)).lt
      have e101 := nb.ext
      clear nb
      have hw5 : Ext w v100 := hw4.trans e101
      have hb106 := hb102
      refine wl_stored rfl rfl rfl aggInt rfl hb106 (Nat.le_of_ble_eq_true rfl) rfl [.bool s98, .slice A98 n98 c98] rfl fun v105 hb107 u108 hs109 => ?_
      have hw6 : Ext w v105 := u108.ext hw5 ge103
      refine wl_assign rfl rfl (by decide) ?_
      refine wl_nil ?_
      refine eo_then ?_
      refine cw_seq ?_
      refine cw_seq ?_
      -- region 4
      refine cw_region ?_
      refine wl_load rfl rfl (load_agg aggInt ((hb9.ext (e13.trans (e95.trans e101))).updN u108 (by omega)) [.bool sb, .slice Ab nb cb] rfl (Nat.le_of_ble_eq_true rfl) rfl) (by decide) ?_
      refine wl_call rfl rfl (vs := [.agg #[.bool sb, .slice Ab nb cb]]) (by kernel_rfl) (by decide) (g_ref5_Sign (hy.ext hw6) (Nat.le_trans lb (by decide))) ?_
      rintro _ v110 ⟨xr112, rfl, r112, e111⟩
      refine ret_intro ?_
      have hw7 : Ext w v110 := hw6.trans e111
      obtain rfl := r112
      refine wl_cmp rfl rfl rfl false (scmp_eq_f hy0) (by decide) ?_
      refine wl_nil ?_
      refine eo_then ?_
      refine cw_false rfl ?_
      refine cw_skip ?_
      refine eo_then ?_
      refine cw_seq ?_
      refine cw_seq ?_
      -- region 6
      refine cw_region ?_
      refine wl_move rfl rfl (by decide) ?_
      refine wl_pure rfl rfl (v := .bool false) (by decide) (by kernel_rfl) ?_
      refine wl_nil ?_
      refine eo_then ?_
      refine cw_false rfl ?_
      refine cw_skip ?_
      refine eo_then ?_
      refine cw_seq ?_
      -- region 9
      refine cw_region ?_
      refine wl_load rfl rfl (load_agg aggInt (((hb4.ext (e8.trans (e13.trans (e95.trans e101)))).updN u108 (by omega)).ext e111) [.bool sa, .slice Aa na ca] rfl (Nat.le_of_ble_eq_true rfl) rfl) (by decide) ?_
      refine wl_load rfl rfl (load_agg aggInt (((hb9.ext (e13.trans (e95.trans e101))).updN u108 (by omega)).ext e111) [.bool sb, .slice Ab nb cb] rfl (Nat.le_of_ble_eq_true rfl) rfl) (by decide) ?_
      have L113 : ln ((Int.gcd x y : Int)) ≤ 1048576 := Nat.le_trans (ln_gcd _ _) (Nat.max_le.2 ⟨Nat.le_trans Lx (by decide), Nat.le_trans Ly (by decide)⟩)
      refine wl_call rfl rfl (vs := [.agg #[.bool sa, .slice Aa na ca], .agg #[.bool sb, .slice Ab nb cb]]) (by kernel_rfl) (by decide) (g_bezout_Gcd hw7.size (hx.ext hw7) (Nat.le_trans la (by decide)) (hy.ext hw7) (Nat.le_trans lb (by decide))) ?_
      rintro _ v114 ⟨xr116, rfl, r116, e115⟩
      refine ret_intro ?_
      have hw8 : Ext w v114 := hw7.trans e115
      obtain ⟨s117, A117, n117, c117, rfl, z117⟩ := r116
      refine wl_alloc rfl (z := .agg #[.bool false, .slice none 0 0]) (vs := [.bool false, .slice none 0 0]) (fun _ => by kernel_rfl) rfl (by decide) fun g118 v119 nb => ?_
      have hb121 := nb.bk
      have ge122 : w.heap.size ≤ g118 := by rw [← nb.at_]; exact hw8.size
      have q123 : g99 < g118 := by rw [← nb.at_]; exact (hb107.ext (e111.trans e115)).lt
      have e120 := nb.ext
      clear nb
      have hw9 : Ext w v119 := hw8.trans e120
      have hb125 := hb121
      refine wl_stored rfl rfl rfl aggInt rfl hb125 (Nat.le_of_ble_eq_true rfl) rfl [.bool s117, .slice A117 n117 c117] rfl fun v124 hb126 u127 hs128 => ?_
      have hw10 : Ext w v124 := u127.ext hw9 ge122
      refine wl_nil ?_
      refine eo_then ?_
      refine cw_seq ?_
      -- region 10, in whatever order
      refine cw_draw mix 23 [] [Is (.int .i64 6), Is (.bool true), Is (.bool true), Is (.agg #[.bool s98, .slice A98 n98 c98]), Is (.agg #[.bool false, .slice none 0 0]), Is (.bool true), Is (.bool true), Is (.bool true), Is (.agg #[.bool s117, .slice A117 n117 c117]), ZR w.heap.size (1), Is (.int .i64 (scmp (Int.gcd x y : Int) 1)), Is (.bool true), Is (.bool true), Is (.bool true), Is (.agg #[.bool s117, .slice A117 n117 c117]), Is (.agg #[.bool sa, .slice Aa na ca]), Is (.bool true), Is (.bool true), Is (.bool true), Is (.agg #[.bool s117, .slice A117 n117 c117]), Is (.agg #[.bool sb, .slice Ab nb cb]), Is (.bool true), Is (.bool true)] [[], [0], [1], [2], [2], [2, 3, 4], [2, 5], [6], [7], [7], [7, 8, 9], [7, 10], [7, 11], [12], [13], [13], [13, 14, 15], [13, 16], [17], [18], [18], [18, 19, 20], [18, 21]] [[], [0], [0, 1], [0, 1, 2], [0, 1, 2], [0, 1, 2, 3, 4], [0, 1, 2, 3, 4, 5], [0, 1, 2, 3, 4, 5, 6], [0, 1, 2, 3, 4, 5, 6, 7], [0, 1, 2, 3, 4, 5, 6, 7], [0, 1, 2, 3, 4, 5, 6, 7, 8, 9], [0, 1, 2, 3, 4, 5, 6, 7, 8, 9, 10], [0, 1, 2, 3, 4, 5, 6, 7, 8, 9, 10, 11], [0, 1, 2, 3, 4, 5, 6, 7, 8, 9, 10, 11, 12], [0, 1, 2, 3, 4, 5, 6, 7, 8, 9, 10, 11, 12, 13], [0, 1, 2, 3, 4, 5, 6, 7, 8, 9, 10, 11, 12, 13], [0, 1, 2, 3, 4, 5, 6, 7, 8, 9, 10, 11, 12, 13, 14, 15], [0, 1, 2, 3, 4, 5, 6, 7, 8, 9, 10, 11, 12, 13, 14, 15, 16], [0, 1, 2, 3, 4, 5, 6, 7, 8, 9, 10, 11, 12, 13, 14, 15, 16, 17], [0, 1, 2, 3, 4, 5, 6, 7, 8, 9, 10, 11, 12, 13, 14, 15, 16, 17, 18], [0, 1, 2, 3, 4, 5, 6, 7, 8, 9, 10, 11, 12, 13, 14, 15, 16, 17, 18], [0, 1, 2, 3, 4, 5, 6, 7, 8, 9, 10, 11, 12, 13, 14, 15, 16, 17, 18, 19, 20], [0, 1, 2, 3, 4, 5, 6, 7, 8, 9, 10, 11, 12, 13, 14, 15, 16, 17, 18, 19, 20, 21], [0, 1, 2, 3, 4, 5, 6, 7, 8, 9, 10, 11, 12, 13, 14, 15, 16, 17, 18, 19, 20, 21, 22]] rfl
        (obs_cons rfl rfl (hob rfl rfl ?_) (obs_cons rfl rfl (hob rfl rfl ?_) (obs_cons rfl rfl (hob rfl rfl ?_) (obs_cons rfl rfl (hob rfl rfl ?_) (obs_cons rfl rfl (hob rfl rfl ?_) (obs_cons rfl rfl (hob rfl rfl ?_) (obs_cons rfl rfl (hob rfl rfl ?_) (obs_cons rfl rfl (hob rfl rfl ?_) (obs_cons rfl rfl (hob rfl rfl ?_) (obs_cons rfl rfl (hob rfl rfl ?_) (obs_cons rfl rfl (hob rfl rfl ?_) (obs_cons rfl rfl (hob rfl rfl ?_) (obs_cons rfl rfl (hob rfl rfl ?_) (obs_cons rfl rfl (hob rfl rfl ?_) (obs_cons rfl rfl (hob rfl rfl ?_) (obs_cons rfl rfl (hob rfl rfl ?_) (obs_cons rfl rfl (hob rfl rfl ?_) (obs_cons rfl rfl (hob rfl rfl ?_) (obs_cons rfl rfl (hob rfl rfl ?_) (obs_cons rfl rfl (hob rfl rfl ?_) (obs_cons rfl rfl (hob rfl rfl ?_) (obs_cons rfl rfl (hob rfl rfl ?_) (obs_cons rfl rfl (hob rfl rfl ?_) obs_nil))))))))))))))))))))))) ?_
      · -- 0
        intro v130 e131
        have hw11 : Ext w v130 := hw10.trans e131
        refine deps_nil ?_
        refine wl_move rfl rfl (by decide) ?_
        exact pi_done rfl (Ext.refl _) rfl
      · -- 1
        intro v132 e133
        have hw11 : Ext w v132 := hw10.trans e133
        refine deps_cons rfl rfl fun x134 y135 h136 e137 f138 => ?_
        obtain rfl := h136
        refine deps_nil ?_
        refine wl_pure rfl rfl (v := .bool true) (by decide) (by kernel_rfl) ?_
        exact pi_done rfl (Ext.refl _) rfl
      · -- 2
        intro v139 e140
        have hw11 : Ext w v139 := hw10.trans e140
        refine deps_cons rfl rfl fun x141 y142 h143 e144 f145 => ?_
        obtain rfl := h143
        refine deps_nil ?_
        refine wl_move rfl rfl (by decide) ?_
        exact pi_done rfl (Ext.refl _) rfl
      · -- 3
        intro v146 e147
        have hw11 : Ext w v146 := hw10.trans e147
        refine deps_cons rfl rfl fun x148 y149 h150 e151 f152 => ?_
        obtain rfl := h150
        refine deps_nil ?_
        refine wl_load rfl rfl (load_agg aggInt (((hb107.ext (e111.trans (e115.trans e120))).updN u127 (by omega)).ext e147) [.bool s98, .slice A98 n98 c98] rfl (Nat.le_of_ble_eq_true rfl) rfl) (by decide) ?_
        exact pi_done rfl (Ext.refl _) rfl
      · -- 4
        intro v153 e154
        have hw11 : Ext w v153 := hw10.trans e154
        refine deps_cons rfl rfl fun x155 y156 h157 e158 f159 => ?_
        obtain rfl := h157
        refine deps_nil ?_
        refine wl_pure rfl rfl (v := .agg #[.bool false, .slice none 0 0]) (by decide) (by kernel_rfl) ?_
        exact pi_done rfl (Ext.refl _) rfl
      · -- 5
        intro v160 e161
        have hw11 : Ext w v160 := hw10.trans e161
        refine deps_cons rfl rfl fun x162 y163 h164 e165 f166 => ?_
        obtain rfl := h164
        refine deps_cons rfl rfl fun x167 y168 h169 e170 f171 => ?_
        obtain rfl := h169
        refine deps_cons rfl rfl fun x172 y173 h174 e175 f176 => ?_
        obtain rfl := h174
        refine deps_nil ?_
        refine wl_call rfl rfl (vs := [.agg #[.bool s98, .slice A98 n98 c98], .agg #[.bool false, .slice none 0 0]]) (by kernel_rfl) (by decide) (g_law6_alike (((((z98.ext e101).updT hb106 u108).ext (e111.trans (e115.trans e120))).updT hb125 u127).ext e161) (z98.le (Nat.le_trans (show ln 0 ≤ 0 by decide) (by decide))) ((Zr.zero (w := v124) (base := w.heap.size)).ext e161) ((Zr.zero (w := v124) (base := w.heap.size)).le (Nat.le_trans (by decide : ln 0 ≤ 0) (by decide)))) ?_
        rintro _ v177 ⟨xr179, rfl, r179, e178⟩
        refine ret_intro ?_
        have hw12 : Ext w v177 := hw11.trans e178
        obtain rfl := r179
        exact pi_done rfl e178 rfl
      · -- 6
        intro v180 e181
        have hw11 : Ext w v180 := hw10.trans e181
        refine deps_cons rfl rfl fun x182 y183 h184 e185 f186 => ?_
        obtain rfl := h184
        refine deps_cons rfl rfl fun x187 y188 h189 e190 f191 => ?_
        obtain rfl := h189
        refine deps_nil ?_
        refine wl_pure rfl rfl (v := .bool true) (by decide) (by kernel_rfl) ?_
        exact pi_done rfl (Ext.refl _) rfl
      · -- 7
        intro v192 e193
        have hw11 : Ext w v192 := hw10.trans e193
        refine deps_cons rfl rfl fun x194 y195 h196 e197 f198 => ?_
        obtain rfl := h196
        refine deps_nil ?_
        refine wl_move rfl rfl (by decide) ?_
        exact pi_done rfl (Ext.refl _) rfl
      · -- 8
        intro v199 e200
        have hw11 : Ext w v199 := hw10.trans e200
        refine deps_cons rfl rfl fun x201 y202 h203 e204 f205 => ?_
        obtain rfl := h203
        refine deps_nil ?_
        refine wl_load rfl rfl (load_agg aggInt (hb126.ext e200) [.bool s117, .slice A117 n117 c117] rfl (Nat.le_of_ble_eq_true rfl) rfl) (by decide) ?_
        exact pi_done rfl (Ext.refl _) rfl
      · -- 9
        intro v206 e207
        have hw11 : Ext w v206 := hw10.trans e207
        refine deps_cons rfl rfl fun x208 y209 h210 e211 f212 => ?_
        obtain rfl := h210
        refine deps_nil ?_
        refine wl_call rfl rfl (vs := [.int .u64 1]) (by kernel_rfl) (by decide) ((g_law6_of hw11.size (by decide : 1 ≤ 18446744073709551615)).mono (Gv.imp (ZO.zr (by decide : 1 ≤ 18446744073709551615) (by decide : 1 ≠ 0)))) ?_
        rintro _ v213 ⟨xr215, rfl, r215, e214⟩
        refine ret_intro ?_
        have hw12 : Ext w v213 := hw11.trans e214
        obtain ⟨s216, A216, n216, c216, rfl, z216⟩ := r215
        exact pi_done rfl e214 ⟨_, _, _, _, rfl, z216⟩
      · -- 10
        intro v217 e218
        have hw11 : Ext w v217 := hw10.trans e218
        refine deps_cons rfl rfl fun x219 y220 h221 e222 f223 => ?_
        obtain rfl := h221
        refine deps_cons rfl rfl fun x224 y225 h226 e227 f228 => ?_
        obtain rfl := h226
        refine deps_cons rfl rfl fun x229 y230 h231 e232 f233 => ?_
        obtain ⟨s234, A234, n234, c234, rfl, z234⟩ := h231
        have z234 := z234.ext f233
        refine deps_nil ?_
        refine wl_call rfl rfl (vs := [.agg #[.bool s117, .slice A117 n117 c117], .agg #[.bool s234, .slice A234 n234 c234]]) (by kernel_rfl) (by decide) (g_ref5_Cmp (((z117.ext e120).updT hb125 u127).ext e218).zi (z117.le (Nat.le_trans L113 (by decide))) z234.zi (z234.le (Nat.le_trans (show ln 1 ≤ 1 by decide +kernel) (by decide)))) ?_
        rintro _ v235 ⟨xr237, rfl, r237, e236⟩
        refine ret_intro ?_
        have hw12 : Ext w v235 := hw11.trans e236
        obtain rfl := r237
        exact pi_done rfl e236 rfl
      · -- 11
        intro v238 e239
        have hw11 : Ext w v238 := hw10.trans e239
        refine deps_cons rfl rfl fun x240 y241 h242 e243 f244 => ?_
        obtain rfl := h242
        refine deps_cons rfl rfl fun x245 y246 h247 e248 f249 => ?_
        obtain rfl := h247
        refine deps_nil ?_
        refine wl_cmp rfl rfl rfl true (scmp_gt_t (by omega)) (by decide) ?_
        exact pi_done rfl (Ext.refl _) rfl
      · -- 12
        intro v250 e251
        have hw11 : Ext w v250 := hw10.trans e251
        refine deps_cons rfl rfl fun x252 y253 h254 e255 f256 => ?_
        obtain rfl := h254
        refine deps_cons rfl rfl fun x257 y258 h259 e260 f261 => ?_
        obtain rfl := h259
        refine deps_nil ?_
        refine wl_pure rfl rfl (v := .bool true) (by decide) (by kernel_rfl) ?_
        exact pi_done rfl (Ext.refl _) rfl
      · -- 13
        intro v262 e263
        have hw11 : Ext w v262 := hw10.trans e263
        refine deps_cons rfl rfl fun x264 y265 h266 e267 f268 => ?_
        obtain rfl := h266
        refine deps_nil ?_
        refine wl_move rfl rfl (by decide) ?_
        exact pi_done rfl (Ext.refl _) rfl
      · -- 14
        intro v269 e270
        have hw11 : Ext w v269 := hw10.trans e270
        refine deps_cons rfl rfl fun x271 y272 h273 e274 f275 => ?_
        obtain rfl := h273
        refine deps_nil ?_
        refine wl_load rfl rfl (load_agg aggInt (hb126.ext e270) [.bool s117, .slice A117 n117 c117] rfl (Nat.le_of_ble_eq_true rfl) rfl) (by decide) ?_
        exact pi_done rfl (Ext.refl _) rfl
      · -- 15
        intro v276 e277
        have hw11 : Ext w v276 := hw10.trans e277
        refine deps_cons rfl rfl fun x278 y279 h280 e281 f282 => ?_
        obtain rfl := h280
        refine deps_nil ?_
        refine wl_load rfl rfl (load_agg aggInt (((((hb4.ext (e8.trans (e13.trans (e95.trans e101)))).updN u108 (by omega)).ext (e111.trans (e115.trans e120))).updN u127 (by omega)).ext e277) [.bool sa, .slice Aa na ca] rfl (Nat.le_of_ble_eq_true rfl) rfl) (by decide) ?_
        exact pi_done rfl (Ext.refl _) rfl
      · -- 16
        intro v283 e284
        have hw11 : Ext w v283 := hw10.trans e284
        refine deps_cons rfl rfl fun x285 y286 h287 e288 f289 => ?_
        obtain rfl := h287
        refine deps_cons rfl rfl fun x290 y291 h292 e293 f294 => ?_
        obtain rfl := h292
        refine deps_cons rfl rfl fun x295 y296 h297 e298 f299 => ?_
        obtain rfl := h297
        refine deps_nil ?_
        refine wl_call rfl rfl (vs := [.agg #[.bool s117, .slice A117 n117 c117], .agg #[.bool sa, .slice Aa na ca]]) (by kernel_rfl) (by decide) (g_law6_divides (((z117.ext e120).updT hb125 u127).ext e284).zi (z117.le (Nat.le_trans L113 (by decide))) (hx.ext hw11) (Nat.le_trans la (by decide)) (Int.gcd_dvd_left x y)) ?_
        rintro _ v300 ⟨xr302, rfl, r302, e301⟩
        refine ret_intro ?_
        have hw12 : Ext w v300 := hw11.trans e301
        obtain rfl := r302
        exact pi_done rfl e301 rfl
      · -- 17
        intro v303 e304
        have hw11 : Ext w v303 := hw10.trans e304
        refine deps_cons rfl rfl fun x305 y306 h307 e308 f309 => ?_
        obtain rfl := h307
        refine deps_cons rfl rfl fun x310 y311 h312 e313 f314 => ?_
        obtain rfl := h312
        refine deps_nil ?_
        refine wl_pure rfl rfl (v := .bool true) (by decide) (by kernel_rfl) ?_
        exact pi_done rfl (Ext.refl _) rfl
      · -- 18
        intro v315 e316
        have hw11 : Ext w v315 := hw10.trans e316
        refine deps_cons rfl rfl fun x317 y318 h319 e320 f321 => ?_
        obtain rfl := h319
        refine deps_nil ?_
        refine wl_move rfl rfl (by decide) ?_
        exact pi_done rfl (Ext.refl _) rfl
      · -- 19
        intro v322 e323
        have hw11 : Ext w v322 := hw10.trans e323
        refine deps_cons rfl rfl fun x324 y325 h326 e327 f328 => ?_
        obtain rfl := h326
        refine deps_nil ?_
        refine wl_load rfl rfl (load_agg aggInt (hb126.ext e323) [.bool s117, .slice A117 n117 c117] rfl (Nat.le_of_ble_eq_true rfl) rfl) (by decide) ?_
        exact pi_done rfl (Ext.refl _) rfl
      · -- 20
        intro v329 e330
        have hw11 : Ext w v329 := hw10.trans e330
        refine deps_cons rfl rfl fun x331 y332 h333 e334 f335 => ?_
        obtain rfl := h333
        refine deps_nil ?_
        refine wl_load rfl rfl (load_agg aggInt (((((hb9.ext (e13.trans (e95.trans e101))).updN u108 (by omega)).ext (e111.trans (e115.trans e120))).updN u127 (by omega)).ext e330) [.bool sb, .slice Ab nb cb] rfl (Nat.le_of_ble_eq_true rfl) rfl) (by decide) ?_
        exact pi_done rfl (Ext.refl _) rfl
      · -- 21
        intro v336 e337
        have hw11 : Ext w v336 := hw10.trans e337
        refine deps_cons rfl rfl fun x338 y339 h340 e341 f342 => ?_
        obtain rfl := h340
        refine deps_cons rfl rfl fun x343 y344 h345 e346 f347 => ?_
        obtain rfl := h345
        refine deps_cons rfl rfl fun x348 y349 h350 e351 f352 => ?_
        obtain rfl := h350
        refine deps_nil ?_
        refine wl_call rfl rfl (vs := [.agg #[.bool s117, .slice A117 n117 c117], .agg #[.bool sb, .slice Ab nb cb]]) (by kernel_rfl) (by decide) (g_law6_divides (((z117.ext e120).updT hb125 u127).ext e337).zi (z117.le (Nat.le_trans L113 (by decide))) (hy.ext hw11) (Nat.le_trans lb (by decide)) (Int.gcd_dvd_right x y)) ?_
        rintro _ v353 ⟨xr355, rfl, r355, e354⟩
        refine ret_intro ?_
        have hw12 : Ext w v353 := hw11.trans e354
        obtain rfl := r355
        exact pi_done rfl e354 rfl
      · -- 22
        intro v356 e357
        have hw11 : Ext w v356 := hw10.trans e357
        refine deps_cons rfl rfl fun x358 y359 h360 e361 f362 => ?_
        obtain rfl := h360
        refine deps_cons rfl rfl fun x363 y364 h365 e366 f367 => ?_
        obtain rfl := h365
        refine deps_nil ?_
        refine wl_pure rfl rfl (v := .bool true) (by decide) (by kernel_rfl) ?_
        exact pi_done rfl (Ext.refl _) rfl
      · -- all
        intro v368 e369
        have hw11 : Ext w v368 := hw10.trans e369
        refine deps_cons rfl rfl fun x370 y371 h372 e373 f374 => ?_
        obtain rfl := h372
        refine deps_cons rfl rfl fun x375 y376 h377 e378 f379 => ?_
        obtain rfl := h377
        refine deps_cons rfl rfl fun x380 y381 h382 e383 f384 => ?_
        obtain rfl := h382
        refine deps_cons rfl rfl fun x385 y386 h387 e388 f389 => ?_
        obtain rfl := h387
        refine deps_cons rfl rfl fun x390 y391 h392 e393 f394 => ?_
        obtain rfl := h392
        refine deps_cons rfl rfl fun x395 y396 h397 e398 f399 => ?_
        obtain rfl := h397
        refine deps_cons rfl rfl fun x400 y401 h402 e403 f404 => ?_
        obtain rfl := h402
        refine deps_cons rfl rfl fun x405 y406 h407 e408 f409 => ?_
        obtain rfl := h407
        refine deps_cons rfl rfl fun x410 y411 h412 e413 f414 => ?_
        obtain rfl := h412
        refine deps_cons rfl rfl fun x415 y416 h417 e418 f419 => ?_
        obtain ⟨s420, A420, n420, c420, rfl, z420⟩ := h417
        have z420 := z420.ext f419
        refine deps_cons rfl rfl fun x421 y422 h423 e424 f425 => ?_
        obtain rfl := h423
        refine deps_cons rfl rfl fun x426 y427 h428 e429 f430 => ?_
        obtain rfl := h428
        refine deps_cons rfl rfl fun x431 y432 h433 e434 f435 => ?_
        obtain rfl := h433
        refine deps_cons rfl rfl fun x436 y437 h438 e439 f440 => ?_
        obtain rfl := h438
        refine deps_cons rfl rfl fun x441 y442 h443 e444 f445 => ?_
        obtain rfl := h443
        refine deps_cons rfl rfl fun x446 y447 h448 e449 f450 => ?_
        obtain rfl := h448
        refine deps_cons rfl rfl fun x451 y452 h453 e454 f455 => ?_
        obtain rfl := h453
        refine deps_cons rfl rfl fun x456 y457 h458 e459 f460 => ?_
        obtain rfl := h458
        refine deps_cons rfl rfl fun x461 y462 h463 e464 f465 => ?_
        obtain rfl := h463
        refine deps_cons rfl rfl fun x466 y467 h468 e469 f470 => ?_
        obtain rfl := h468
        refine deps_cons rfl rfl fun x471 y472 h473 e474 f475 => ?_
        obtain rfl := h473
        refine deps_cons rfl rfl fun x476 y477 h478 e479 f480 => ?_
        obtain rfl := h478
        refine deps_cons rfl rfl fun x481 y482 h483 e484 f485 => ?_
        obtain rfl := h483
        refine deps_nil ?_
        refine wl_assign rfl rfl (by decide) ?_
        refine wl_nil ?_
        refine eo_np ?_
        refine eo_then ?_
        refine cw_ret ?_
        refine eo_ret [.bool true] rfl ⟨rfl, trivial⟩ ?_
        exact bool_of _ _ ⟨_, rfl, rfl, hw11⟩

end Go.Proofs.Ytmaconeeonkdgaa
