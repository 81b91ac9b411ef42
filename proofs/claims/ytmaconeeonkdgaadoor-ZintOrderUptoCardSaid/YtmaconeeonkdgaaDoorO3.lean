/- Parts Law5o, joined. -/
import Derived.Test.YtmaconeeonkdgaaDoorO2

namespace Go.Proofs.YtmaconeeonkdgaaDoor
open Go.RowKit
set_option maxHeartbeats 8000000 in
set_option maxRecDepth 20000 in
theorem law_ZintOrder {w : World} {sa : Bool} {Aa : Option Addr} {na ca : Nat} {x : Int} {sb : Bool} {Ab : Option Addr} {nb cb : Nat} {y : Int} {sf : Bool} {Af : Option Addr} {nf cf : Nat} {z : Int} (hx : Zi w sa Aa na ca x) (la : na ≤ 1048576) (hy : Zi w sb Ab nb cb y) (lb : nb ≤ 1048576) (hz : Zi w sf Af nf cf z) (lf : nf ≤ 1048576) (hS : Signs w) :
    Calls Tryd.prog 4 #[.agg #[.bool sa, .slice Aa na ca], .agg #[.bool sb, .slice Ab nb cb], .agg #[.bool sf, .slice Af nf cf]] w (BoolP true w) := by
  have Lx : ln x ≤ 1048576 := Nat.le_trans hx.ln la
  have Ly : ln y ≤ 1048576 := Nat.le_trans hy.ln lb
  have Lz : ln z ≤ 1048576 := Nat.le_trans hz.ln lf
  refine sx_enter Tryd.func4 rfl (n := 118) rfl (Nat.le_of_ble_eq_true rfl) (args := [.agg #[.bool sa, .slice Aa na ca], .agg #[.bool sb, .slice Ab nb cb], .agg #[.bool sf, .slice Af nf cf]]) ?_
  refine cw_keep [(0, .agg #[.bool sa, .slice Aa na ca]), (1, .agg #[.bool sb, .slice Ab nb cb]), (2, .agg #[.bool sf, .slice Af nf cf])] ⟨rfl, rfl, rfl, trivial⟩ ?_
  refine cw_seq ?_
  refine cw_region ?_
  refine wl_box rfl rfl (vs := [.bool sa, .slice Aa na ca]) rfl (by decide) fun g1 v2 nb => ?_
  have hb4 := nb.bk
  have ge5 : w.heap.size ≤ g1 := by rw [← nb.at_]; exact (Ext.refl w).size
  have e3 := nb.ext
  clear nb
  have hw1 : Ext w v2 := (Ext.refl w).trans e3
  refine wl_box rfl rfl (vs := [.bool sb, .slice Ab nb cb]) rfl (by decide) fun g6 v7 nb => ?_
  have hb9 := nb.bk
  have ge10 : w.heap.size ≤ g6 := by rw [← nb.at_]; exact hw1.size
  have q11 : g1 < g6 := by rw [← nb.at_]; exact hb4.lt
  have e8 := nb.ext
  clear nb
  have hw2 : Ext w v7 := hw1.trans e8
  refine wl_box rfl rfl (vs := [.bool sf, .slice Af nf cf]) rfl (by decide) fun g12 v13 nb => ?_
  have hb15 := nb.bk
  have ge16 : w.heap.size ≤ g12 := by rw [← nb.at_]; exact hw2.size
  have q17 : g6 < g12 := by rw [← nb.at_]; exact hb9.lt
  have e14 := nb.ext
  clear nb
  have hw3 : Ext w v13 := hw2.trans e14
  refine wl_assign rfl rfl (by decide) ?_
  refine wl_nil ?_
  refine eo_then ?_
  refine cw_seq ?_
  refine cw_seq ?_
  refine cw_region ?_
  refine wl_call rfl rfl (vs := []) (by kernel_rfl) (by decide) (g_law5_awake (hS.ext hw3)) ?_
  rintro _ v18 ⟨xr20, rfl, r20, e19⟩
  refine ret_intro ?_
  have hw4 : Ext w v18 := hw3.trans e19
  obtain rfl := r20
  refine wl_pure rfl rfl (v := .bool false) (by decide) (by kernel_rfl) ?_
  refine wl_nil ?_
  refine eo_then ?_
  refine cw_false rfl ?_
  refine cw_skip ?_
  refine eo_then ?_
  refine cw_seq ?_
  refine cw_region ?_
  refine wl_load rfl rfl (load_agg aggInt (hb4.ext (e8.trans (e14.trans e19))) [.bool sa, .slice Aa na ca] rfl (Nat.le_of_ble_eq_true rfl) rfl) (by decide) ?_
  refine wl_load rfl rfl (load_agg aggInt (hb9.ext (e14.trans e19)) [.bool sb, .slice Ab nb cb] rfl (Nat.le_of_ble_eq_true rfl) rfl) (by decide) ?_
  refine wl_call rfl rfl (vs := [.agg #[.bool sa, .slice Aa na ca], .agg #[.bool sb, .slice Ab nb cb]]) (by kernel_rfl) (by decide) (g_zint_Cmp (hx.ext hw4) (Nat.le_trans la (by decide)) (hy.ext hw4) (Nat.le_trans lb (by decide))) ?_
  rintro _ v21 ⟨xr23, rfl, r23, e22⟩
  refine ret_intro ?_
  have hw5 : Ext w v21 := hw4.trans e22
  obtain rfl := r23
  refine wl_assign rfl rfl (by decide) ?_
  refine wl_nil ?_
  refine eo_then ?_
  refine cw_seq ?_
  refine cw_seq ?_
  refine cw_region ?_
  refine wl_move rfl rfl (by decide) ?_
  refine wl_cmp rfl rfl rfl false (lt_f (by have := scmp_bd x y; omega)) (by decide) ?_
  refine wl_move rfl rfl (by decide) ?_
  refine wl_move rfl rfl (by decide) ?_
  refine wl_cmp rfl rfl rfl false (gt_f (by have := scmp_bd x y; omega)) (by decide) ?_
  refine wl_pure rfl rfl (v := .bool false) (by decide) (by kernel_rfl) ?_
  refine wl_move rfl rfl (by decide) ?_
  refine wl_load rfl rfl (load_agg aggInt (hb9.ext (e14.trans (e19.trans e22))) [.bool sb, .slice Ab nb cb] rfl (Nat.le_of_ble_eq_true rfl) rfl) (by decide) ?_
  refine wl_load rfl rfl (load_agg aggInt (hb4.ext (e8.trans (e14.trans (e19.trans e22)))) [.bool sa, .slice Aa na ca] rfl (Nat.le_of_ble_eq_true rfl) rfl) (by decide) ?_
  refine wl_call rfl rfl (vs := [.agg #[.bool sb, .slice Ab nb cb], .agg #[.bool sa, .slice Aa na ca]]) (by kernel_rfl) (by decide) (g_zint_Cmp (hy.ext hw5) (Nat.le_trans lb (by decide)) (hx.ext hw5) (Nat.le_trans la (by decide))) ?_
  rintro _ v24 ⟨xr26, rfl, r26, e25⟩
  refine ret_intro ?_
  have hw6 : Ext w v24 := hw5.trans e25
  obtain rfl := r26
  refine wl_move rfl rfl (by decide) ?_
  refine wl_pureE rfl rfl (v := .int .i64 (IntKind.i64.wrap (0 - (scmp x y)))) (v' := .int .i64 (-(scmp x y))) (by decide) (by kernel_rfl) (neg_i64 (by have := scmp_bd x y; omega) (by have := scmp_bd x y; omega)) ?_
  refine wl_cmp rfl rfl rfl false (ne_f (scmp_swap x y)) (by decide) ?_
  refine wl_pure rfl rfl (v := .bool false) (by decide) (by kernel_rfl) ?_
  refine wl_move rfl rfl (by decide) ?_
  refine wl_load rfl rfl (load_agg aggInt (hb4.ext (e8.trans (e14.trans (e19.trans (e22.trans e25))))) [.bool sa, .slice Aa na ca] rfl (Nat.le_of_ble_eq_true rfl) rfl) (by decide) ?_
  refine wl_load rfl rfl (load_agg aggInt (hb9.ext (e14.trans (e19.trans (e22.trans e25)))) [.bool sb, .slice Ab nb cb] rfl (Nat.le_of_ble_eq_true rfl) rfl) (by decide) ?_
  have L27 : ln (x - y) ≤ 1048577 := Nat.le_trans (ln_sub Lx Ly) (by decide)
  refine wl_call rfl rfl (vs := [.agg #[.bool sa, .slice Aa na ca], .agg #[.bool sb, .slice Ab nb cb]]) (by kernel_rfl) (by decide) (g_zint_Sub hw6.size (hx.ext hw6) (Nat.le_trans la (by decide)) (hy.ext hw6) (Nat.le_trans lb (by decide))) ?_
  rintro _ v28 ⟨xr30, rfl, r30, e29⟩
  refine ret_intro ?_
  have hw7 : Ext w v28 := hw6.trans e29
  obtain ⟨s31, A31, n31, c31, rfl, z31⟩ := r30
  refine wl_call rfl rfl (vs := [.agg #[.bool s31, .slice A31 n31 c31]]) (by kernel_rfl) (by decide) (g_zint_Sign z31.zi (z31.le (Nat.le_trans L27 (by decide)))) ?_
  rintro _ v32 ⟨xr34, rfl, r34, e33⟩
  refine ret_intro ?_
  have hw8 : Ext w v32 := hw7.trans e33
  obtain rfl := r34
  refine wl_move rfl rfl (by decide) ?_
  refine wl_cmp rfl rfl rfl false (ne_f (scmp_subz x y)) (by decide) ?_
  refine wl_pure rfl rfl (v := .bool false) (by decide) (by kernel_rfl) ?_
  refine wl_move rfl rfl (by decide) ?_
  refine wl_load rfl rfl (load_agg aggInt (hb4.ext (e8.trans (e14.trans (e19.trans (e22.trans (e25.trans (e29.trans e33))))))) [.bool sa, .slice Aa na ca] rfl (Nat.le_of_ble_eq_true rfl) rfl) (by decide) ?_
  refine wl_load rfl rfl (load_agg aggInt (hb4.ext (e8.trans (e14.trans (e19.trans (e22.trans (e25.trans (e29.trans e33))))))) [.bool sa, .slice Aa na ca] rfl (Nat.le_of_ble_eq_true rfl) rfl) (by decide) ?_
  refine wl_call rfl rfl (vs := [.agg #[.bool sa, .slice Aa na ca], .agg #[.bool sa, .slice Aa na ca]]) (by kernel_rfl) (by decide) (g_zint_Cmp (hx.ext hw8) (Nat.le_trans la (by decide)) (hx.ext hw8) (Nat.le_trans la (by decide))) ?_
  rintro _ v35 ⟨xr37, rfl, r37, e36⟩
  refine ret_intro ?_
  have hw9 : Ext w v35 := hw8.trans e36
  obtain rfl := r37
  refine wl_cmp rfl rfl rfl false (ne_f (scmp_self x)) (by decide) ?_
  refine wl_pure rfl rfl (v := .bool false) (by decide) (by kernel_rfl) ?_
  refine wl_nil ?_
  refine eo_then ?_
  refine cw_false rfl ?_
  refine cw_skip ?_
  refine eo_then ?_
  refine cw_seq ?_
  refine cw_seq ?_
  have L38 : ln (x + z) ≤ 1048577 := Nat.le_trans (ln_add Lx Lz) (by decide)
  have L40 : ln (y + z) ≤ 1048577 := Nat.le_trans (ln_add Ly Lz) (by decide)
  have L42 : ln (x * z) ≤ 2097152 := Nat.le_trans (ln_mul Lx Lz) (by decide)
  have L44 : ln (y * z) ≤ 2097152 := Nat.le_trans (ln_mul Ly Lz) (by decide)
  refine cw_draw mix 23 [] [Is (.agg #[.bool sa, .slice Aa na ca]), Is (.agg #[.bool sf, .slice Af nf cf]), ZR w.heap.size (x + z), Is (.agg #[.bool sb, .slice Ab nb cb]), Is (.agg #[.bool sf, .slice Af nf cf]), ZR w.heap.size (y + z), Is (.int .i64 (scmp (x + z) (y + z))), Is (.int .i64 (scmp x y)), Is (.bool false), Is (.bool false), Is (.agg #[.bool sa, .slice Aa na ca]), Is (.agg #[.bool sf, .slice Af nf cf]), ZR w.heap.size (x * z), Is (.agg #[.bool sb, .slice Ab nb cb]), Is (.agg #[.bool sf, .slice Af nf cf]), ZR w.heap.size (y * z), Is (.int .i64 (scmp (x * z) (y * z))), Is (.int .i64 (scmp x y)), Is (.agg #[.bool sf, .slice Af nf cf]), Is (.int .i64 (scmp z 0)), Is (.int .i64 (scmp x y * scmp z 0)), Is (.bool false), Is (.bool false)] [[], [], [0, 1], [], [], [3, 4], [2, 5], [], [6, 7], [8], [9], [9], [9, 10, 11], [9], [9], [9, 13, 14], [9, 12, 15], [9], [9], [9, 18], [9, 17, 19], [9, 16, 20], [9, 21]] [[], [], [0, 1], [], [], [0, 1, 2, 3, 4], [0, 1, 2, 3, 4, 5], [], [0, 1, 2, 3, 4, 5, 6, 7], [0, 1, 2, 3, 4, 5, 6, 7, 8], [0, 1, 2, 3, 4, 5, 6, 7, 8, 9], [0, 1, 2, 3, 4, 5, 6, 7, 8, 9], [0, 1, 2, 3, 4, 5, 6, 7, 8, 9, 10, 11], [0, 1, 2, 3, 4, 5, 6, 7, 8, 9], [0, 1, 2, 3, 4, 5, 6, 7, 8, 9], [0, 1, 2, 3, 4, 5, 6, 7, 8, 9, 10, 11, 12, 13, 14], [0, 1, 2, 3, 4, 5, 6, 7, 8, 9, 10, 11, 12, 13, 14, 15], [0, 1, 2, 3, 4, 5, 6, 7, 8, 9], [0, 1, 2, 3, 4, 5, 6, 7, 8, 9], [0, 1, 2, 3, 4, 5, 6, 7, 8, 9, 10, 11, 12, 13, 14, 15, 16, 18], [0, 1, 2, 3, 4, 5, 6, 7, 8, 9, 10, 11, 12, 13, 14, 15, 16, 17, 18, 19], [0, 1, 2, 3, 4, 5, 6, 7, 8, 9, 10, 11, 12, 13, 14, 15, 16, 17, 18, 19, 20], [0, 1, 2, 3, 4, 5, 6, 7, 8, 9, 10, 11, 12, 13, 14, 15, 16, 17, 18, 19, 20, 21]] rfl
    (obs_cons rfl rfl (hob rfl rfl ?_) (obs_cons rfl rfl (hob rfl rfl ?_) (obs_cons rfl rfl (hob rfl rfl ?_) (obs_cons rfl rfl (hob rfl rfl ?_) (obs_cons rfl rfl (hob rfl rfl ?_) (obs_cons rfl rfl (hob rfl rfl ?_) (obs_cons rfl rfl (hob rfl rfl ?_) (obs_cons rfl rfl (hob rfl rfl ?_) (obs_cons rfl rfl (hob rfl rfl ?_) (obs_cons rfl rfl (hob rfl rfl ?_) (obs_cons rfl rfl (hob rfl rfl ?_) (obs_cons rfl rfl (hob rfl rfl ?_) (obs_cons rfl rfl (hob rfl rfl ?_) (obs_cons rfl rfl (hob rfl rfl ?_) (obs_cons rfl rfl (hob rfl rfl ?_) (obs_cons rfl rfl (hob rfl rfl ?_) (obs_cons rfl rfl (hob rfl rfl ?_) (obs_cons rfl rfl (hob rfl rfl ?_) (obs_cons rfl rfl (hob rfl rfl ?_) (obs_cons rfl rfl (hob rfl rfl ?_) (obs_cons rfl rfl (hob rfl rfl ?_) (obs_cons rfl rfl (hob rfl rfl ?_) (obs_cons rfl rfl (hob rfl rfl ?_) obs_nil))))))))))))))))))))))) ?_
  · -- 0
    intro v46 e47
    have hw10 : Ext w v46 := hw9.trans e47
    refine deps_nil ?_
    refine wl_load rfl rfl (load_agg aggInt (hb4.ext (e8.trans (e14.trans (e19.trans (e22.trans (e25.trans (e29.trans (e33.trans (e36.trans e47))))))))) [.bool sa, .slice Aa na ca] rfl (Nat.le_of_ble_eq_true rfl) rfl) (by decide) ?_
    exact pi_done rfl (Ext.refl _) rfl
  · -- 1
    intro v48 e49
    have hw10 : Ext w v48 := hw9.trans e49
    refine deps_nil ?_
    refine wl_load rfl rfl (load_agg aggInt (hb15.ext (e19.trans (e22.trans (e25.trans (e29.trans (e33.trans (e36.trans e49))))))) [.bool sf, .slice Af nf cf] rfl (Nat.le_of_ble_eq_true rfl) rfl) (by decide) ?_
    exact pi_done rfl (Ext.refl _) rfl
  · -- 2
    intro v50 e51
    have hw10 : Ext w v50 := hw9.trans e51
    refine deps_cons rfl rfl fun x52 y53 h54 e55 f56 => ?_
    obtain rfl := h54
    refine deps_cons rfl rfl fun x57 y58 h59 e60 f61 => ?_
    obtain rfl := h59
    refine deps_nil ?_
    have L62 : ln (x + z) ≤ 1048577 := Nat.le_trans (ln_add Lx Lz) (by decide)
    refine wl_call rfl rfl (vs := [.agg #[.bool sa, .slice Aa na ca], .agg #[.bool sf, .slice Af nf cf]]) (by kernel_rfl) (by decide) (g_zint_Add hw10.size (hx.ext hw10) (Nat.le_trans la (by decide)) (hz.ext hw10) (Nat.le_trans lf (by decide))) ?_
    rintro _ v63 ⟨xr65, rfl, r65, e64⟩
    refine ret_intro ?_
    have hw11 : Ext w v63 := hw10.trans e64
    obtain ⟨s66, A66, n66, c66, rfl, z66⟩ := r65
    exact pi_done rfl e64 ⟨_, _, _, _, rfl, z66⟩
  · -- 3
    intro v67 e68
    have hw10 : Ext w v67 := hw9.trans e68
    refine deps_nil ?_
    refine wl_load rfl rfl (load_agg aggInt (hb9.ext (e14.trans (e19.trans (e22.trans (e25.trans (e29.trans (e33.trans (e36.trans e68)))))))) [.bool sb, .slice Ab nb cb] rfl (Nat.le_of_ble_eq_true rfl) rfl) (by decide) ?_
    exact pi_done rfl (Ext.refl _) rfl
  · -- 4
    intro v69 e70
    have hw10 : Ext w v69 := hw9.trans e70
    refine deps_nil ?_
    refine wl_load rfl rfl (load_agg aggInt (hb15.ext (e19.trans (e22.trans (e25.trans (e29.trans (e33.trans (e36.trans e70))))))) [.bool sf, .slice Af nf cf] rfl (Nat.le_of_ble_eq_true rfl) rfl) (by decide) ?_
    exact pi_done rfl (Ext.refl _) rfl
  · -- 5
    intro v71 e72
    have hw10 : Ext w v71 := hw9.trans e72
    refine deps_cons rfl rfl fun x73 y74 h75 e76 f77 => ?_
    obtain rfl := h75
    refine deps_cons rfl rfl fun x78 y79 h80 e81 f82 => ?_
    obtain rfl := h80
    refine deps_nil ?_
    have L83 : ln (y + z) ≤ 1048577 := Nat.le_trans (ln_add Ly Lz) (by decide)
    refine wl_call rfl rfl (vs := [.agg #[.bool sb, .slice Ab nb cb], .agg #[.bool sf, .slice Af nf cf]]) (by kernel_rfl) (by decide) (g_zint_Add hw10.size (hy.ext hw10) (Nat.le_trans lb (by decide)) (hz.ext hw10) (Nat.le_trans lf (by decide))) ?_
    rintro _ v84 ⟨xr86, rfl, r86, e85⟩
    refine ret_intro ?_
    have hw11 : Ext w v84 := hw10.trans e85
    obtain ⟨s87, A87, n87, c87, rfl, z87⟩ := r86
    exact pi_done rfl e85 ⟨_, _, _, _, rfl, z87⟩
  · -- 6
    intro v88 e89
    have hw10 : Ext w v88 := hw9.trans e89
    refine deps_cons rfl rfl fun x90 y91 h92 e93 f94 => ?_
    obtain ⟨s95, A95, n95, c95, rfl, z95⟩ := h92
    have z95 := z95.ext f94
    refine deps_cons rfl rfl fun x96 y97 h98 e99 f100 => ?_
    obtain ⟨s101, A101, n101, c101, rfl, z101⟩ := h98
    have z101 := z101.ext f100
    refine deps_nil ?_
    refine wl_call rfl rfl (vs := [.agg #[.bool s95, .slice A95 n95 c95], .agg #[.bool s101, .slice A101 n101 c101]]) (by kernel_rfl) (by decide) (g_zint_Cmp z95.zi (z95.le (Nat.le_trans L38 (by decide))) z101.zi (z101.le (Nat.le_trans L40 (by decide)))) ?_
    rintro _ v102 ⟨xr104, rfl, r104, e103⟩
    refine ret_intro ?_
    have hw11 : Ext w v102 := hw10.trans e103
    obtain rfl := r104
    exact pi_done rfl e103 rfl
  · -- 7
    intro v105 e106
    have hw10 : Ext w v105 := hw9.trans e106
    refine deps_nil ?_
    refine wl_move rfl rfl (by decide) ?_
    exact pi_done rfl (Ext.refl _) rfl
  · -- 8
    intro v107 e108
    have hw10 : Ext w v107 := hw9.trans e108
    refine deps_cons rfl rfl fun x109 y110 h111 e112 f113 => ?_
    obtain rfl := h111
    refine deps_cons rfl rfl fun x114 y115 h116 e117 f118 => ?_
    obtain rfl := h116
    refine deps_nil ?_
    refine wl_cmp rfl rfl rfl false (ne_f (scmp_addz x y z)) (by decide) ?_
    exact pi_done rfl (Ext.refl _) rfl
  · -- 9
    intro v119 e120
    have hw10 : Ext w v119 := hw9.trans e120
    refine deps_cons rfl rfl fun x121 y122 h123 e124 f125 => ?_
    obtain rfl := h123
    refine deps_nil ?_
    refine wl_move rfl rfl (by decide) ?_
    exact pi_done rfl (Ext.refl _) rfl
  · -- 10
    intro v126 e127
    have hw10 : Ext w v126 := hw9.trans e127
    refine deps_cons rfl rfl fun x128 y129 h130 e131 f132 => ?_
    obtain rfl := h130
    refine deps_nil ?_
    refine wl_load rfl rfl (load_agg aggInt (hb4.ext (e8.trans (e14.trans (e19.trans (e22.trans (e25.trans (e29.trans (e33.trans (e36.trans e127))))))))) [.bool sa, .slice Aa na ca] rfl (Nat.le_of_ble_eq_true rfl) rfl) (by decide) ?_
    exact pi_done rfl (Ext.refl _) rfl
  · -- 11
    intro v133 e134
    have hw10 : Ext w v133 := hw9.trans e134
    refine deps_cons rfl rfl fun x135 y136 h137 e138 f139 => ?_
    obtain rfl := h137
    refine deps_nil ?_
    refine wl_load rfl rfl (load_agg aggInt (hb15.ext (e19.trans (e22.trans (e25.trans (e29.trans (e33.trans (e36.trans e134))))))) [.bool sf, .slice Af nf cf] rfl (Nat.le_of_ble_eq_true rfl) rfl) (by decide) ?_
    exact pi_done rfl (Ext.refl _) rfl
  · -- 12
    intro v140 e141
    have hw10 : Ext w v140 := hw9.trans e141
    refine deps_cons rfl rfl fun x142 y143 h144 e145 f146 => ?_
    obtain rfl := h144
    refine deps_cons rfl rfl fun x147 y148 h149 e150 f151 => ?_
    obtain rfl := h149
    refine deps_cons rfl rfl fun x152 y153 h154 e155 f156 => ?_
    obtain rfl := h154
    refine deps_nil ?_
    have L157 : ln (x * z) ≤ 2097152 := Nat.le_trans (ln_mul Lx Lz) (by decide)
    refine wl_call rfl rfl (vs := [.agg #[.bool sa, .slice Aa na ca], .agg #[.bool sf, .slice Af nf cf]]) (by kernel_rfl) (by decide) (g_zint_Mul hw10.size (hx.ext hw10) (Nat.le_trans la (by decide)) (hz.ext hw10) (Nat.le_trans lf (by decide))) ?_
    rintro _ v158 ⟨xr160, rfl, r160, e159⟩
    refine ret_intro ?_
    have hw11 : Ext w v158 := hw10.trans e159
    obtain ⟨s161, A161, n161, c161, rfl, z161⟩ := r160
    exact pi_done rfl e159 ⟨_, _, _, _, rfl, z161⟩
  · -- 13
    intro v162 e163
    have hw10 : Ext w v162 := hw9.trans e163
    refine deps_cons rfl rfl fun x164 y165 h166 e167 f168 => ?_
    obtain rfl := h166
    refine deps_nil ?_
    refine wl_load rfl rfl (load_agg aggInt (hb9.ext (e14.trans (e19.trans (e22.trans (e25.trans (e29.trans (e33.trans (e36.trans e163)))))))) [.bool sb, .slice Ab nb cb] rfl (Nat.le_of_ble_eq_true rfl) rfl) (by decide) ?_
    exact pi_done rfl (Ext.refl _) rfl
  · -- 14
    intro v169 e170
    have hw10 : Ext w v169 := hw9.trans e170
    refine deps_cons rfl rfl fun x171 y172 h173 e174 f175 => ?_
    obtain rfl := h173
    refine deps_nil ?_
    refine wl_load rfl rfl (load_agg aggInt (hb15.ext (e19.trans (e22.trans (e25.trans (e29.trans (e33.trans (e36.trans e170))))))) [.bool sf, .slice Af nf cf] rfl (Nat.le_of_ble_eq_true rfl) rfl) (by decide) ?_
    exact pi_done rfl (Ext.refl _) rfl
  · -- 15
    intro v176 e177
    have hw10 : Ext w v176 := hw9.trans e177
    refine deps_cons rfl rfl fun x178 y179 h180 e181 f182 => ?_
    obtain rfl := h180
    refine deps_cons rfl rfl fun x183 y184 h185 e186 f187 => ?_
    obtain rfl := h185
    refine deps_cons rfl rfl fun x188 y189 h190 e191 f192 => ?_
    obtain rfl := h190
    refine deps_nil ?_
    have L193 : ln (y * z) ≤ 2097152 := Nat.le_trans (ln_mul Ly Lz) (by decide)
    refine wl_call rfl rfl (vs := [.agg #[.bool sb, .slice Ab nb cb], .agg #[.bool sf, .slice Af nf cf]]) (by kernel_rfl) (by decide) (g_zint_Mul hw10.size (hy.ext hw10) (Nat.le_trans lb (by decide)) (hz.ext hw10) (Nat.le_trans lf (by decide))) ?_
    rintro _ v194 ⟨xr196, rfl, r196, e195⟩
    refine ret_intro ?_
    have hw11 : Ext w v194 := hw10.trans e195
    obtain ⟨s197, A197, n197, c197, rfl, z197⟩ := r196
    exact pi_done rfl e195 ⟨_, _, _, _, rfl, z197⟩
  · -- 16
    intro v198 e199
    have hw10 : Ext w v198 := hw9.trans e199
    refine deps_cons rfl rfl fun x200 y201 h202 e203 f204 => ?_
    obtain rfl := h202
    refine deps_cons rfl rfl fun x205 y206 h207 e208 f209 => ?_
    obtain ⟨s210, A210, n210, c210, rfl, z210⟩ := h207
    have z210 := z210.ext f209
    refine deps_cons rfl rfl fun x211 y212 h213 e214 f215 => ?_
    obtain ⟨s216, A216, n216, c216, rfl, z216⟩ := h213
    have z216 := z216.ext f215
    refine deps_nil ?_
    refine wl_call rfl rfl (vs := [.agg #[.bool s210, .slice A210 n210 c210], .agg #[.bool s216, .slice A216 n216 c216]]) (by kernel_rfl) (by decide) (g_zint_Cmp z210.zi (z210.le (Nat.le_trans L42 (by decide))) z216.zi (z216.le (Nat.le_trans L44 (by decide)))) ?_
    rintro _ v217 ⟨xr219, rfl, r219, e218⟩
    refine ret_intro ?_
    have hw11 : Ext w v217 := hw10.trans e218
    obtain rfl := r219
    exact pi_done rfl e218 rfl
  · -- 17
    intro v220 e221
    have hw10 : Ext w v220 := hw9.trans e221
    refine deps_cons rfl rfl fun x222 y223 h224 e225 f226 => ?_
    obtain rfl := h224
    refine deps_nil ?_
    refine wl_move rfl rfl (by decide) ?_
    exact pi_done rfl (Ext.refl _) rfl
  · -- 18
    intro v227 e228
    have hw10 : Ext w v227 := hw9.trans e228
    refine deps_cons rfl rfl fun x229 y230 h231 e232 f233 => ?_
    obtain rfl := h231
    refine deps_nil ?_
    refine wl_load rfl rfl (load_agg aggInt (hb15.ext (e19.trans (e22.trans (e25.trans (e29.trans (e33.trans (e36.trans e228))))))) [.bool sf, .slice Af nf cf] rfl (Nat.le_of_ble_eq_true rfl) rfl) (by decide) ?_
    exact pi_done rfl (Ext.refl _) rfl
  · -- 19
    intro v234 e235
    have hw10 : Ext w v234 := hw9.trans e235
    refine deps_cons rfl rfl fun x236 y237 h238 e239 f240 => ?_
    obtain rfl := h238
    refine deps_cons rfl rfl fun x241 y242 h243 e244 f245 => ?_
    obtain rfl := h243
    refine deps_nil ?_
    refine wl_call rfl rfl (vs := [.agg #[.bool sf, .slice Af nf cf]]) (by kernel_rfl) (by decide) (g_zint_Sign (hz.ext hw10) (Nat.le_trans lf (by decide))) ?_
    rintro _ v246 ⟨xr248, rfl, r248, e247⟩
    refine ret_intro ?_
    have hw11 : Ext w v246 := hw10.trans e247
    obtain rfl := r248
    exact pi_done rfl e247 rfl
  · -- 20
    intro v249 e250
    have hw10 : Ext w v249 := hw9.trans e250
    refine deps_cons rfl rfl fun x251 y252 h253 e254 f255 => ?_
    obtain rfl := h253
    refine deps_cons rfl rfl fun x256 y257 h258 e259 f260 => ?_
    obtain rfl := h258
    refine deps_cons rfl rfl fun x261 y262 h263 e264 f265 => ?_
    obtain rfl := h263
    refine deps_nil ?_
    refine wl_ar rfl rfl rfl (scmp x y * scmp z 0) (ar_i64m rfl (by have := scmp_mul_bd x y z 0; omega) (by have := scmp_mul_bd x y z 0; omega)) (by decide) ?_
    exact pi_done rfl (Ext.refl _) rfl
  · -- 21
    intro v266 e267
    have hw10 : Ext w v266 := hw9.trans e267
    refine deps_cons rfl rfl fun x268 y269 h270 e271 f272 => ?_
    obtain rfl := h270
    refine deps_cons rfl rfl fun x273 y274 h275 e276 f277 => ?_
    obtain rfl := h275
    refine deps_cons rfl rfl fun x278 y279 h280 e281 f282 => ?_
    obtain rfl := h280
    refine deps_nil ?_
    refine wl_cmp rfl rfl rfl false (ne_f (scmp_mulz x y z)) (by decide) ?_
    exact pi_done rfl (Ext.refl _) rfl
  · -- 22
    intro v283 e284
    have hw10 : Ext w v283 := hw9.trans e284
    refine deps_cons rfl rfl fun x285 y286 h287 e288 f289 => ?_
    obtain rfl := h287
    refine deps_cons rfl rfl fun x290 y291 h292 e293 f294 => ?_
    obtain rfl := h292
    refine deps_nil ?_
    refine wl_pure rfl rfl (v := .bool false) (by decide) (by kernel_rfl) ?_
    exact pi_done rfl (Ext.refl _) rfl
  · -- all
    intro v295 e296
    have hw10 : Ext w v295 := hw9.trans e296
    refine deps_cons rfl rfl fun x297 y298 h299 e300 f301 => ?_
    obtain rfl := h299
    refine deps_cons rfl rfl fun x302 y303 h304 e305 f306 => ?_
    obtain rfl := h304
    refine deps_cons rfl rfl fun x307 y308 h309 e310 f311 => ?_
    obtain ⟨s312, A312, n312, c312, rfl, z312⟩ := h309
    have z312 := z312.ext f311
    refine deps_cons rfl rfl fun x313 y314 h315 e316 f317 => ?_
    obtain rfl := h315
    refine deps_cons rfl rfl fun x318 y319 h320 e321 f322 => ?_
    obtain rfl := h320
    refine deps_cons rfl rfl fun x323 y324 h325 e326 f327 => ?_
    obtain ⟨s328, A328, n328, c328, rfl, z328⟩ := h325
    have z328 := z328.ext f327
    refine deps_cons rfl rfl fun x329 y330 h331 e332 f333 => ?_
    obtain rfl := h331
    refine deps_cons rfl rfl fun x334 y335 h336 e337 f338 => ?_
    obtain rfl := h336
    refine deps_cons rfl rfl fun x339 y340 h341 e342 f343 => ?_
    obtain rfl := h341
    refine deps_cons rfl rfl fun x344 y345 h346 e347 f348 => ?_
    obtain rfl := h346
    refine deps_cons rfl rfl fun x349 y350 h351 e352 f353 => ?_
    obtain rfl := h351
    refine deps_cons rfl rfl fun x354 y355 h356 e357 f358 => ?_
    obtain rfl := h356
    refine deps_cons rfl rfl fun x359 y360 h361 e362 f363 => ?_
    obtain ⟨s364, A364, n364, c364, rfl, z364⟩ := h361
    have z364 := z364.ext f363
    refine deps_cons rfl rfl fun x365 y366 h367 e368 f369 => ?_
    obtain rfl := h367
    refine deps_cons rfl rfl fun x370 y371 h372 e373 f374 => ?_
    obtain rfl := h372
    refine deps_cons rfl rfl fun x375 y376 h377 e378 f379 => ?_
    obtain ⟨s380, A380, n380, c380, rfl, z380⟩ := h377
    have z380 := z380.ext f379
    refine deps_cons rfl rfl fun x381 y382 h383 e384 f385 => ?_
    obtain rfl := h383
    refine deps_cons rfl rfl fun x386 y387 h388 e389 f390 => ?_
    obtain rfl := h388
    refine deps_cons rfl rfl fun x391 y392 h393 e394 f395 => ?_
    obtain rfl := h393
    refine deps_cons rfl rfl fun x396 y397 h398 e399 f400 => ?_
    obtain rfl := h398
    refine deps_cons rfl rfl fun x401 y402 h403 e404 f405 => ?_
    obtain rfl := h403
    refine deps_cons rfl rfl fun x406 y407 h408 e409 f410 => ?_
    obtain rfl := h408
    refine deps_cons rfl rfl fun x411 y412 h413 e414 f415 => ?_
    obtain rfl := h413
    refine deps_nil ?_
    refine wl_nil ?_
    refine eo_np ?_
    refine eo_then ?_
    refine cw_false rfl ?_
    refine cw_skip ?_
    refine eo_then ?_
    refine cw_seq ?_
    refine cw_region ?_
    refine wl_load rfl rfl (load_agg aggInt (hb9.ext (e14.trans (e19.trans (e22.trans (e25.trans (e29.trans (e33.trans (e36.trans e296)))))))) [.bool sb, .slice Ab nb cb] rfl (Nat.le_of_ble_eq_true rfl) rfl) (by decide) ?_
    refine wl_load rfl rfl (load_agg aggInt (hb15.ext (e19.trans (e22.trans (e25.trans (e29.trans (e33.trans (e36.trans e296))))))) [.bool sf, .slice Af nf cf] rfl (Nat.le_of_ble_eq_true rfl) rfl) (by decide) ?_
    refine wl_call rfl rfl (vs := [.agg #[.bool sb, .slice Ab nb cb], .agg #[.bool sf, .slice Af nf cf]]) (by kernel_rfl) (by decide) (g_zint_Cmp (hy.ext hw10) (Nat.le_trans lb (by decide)) (hz.ext hw10) (Nat.le_trans lf (by decide))) ?_
    rintro _ v416 ⟨xr418, rfl, r418, e417⟩
    refine ret_intro ?_
    have hw11 : Ext w v416 := hw10.trans e417
    obtain rfl := r418
    refine wl_assign rfl rfl (by decide) ?_
    refine wl_nil ?_
    refine eo_then ?_
    refine cw_seq ?_
    refine cw_seq ?_
    by_cases heq : scmp x y = scmp y z
    ·
      refine cw_region ?_
      refine wl_move rfl rfl (by decide) ?_
      refine wl_move rfl rfl (by decide) ?_
      refine wl_cmp rfl rfl rfl true (eq_t heq) (by decide) ?_
      refine wl_move rfl rfl (by decide) ?_
      refine wl_load rfl rfl (load_agg aggInt (hb4.ext (e8.trans (e14.trans (e19.trans (e22.trans (e25.trans (e29.trans (e33.trans (e36.trans (e296.trans e417)))))))))) [.bool sa, .slice Aa na ca] rfl (Nat.le_of_ble_eq_true rfl) rfl) (by decide) ?_
      refine wl_load rfl rfl (load_agg aggInt (hb15.ext (e19.trans (e22.trans (e25.trans (e29.trans (e33.trans (e36.trans (e296.trans e417)))))))) [.bool sf, .slice Af nf cf] rfl (Nat.le_of_ble_eq_true rfl) rfl) (by decide) ?_
      refine wl_call rfl rfl (vs := [.agg #[.bool sa, .slice Aa na ca], .agg #[.bool sf, .slice Af nf cf]]) (by kernel_rfl) (by decide) (g_zint_Cmp (hx.ext hw11) (Nat.le_trans la (by decide)) (hz.ext hw11) (Nat.le_trans lf (by decide))) ?_
      rintro _ v419 ⟨xr421, rfl, r421, e420⟩
      refine ret_intro ?_
      have hw12 : Ext w v419 := hw11.trans e420
      obtain rfl := r421
      refine wl_move rfl rfl (by decide) ?_
      refine wl_cmp rfl rfl rfl false (ne_f (scmp_trans heq)) (by decide) ?_
      refine wl_pure rfl rfl (v := .bool false) (by decide) (by kernel_rfl) ?_
      refine wl_nil ?_
      refine eo_then ?_
      refine cw_false rfl ?_
      refine cw_skip ?_
      refine eo_then ?_
      refine cw_seq ?_
      refine cw_seq ?_
      have L422 : ln ((Int.natAbs x : Int)) ≤ 1048576 := (by rw [ln_abs]; exact Lx)
      have L424 : ln ((Int.natAbs y : Int)) ≤ 1048576 := (by rw [ln_abs]; exact Ly)
      refine cw_draw mix 17 [] [Is (.agg #[.bool sa, .slice Aa na ca]), Is (.agg #[.bool sb, .slice Ab nb cb]), Is (.int .i64 (cmp3 (Int.natAbs x) (Int.natAbs y))), Is (.agg #[.bool sa, .slice Aa na ca]), ZR w.heap.size ((Int.natAbs x : Int)), Is (.agg #[.bool sb, .slice Ab nb cb]), ZR w.heap.size ((Int.natAbs y : Int)), Is (.int .i64 (scmp (Int.natAbs x : Int) (Int.natAbs y : Int))), Is (.bool false), Is (.bool false), Is (.agg #[.bool sa, .slice Aa na ca]), Is (.int .i64 (scmp x 0)), Is (.agg #[.bool sa, .slice Aa na ca]), ZR w.heap.size (0), Is (.int .i64 (scmp x 0)), Is (.bool false), Is (.bool false)] [[], [], [0, 1], [], [3], [], [5], [4, 6], [2, 7], [8], [9], [9, 10], [9], [9], [9, 12, 13], [9, 11, 14], [9, 15]] [[], [], [0, 1], [], [0, 1, 2, 3], [], [0, 1, 2, 3, 4, 5], [0, 1, 2, 3, 4, 5, 6], [0, 1, 2, 3, 4, 5, 6, 7], [0, 1, 2, 3, 4, 5, 6, 7, 8], [0, 1, 2, 3, 4, 5, 6, 7, 8, 9], [0, 1, 2, 3, 4, 5, 6, 7, 8, 9, 10], [0, 1, 2, 3, 4, 5, 6, 7, 8, 9], [0, 1, 2, 3, 4, 5, 6, 7, 8, 9, 10, 11], [0, 1, 2, 3, 4, 5, 6, 7, 8, 9, 10, 11, 12, 13], [0, 1, 2, 3, 4, 5, 6, 7, 8, 9, 10, 11, 12, 13, 14], [0, 1, 2, 3, 4, 5, 6, 7, 8, 9, 10, 11, 12, 13, 14, 15]] rfl
        (obs_cons rfl rfl (hob rfl rfl ?_) (obs_cons rfl rfl (hob rfl rfl ?_) (obs_cons rfl rfl (hob rfl rfl ?_) (obs_cons rfl rfl (hob rfl rfl ?_) (obs_cons rfl rfl (hob rfl rfl ?_) (obs_cons rfl rfl (hob rfl rfl ?_) (obs_cons rfl rfl (hob rfl rfl ?_) (obs_cons rfl rfl (hob rfl rfl ?_) (obs_cons rfl rfl (hob rfl rfl ?_) (obs_cons rfl rfl (hob rfl rfl ?_) (obs_cons rfl rfl (hob rfl rfl ?_) (obs_cons rfl rfl (hob rfl rfl ?_) (obs_cons rfl rfl (hob rfl rfl ?_) (obs_cons rfl rfl (hob rfl rfl ?_) (obs_cons rfl rfl (hob rfl rfl ?_) (obs_cons rfl rfl (hob rfl rfl ?_) (obs_cons rfl rfl (hob rfl rfl ?_) obs_nil))))))))))))))))) ?_
      · -- 0
        intro v427 e428
        have hw13 : Ext w v427 := hw12.trans e428
        refine deps_nil ?_
        refine wl_load rfl rfl (load_agg aggInt (hb4.ext (e8.trans (e14.trans (e19.trans (e22.trans (e25.trans (e29.trans (e33.trans (e36.trans (e296.trans (e417.trans (e420.trans e428)))))))))))) [.bool sa, .slice Aa na ca] rfl (Nat.le_of_ble_eq_true rfl) rfl) (by decide) ?_
        exact pi_done rfl (Ext.refl _) rfl
      · -- 1
        intro v429 e430
        have hw13 : Ext w v429 := hw12.trans e430
        refine deps_nil ?_
        refine wl_load rfl rfl (load_agg aggInt (hb9.ext (e14.trans (e19.trans (e22.trans (e25.trans (e29.trans (e33.trans (e36.trans (e296.trans (e417.trans (e420.trans e430))))))))))) [.bool sb, .slice Ab nb cb] rfl (Nat.le_of_ble_eq_true rfl) rfl) (by decide) ?_
        exact pi_done rfl (Ext.refl _) rfl
      · -- 2
        intro v431 e432
        have hw13 : Ext w v431 := hw12.trans e432
        refine deps_cons rfl rfl fun x433 y434 h435 e436 f437 => ?_
        obtain rfl := h435
        refine deps_cons rfl rfl fun x438 y439 h440 e441 f442 => ?_
        obtain rfl := h440
        refine deps_nil ?_
        refine wl_call rfl rfl (vs := [.agg #[.bool sa, .slice Aa na ca], .agg #[.bool sb, .slice Ab nb cb]]) (by kernel_rfl) (by decide) (g_zint_CmpAbs (hx.ext hw13) (Nat.le_trans la (by decide)) (hy.ext hw13) (Nat.le_trans lb (by decide))) ?_
        rintro _ v443 ⟨xr445, rfl, r445, e444⟩
        refine ret_intro ?_
        have hw14 : Ext w v443 := hw13.trans e444
        obtain rfl := r445
        exact pi_done rfl e444 rfl
      · -- 3
        intro v446 e447
        have hw13 : Ext w v446 := hw12.trans e447
        refine deps_nil ?_
        refine wl_load rfl rfl (load_agg aggInt (hb4.ext (e8.trans (e14.trans (e19.trans (e22.trans (e25.trans (e29.trans (e33.trans (e36.trans (e296.trans (e417.trans (e420.trans e447)))))))))))) [.bool sa, .slice Aa na ca] rfl (Nat.le_of_ble_eq_true rfl) rfl) (by decide) ?_
        exact pi_done rfl (Ext.refl _) rfl
      · -- 4
        intro v448 e449
        have hw13 : Ext w v448 := hw12.trans e449
        refine deps_cons rfl rfl fun x450 y451 h452 e453 f454 => ?_
        obtain rfl := h452
        refine deps_nil ?_
        have L455 : ln ((Int.natAbs x : Int)) ≤ 1048576 := (by rw [ln_abs]; exact Lx)
        refine wl_call rfl rfl (vs := [.agg #[.bool sa, .slice Aa na ca]]) (by kernel_rfl) (by decide) (g_zint_Abs hw13.size (hx.ext hw13) (Nat.le_trans la (by decide))) ?_
        rintro _ v456 ⟨xr458, rfl, r458, e457⟩
        refine ret_intro ?_
        have hw14 : Ext w v456 := hw13.trans e457
        obtain ⟨s459, A459, n459, c459, rfl, z459⟩ := r458
        exact pi_done rfl e457 ⟨_, _, _, _, rfl, z459⟩
      · -- 5
        intro v460 e461
        have hw13 : Ext w v460 := hw12.trans e461
        refine deps_nil ?_
        refine wl_load rfl rfl (load_agg aggInt (hb9.ext (e14.trans (e19.trans (e22.trans (e25.trans (e29.trans (e33.trans (e36.trans (e296.trans (e417.trans (e420.trans e461))))))))))) [.bool sb, .slice Ab nb cb] rfl (Nat.le_of_ble_eq_true rfl) rfl) (by decide) ?_
        exact pi_done rfl (Ext.refl _) rfl
      · -- 6
        intro v462 e463
        have hw13 : Ext w v462 := hw12.trans e463
        refine deps_cons rfl rfl fun x464 y465 h466 e467 f468 => ?_
        obtain rfl := h466
        refine deps_nil ?_
        have L469 : ln ((Int.natAbs y : Int)) ≤ 1048576 := (by rw [ln_abs]; exact Ly)
        refine wl_call rfl rfl (vs := [.agg #[.bool sb, .slice Ab nb cb]]) (by kernel_rfl) (by decide) (g_zint_Abs hw13.size (hy.ext hw13) (Nat.le_trans lb (by decide))) ?_
        rintro _ v470 ⟨xr472, rfl, r472, e471⟩
        refine ret_intro ?_
        have hw14 : Ext w v470 := hw13.trans e471
        obtain ⟨s473, A473, n473, c473, rfl, z473⟩ := r472
        exact pi_done rfl e471 ⟨_, _, _, _, rfl, z473⟩
      · -- 7
        intro v474 e475
        have hw13 : Ext w v474 := hw12.trans e475
        refine deps_cons rfl rfl fun x476 y477 h478 e479 f480 => ?_
        obtain ⟨s481, A481, n481, c481, rfl, z481⟩ := h478
        have z481 := z481.ext f480
        refine deps_cons rfl rfl fun x482 y483 h484 e485 f486 => ?_
        obtain ⟨s487, A487, n487, c487, rfl, z487⟩ := h484
        have z487 := z487.ext f486
        refine deps_nil ?_
        refine wl_call rfl rfl (vs := [.agg #[.bool s481, .slice A481 n481 c481], .agg #[.bool s487, .slice A487 n487 c487]]) (by kernel_rfl) (by decide) (g_zint_Cmp z481.zi (z481.le (Nat.le_trans L422 (by decide))) z487.zi (z487.le (Nat.le_trans L424 (by decide)))) ?_
        rintro _ v488 ⟨xr490, rfl, r490, e489⟩
        refine ret_intro ?_
        have hw14 : Ext w v488 := hw13.trans e489
        obtain rfl := r490
        exact pi_done rfl e489 rfl
      · -- 8
        intro v491 e492
        have hw13 : Ext w v491 := hw12.trans e492
        refine deps_cons rfl rfl fun x493 y494 h495 e496 f497 => ?_
        obtain rfl := h495
        refine deps_cons rfl rfl fun x498 y499 h500 e501 f502 => ?_
        obtain rfl := h500
        refine deps_nil ?_
        refine wl_cmp rfl rfl rfl false (ne_f (cmp3_abs x y)) (by decide) ?_
        exact pi_done rfl (Ext.refl _) rfl
      · -- 9
        intro v503 e504
        have hw13 : Ext w v503 := hw12.trans e504
        refine deps_cons rfl rfl fun x505 y506 h507 e508 f509 => ?_
        obtain rfl := h507
        refine deps_nil ?_
        refine wl_move rfl rfl (by decide) ?_
        exact pi_done rfl (Ext.refl _) rfl
      · -- 10
        intro v510 e511
        have hw13 : Ext w v510 := hw12.trans e511
        refine deps_cons rfl rfl fun x512 y513 h514 e515 f516 => ?_
        obtain rfl := h514
        refine deps_nil ?_
        refine wl_load rfl rfl (load_agg aggInt (hb4.ext (e8.trans (e14.trans (e19.trans (e22.trans (e25.trans (e29.trans (e33.trans (e36.trans (e296.trans (e417.trans (e420.trans e511)))))))))))) [.bool sa, .slice Aa na ca] rfl (Nat.le_of_ble_eq_true rfl) rfl) (by decide) ?_
        exact pi_done rfl (Ext.refl _) rfl
      · -- 11
        intro v517 e518
        have hw13 : Ext w v517 := hw12.trans e518
        refine deps_cons rfl rfl fun x519 y520 h521 e522 f523 => ?_
        obtain rfl := h521
        refine deps_cons rfl rfl fun x524 y525 h526 e527 f528 => ?_
        obtain rfl := h526
        refine deps_nil ?_
        refine wl_call rfl rfl (vs := [.agg #[.bool sa, .slice Aa na ca]]) (by kernel_rfl) (by decide) (g_zint_Sign (hx.ext hw13) (Nat.le_trans la (by decide))) ?_
        rintro _ v529 ⟨xr531, rfl, r531, e530⟩
        refine ret_intro ?_
        have hw14 : Ext w v529 := hw13.trans e530
        obtain rfl := r531
        exact pi_done rfl e530 rfl
      · -- 12
        intro v532 e533
        have hw13 : Ext w v532 := hw12.trans e533
        refine deps_cons rfl rfl fun x534 y535 h536 e537 f538 => ?_
        obtain rfl := h536
        refine deps_nil ?_
        refine wl_load rfl rfl (load_agg aggInt (hb4.ext (e8.trans (e14.trans (e19.trans (e22.trans (e25.trans (e29.trans (e33.trans (e36.trans (e296.trans (e417.trans (e420.trans e533)))))))))))) [.bool sa, .slice Aa na ca] rfl (Nat.le_of_ble_eq_true rfl) rfl) (by decide) ?_
        exact pi_done rfl (Ext.refl _) rfl
      · -- 13
        intro v539 e540
        have hw13 : Ext w v539 := hw12.trans e540
        refine deps_cons rfl rfl fun x541 y542 h543 e544 f545 => ?_
        obtain rfl := h543
        refine deps_nil ?_
        refine wl_call rfl rfl (vs := [.int .i64 0]) (by kernel_rfl) (by decide) (g_zint_Of hw13.size (by decide) (by decide)) ?_
        rintro _ v546 ⟨xr548, rfl, r548, e547⟩
        refine ret_intro ?_
        have hw14 : Ext w v546 := hw13.trans e547
        obtain ⟨s549, A549, n549, c549, rfl, z549⟩ := r548
        exact pi_done rfl e547 ⟨_, _, _, _, rfl, z549⟩
      · -- 14
        intro v550 e551
        have hw13 : Ext w v550 := hw12.trans e551
        refine deps_cons rfl rfl fun x552 y553 h554 e555 f556 => ?_
        obtain rfl := h554
        refine deps_cons rfl rfl fun x557 y558 h559 e560 f561 => ?_
        obtain rfl := h559
        refine deps_cons rfl rfl fun x562 y563 h564 e565 f566 => ?_
        obtain ⟨s567, A567, n567, c567, rfl, z567⟩ := h564
        have z567 := z567.ext f566
        refine deps_nil ?_
        refine wl_call rfl rfl (vs := [.agg #[.bool sa, .slice Aa na ca], .agg #[.bool s567, .slice A567 n567 c567]]) (by kernel_rfl) (by decide) (g_zint_Cmp (hx.ext hw13) (Nat.le_trans la (by decide)) z567.zi (z567.le (Nat.le_trans (show ln (0) ≤ 1 by decide +kernel) (by decide)))) ?_
        rintro _ v568 ⟨xr570, rfl, r570, e569⟩
        refine ret_intro ?_
        have hw14 : Ext w v568 := hw13.trans e569
        obtain rfl := r570
        exact pi_done rfl e569 rfl
      · -- 15
        intro v571 e572
        have hw13 : Ext w v571 := hw12.trans e572
        refine deps_cons rfl rfl fun x573 y574 h575 e576 f577 => ?_
        obtain rfl := h575
        refine deps_cons rfl rfl fun x578 y579 h580 e581 f582 => ?_
        obtain rfl := h580
        refine deps_cons rfl rfl fun x583 y584 h585 e586 f587 => ?_
        obtain rfl := h585
        refine deps_nil ?_
        refine wl_cmp rfl rfl rfl false (ne_f rfl) (by decide) ?_
        exact pi_done rfl (Ext.refl _) rfl
      · -- 16
        intro v588 e589
        have hw13 : Ext w v588 := hw12.trans e589
        refine deps_cons rfl rfl fun x590 y591 h592 e593 f594 => ?_
        obtain rfl := h592
        refine deps_cons rfl rfl fun x595 y596 h597 e598 f599 => ?_
        obtain rfl := h597
        refine deps_nil ?_
        refine wl_pure rfl rfl (v := .bool false) (by decide) (by kernel_rfl) ?_
        exact pi_done rfl (Ext.refl _) rfl
      · -- all
        intro v600 e601
        have hw13 : Ext w v600 := hw12.trans e601
        refine deps_cons rfl rfl fun x602 y603 h604 e605 f606 => ?_
        obtain rfl := h604
        refine deps_cons rfl rfl fun x607 y608 h609 e610 f611 => ?_
        obtain rfl := h609
        refine deps_cons rfl rfl fun x612 y613 h614 e615 f616 => ?_
        obtain rfl := h614
        refine deps_cons rfl rfl fun x617 y618 h619 e620 f621 => ?_
        obtain rfl := h619
        refine deps_cons rfl rfl fun x622 y623 h624 e625 f626 => ?_
        obtain ⟨s627, A627, n627, c627, rfl, z627⟩ := h624
        have z627 := z627.ext f626
        refine deps_cons rfl rfl fun x628 y629 h630 e631 f632 => ?_
        obtain rfl := h630
        refine deps_cons rfl rfl fun x633 y634 h635 e636 f637 => ?_
        obtain ⟨s638, A638, n638, c638, rfl, z638⟩ := h635
        have z638 := z638.ext f637
        refine deps_cons rfl rfl fun x639 y640 h641 e642 f643 => ?_
        obtain rfl := h641
        refine deps_cons rfl rfl fun x644 y645 h646 e647 f648 => ?_
        obtain rfl := h646
        refine deps_cons rfl rfl fun x649 y650 h651 e652 f653 => ?_
        obtain rfl := h651
        refine deps_cons rfl rfl fun x654 y655 h656 e657 f658 => ?_
        obtain rfl := h656
        refine deps_cons rfl rfl fun x659 y660 h661 e662 f663 => ?_
        obtain rfl := h661
        refine deps_cons rfl rfl fun x664 y665 h666 e667 f668 => ?_
        obtain rfl := h666
        refine deps_cons rfl rfl fun x669 y670 h671 e672 f673 => ?_
        obtain ⟨s674, A674, n674, c674, rfl, z674⟩ := h671
        have z674 := z674.ext f673
        refine deps_cons rfl rfl fun x675 y676 h677 e678 f679 => ?_
        obtain rfl := h677
        refine deps_cons rfl rfl fun x680 y681 h682 e683 f684 => ?_
        obtain rfl := h682
        refine deps_cons rfl rfl fun x685 y686 h687 e688 f689 => ?_
        obtain rfl := h687
        refine deps_nil ?_
        refine wl_nil ?_
        refine eo_np ?_
        refine eo_then ?_
        refine cw_false rfl ?_
        refine cw_skip ?_
        refine eo_then ?_
        refine cw_seq ?_
        have L690 : ln (x + y) ≤ 1048577 := Nat.le_trans (ln_add Lx Ly) (by decide)
        have L692 : ln ((Int.natAbs (x + y) : Int)) ≤ 1048577 := (by rw [ln_abs]; exact L690)
        have L694 : ln ((Int.natAbs x : Int)) ≤ 1048576 := (by rw [ln_abs]; exact Lx)
        have L696 : ln ((Int.natAbs y : Int)) ≤ 1048576 := (by rw [ln_abs]; exact Ly)
        have L698 : ln ((Int.natAbs x : Int) + (Int.natAbs y : Int)) ≤ 1048577 := Nat.le_trans (ln_add L694 L696) (by decide)
        have L700 : ln (x * y) ≤ 2097152 := Nat.le_trans (ln_mul Lx Ly) (by decide)
        refine cw_draw mix 23 [] [Is (.agg #[.bool sa, .slice Aa na ca]), Is (.agg #[.bool sb, .slice Ab nb cb]), ZR w.heap.size (x + y), ZR w.heap.size ((Int.natAbs (x + y) : Int)), Is (.agg #[.bool sa, .slice Aa na ca]), ZR w.heap.size ((Int.natAbs x : Int)), Is (.agg #[.bool sb, .slice Ab nb cb]), ZR w.heap.size ((Int.natAbs y : Int)), ZR w.heap.size ((Int.natAbs x : Int) + (Int.natAbs y : Int)), Is (.int .i64 (scmp (Int.natAbs (x + y) : Int) ((Int.natAbs x : Int) + (Int.natAbs y : Int)))), Is (.bool true), Is (.bool true), Is (.agg #[.bool sa, .slice Aa na ca]), Is (.agg #[.bool sb, .slice Ab nb cb]), ZR w.heap.size (x * y), Is (.int .i64 (scmp (x * y) 0)), Is (.agg #[.bool sa, .slice Aa na ca]), Is (.int .i64 (scmp x 0)), Is (.agg #[.bool sb, .slice Ab nb cb]), Is (.int .i64 (scmp y 0)), Is (.int .i64 (scmp x 0 * scmp y 0)), Is (.bool true), Is (.bool true)] [[], [], [0, 1], [2], [], [4], [], [6], [5, 7], [3, 8], [9], [10], [11], [11], [11, 12, 13], [11, 14], [11], [11, 16], [11], [11, 18], [11, 17, 19], [11, 15, 20], [11, 21]] [[], [], [0, 1], [0, 1, 2], [], [0, 1, 2, 3, 4], [], [0, 1, 2, 3, 4, 5, 6], [0, 1, 2, 3, 4, 5, 6, 7], [0, 1, 2, 3, 4, 5, 6, 7, 8], [0, 1, 2, 3, 4, 5, 6, 7, 8, 9], [0, 1, 2, 3, 4, 5, 6, 7, 8, 9, 10], [0, 1, 2, 3, 4, 5, 6, 7, 8, 9, 10, 11], [0, 1, 2, 3, 4, 5, 6, 7, 8, 9, 10, 11], [0, 1, 2, 3, 4, 5, 6, 7, 8, 9, 10, 11, 12, 13], [0, 1, 2, 3, 4, 5, 6, 7, 8, 9, 10, 11, 12, 13, 14], [0, 1, 2, 3, 4, 5, 6, 7, 8, 9, 10, 11], [0, 1, 2, 3, 4, 5, 6, 7, 8, 9, 10, 11, 12, 13, 14, 15, 16], [0, 1, 2, 3, 4, 5, 6, 7, 8, 9, 10, 11], [0, 1, 2, 3, 4, 5, 6, 7, 8, 9, 10, 11, 12, 13, 14, 15, 16, 17, 18], [0, 1, 2, 3, 4, 5, 6, 7, 8, 9, 10, 11, 12, 13, 14, 15, 16, 17, 18, 19], [0, 1, 2, 3, 4, 5, 6, 7, 8, 9, 10, 11, 12, 13, 14, 15, 16, 17, 18, 19, 20], [0, 1, 2, 3, 4, 5, 6, 7, 8, 9, 10, 11, 12, 13, 14, 15, 16, 17, 18, 19, 20, 21], [0, 1, 2, 3, 4, 5, 6, 7, 8, 9, 10, 11, 12, 13, 14, 15, 16, 17, 18, 19, 20, 21, 22]] rfl
          (obs_cons rfl rfl (hob rfl rfl ?_) (obs_cons rfl rfl (hob rfl rfl ?_) (obs_cons rfl rfl (hob rfl rfl ?_) (obs_cons rfl rfl (hob rfl rfl ?_) (obs_cons rfl rfl (hob rfl rfl ?_) (obs_cons rfl rfl (hob rfl rfl ?_) (obs_cons rfl rfl (hob rfl rfl ?_) (obs_cons rfl rfl (hob rfl rfl ?_) (obs_cons rfl rfl (hob rfl rfl ?_) (obs_cons rfl rfl (hob rfl rfl ?_) (obs_cons rfl rfl (hob rfl rfl ?_) (obs_cons rfl rfl (hob rfl rfl ?_) (obs_cons rfl rfl (hob rfl rfl ?_) (obs_cons rfl rfl (hob rfl rfl ?_) (obs_cons rfl rfl (hob rfl rfl ?_) (obs_cons rfl rfl (hob rfl rfl ?_) (obs_cons rfl rfl (hob rfl rfl ?_) (obs_cons rfl rfl (hob rfl rfl ?_) (obs_cons rfl rfl (hob rfl rfl ?_) (obs_cons rfl rfl (hob rfl rfl ?_) (obs_cons rfl rfl (hob rfl rfl ?_) (obs_cons rfl rfl (hob rfl rfl ?_) (obs_cons rfl rfl (hob rfl rfl ?_) obs_nil))))))))))))))))))))))) ?_
        · -- 0
          intro v702 e703
          have hw14 : Ext w v702 := hw13.trans e703
          refine deps_nil ?_
          refine wl_load rfl rfl (load_agg aggInt (hb4.ext (e8.trans (e14.trans (e19.trans (e22.trans (e25.trans (e29.trans (e33.trans (e36.trans (e296.trans (e417.trans (e420.trans (e601.trans e703))))))))))))) [.bool sa, .slice Aa na ca] rfl (Nat.le_of_ble_eq_true rfl) rfl) (by decide) ?_
          exact pi_done rfl (Ext.refl _) rfl
        · -- 1
          intro v704 e705
          have hw14 : Ext w v704 := hw13.trans e705
          refine deps_nil ?_
          refine wl_load rfl rfl (load_agg aggInt (hb9.ext (e14.trans (e19.trans (e22.trans (e25.trans (e29.trans (e33.trans (e36.trans (e296.trans (e417.trans (e420.trans (e601.trans e705)))))))))))) [.bool sb, .slice Ab nb cb] rfl (Nat.le_of_ble_eq_true rfl) rfl) (by decide) ?_
          exact pi_done rfl (Ext.refl _) rfl
        · -- 2
          intro v706 e707
          have hw14 : Ext w v706 := hw13.trans e707
          refine deps_cons rfl rfl fun x708 y709 h710 e711 f712 => ?_
          obtain rfl := h710
          refine deps_cons rfl rfl fun x713 y714 h715 e716 f717 => ?_
          obtain rfl := h715
          refine deps_nil ?_
          have L718 : ln (x + y) ≤ 1048577 := Nat.le_trans (ln_add Lx Ly) (by decide)
          refine wl_call rfl rfl (vs := [.agg #[.bool sa, .slice Aa na ca], .agg #[.bool sb, .slice Ab nb cb]]) (by kernel_rfl) (by decide) (g_zint_Add hw14.size (hx.ext hw14) (Nat.le_trans la (by decide)) (hy.ext hw14) (Nat.le_trans lb (by decide))) ?_
          rintro _ v719 ⟨xr721, rfl, r721, e720⟩
          refine ret_intro ?_
          have hw15 : Ext w v719 := hw14.trans e720
          obtain ⟨s722, A722, n722, c722, rfl, z722⟩ := r721
          exact pi_done rfl e720 ⟨_, _, _, _, rfl, z722⟩
        · -- 3
          intro v723 e724
          have hw14 : Ext w v723 := hw13.trans e724
          refine deps_cons rfl rfl fun x725 y726 h727 e728 f729 => ?_
          obtain ⟨s730, A730, n730, c730, rfl, z730⟩ := h727
          have z730 := z730.ext f729
          refine deps_nil ?_
          have L731 : ln ((Int.natAbs (x + y) : Int)) ≤ 1048577 := (by rw [ln_abs]; exact L690)
          refine wl_call rfl rfl (vs := [.agg #[.bool s730, .slice A730 n730 c730]]) (by kernel_rfl) (by decide) (g_zint_Abs hw14.size z730.zi (z730.le (Nat.le_trans L690 (by decide)))) ?_
          rintro _ v732 ⟨xr734, rfl, r734, e733⟩
          refine ret_intro ?_
          have hw15 : Ext w v732 := hw14.trans e733
          obtain ⟨s735, A735, n735, c735, rfl, z735⟩ := r734
          exact pi_done rfl e733 ⟨_, _, _, _, rfl, z735⟩
        · -- 4
          intro v736 e737
          have hw14 : Ext w v736 := hw13.trans e737
          refine deps_nil ?_
          refine wl_load rfl rfl (load_agg aggInt (hb4.ext (e8.trans (e14.trans (e19.trans (e22.trans (e25.trans (e29.trans (e33.trans (e36.trans (e296.trans (e417.trans (e420.trans (e601.trans e737))))))))))))) [.bool sa, .slice Aa na ca] rfl (Nat.le_of_ble_eq_true rfl) rfl) (by decide) ?_
          exact pi_done rfl (Ext.refl _) rfl
        · -- 5
          intro v738 e739
          have hw14 : Ext w v738 := hw13.trans e739
          refine deps_cons rfl rfl fun x740 y741 h742 e743 f744 => ?_
          obtain rfl := h742
          refine deps_nil ?_
          have L745 : ln ((Int.natAbs x : Int)) ≤ 1048576 := (by rw [ln_abs]; exact Lx)
          refine wl_call rfl rfl (vs := [.agg #[.bool sa, .slice Aa na ca]]) (by kernel_rfl) (by decide) (g_zint_Abs hw14.size (hx.ext hw14) (Nat.le_trans la (by decide))) ?_
          rintro _ v746 ⟨xr748, rfl, r748, e747⟩
          refine ret_intro ?_
          have hw15 : Ext w v746 := hw14.trans e747
          obtain ⟨s749, A749, n749, c749, rfl, z749⟩ := r748
          exact pi_done rfl e747 ⟨_, _, _, _, rfl, z749⟩
        · -- 6
          intro v750 e751
          have hw14 : Ext w v750 := hw13.trans e751
          refine deps_nil ?_
          refine wl_load rfl rfl (load_agg aggInt (hb9.ext (e14.trans (e19.trans (e22.trans (e25.trans (e29.trans (e33.trans (e36.trans (e296.trans (e417.trans (e420.trans (e601.trans e751)))))))))))) [.bool sb, .slice Ab nb cb] rfl (Nat.le_of_ble_eq_true rfl) rfl) (by decide) ?_
          exact pi_done rfl (Ext.refl _) rfl
        · -- 7
          intro v752 e753
          have hw14 : Ext w v752 := hw13.trans e753
          refine deps_cons rfl rfl fun x754 y755 h756 e757 f758 => ?_
          obtain rfl := h756
          refine deps_nil ?_
          have L759 : ln ((Int.natAbs y : Int)) ≤ 1048576 := (by rw [ln_abs]; exact Ly)
          refine wl_call rfl rfl (vs := [.agg #[.bool sb, .slice Ab nb cb]]) (by kernel_rfl) (by decide) (g_zint_Abs hw14.size (hy.ext hw14) (Nat.le_trans lb (by decide))) ?_
          rintro _ v760 ⟨xr762, rfl, r762, e761⟩
          refine ret_intro ?_
          have hw15 : Ext w v760 := hw14.trans e761
          obtain ⟨s763, A763, n763, c763, rfl, z763⟩ := r762
          exact pi_done rfl e761 ⟨_, _, _, _, rfl, z763⟩
        · -- 8
          intro v764 e765
          have hw14 : Ext w v764 := hw13.trans e765
          refine deps_cons rfl rfl fun x766 y767 h768 e769 f770 => ?_
          obtain ⟨s771, A771, n771, c771, rfl, z771⟩ := h768
          have z771 := z771.ext f770
          refine deps_cons rfl rfl fun x772 y773 h774 e775 f776 => ?_
          obtain ⟨s777, A777, n777, c777, rfl, z777⟩ := h774
          have z777 := z777.ext f776
          refine deps_nil ?_
          have L778 : ln ((Int.natAbs x : Int) + (Int.natAbs y : Int)) ≤ 1048577 := Nat.le_trans (ln_add L694 L696) (by decide)
          refine wl_call rfl rfl (vs := [.agg #[.bool s771, .slice A771 n771 c771], .agg #[.bool s777, .slice A777 n777 c777]]) (by kernel_rfl) (by decide) (g_zint_Add hw14.size z771.zi (z771.le (Nat.le_trans L694 (by decide))) z777.zi (z777.le (Nat.le_trans L696 (by decide)))) ?_
          rintro _ v779 ⟨xr781, rfl, r781, e780⟩
          refine ret_intro ?_
          have hw15 : Ext w v779 := hw14.trans e780
          obtain ⟨s782, A782, n782, c782, rfl, z782⟩ := r781
          exact pi_done rfl e780 ⟨_, _, _, _, rfl, z782⟩
        · -- 9
          intro v783 e784
          have hw14 : Ext w v783 := hw13.trans e784
          refine deps_cons rfl rfl fun x785 y786 h787 e788 f789 => ?_
          obtain ⟨s790, A790, n790, c790, rfl, z790⟩ := h787
          have z790 := z790.ext f789
          refine deps_cons rfl rfl fun x791 y792 h793 e794 f795 => ?_
          obtain ⟨s796, A796, n796, c796, rfl, z796⟩ := h793
          have z796 := z796.ext f795
          refine deps_nil ?_
          refine wl_call rfl rfl (vs := [.agg #[.bool s790, .slice A790 n790 c790], .agg #[.bool s796, .slice A796 n796 c796]]) (by kernel_rfl) (by decide) (g_zint_Cmp z790.zi (z790.le (Nat.le_trans L692 (by decide))) z796.zi (z796.le (Nat.le_trans L698 (by decide)))) ?_
          rintro _ v797 ⟨xr799, rfl, r799, e798⟩
          refine ret_intro ?_
          have hw15 : Ext w v797 := hw14.trans e798
          obtain rfl := r799
          exact pi_done rfl e798 rfl
        · -- 10
          intro v800 e801
          have hw14 : Ext w v800 := hw13.trans e801
          refine deps_cons rfl rfl fun x802 y803 h804 e805 f806 => ?_
          obtain rfl := h804
          refine deps_nil ?_
          refine wl_cmp rfl rfl rfl true (scmp_le_t (by omega)) (by decide) ?_
          exact pi_done rfl (Ext.refl _) rfl
        · -- 11
          intro v807 e808
          have hw14 : Ext w v807 := hw13.trans e808
          refine deps_cons rfl rfl fun x809 y810 h811 e812 f813 => ?_
          obtain rfl := h811
          refine deps_nil ?_
          refine wl_move rfl rfl (by decide) ?_
          exact pi_done rfl (Ext.refl _) rfl
        · -- 12
          intro v814 e815
          have hw14 : Ext w v814 := hw13.trans e815
          refine deps_cons rfl rfl fun x816 y817 h818 e819 f820 => ?_
          obtain rfl := h818
          refine deps_nil ?_
          refine wl_load rfl rfl (load_agg aggInt (hb4.ext (e8.trans (e14.trans (e19.trans (e22.trans (e25.trans (e29.trans (e33.trans (e36.trans (e296.trans (e417.trans (e420.trans (e601.trans e815))))))))))))) [.bool sa, .slice Aa na ca] rfl (Nat.le_of_ble_eq_true rfl) rfl) (by decide) ?_
          exact pi_done rfl (Ext.refl _) rfl
        · -- 13
          intro v821 e822
          have hw14 : Ext w v821 := hw13.trans e822
          refine deps_cons rfl rfl fun x823 y824 h825 e826 f827 => ?_
          obtain rfl := h825
          refine deps_nil ?_
          refine wl_load rfl rfl (load_agg aggInt (hb9.ext (e14.trans (e19.trans (e22.trans (e25.trans (e29.trans (e33.trans (e36.trans (e296.trans (e417.trans (e420.trans (e601.trans e822)))))))))))) [.bool sb, .slice Ab nb cb] rfl (Nat.le_of_ble_eq_true rfl) rfl) (by decide) ?_
          exact pi_done rfl (Ext.refl _) rfl
        · -- 14
          intro v828 e829
          have hw14 : Ext w v828 := hw13.trans e829
          refine deps_cons rfl rfl fun x830 y831 h832 e833 f834 => ?_
          obtain rfl := h832
          refine deps_cons rfl rfl fun x835 y836 h837 e838 f839 => ?_
          obtain rfl := h837
          refine deps_cons rfl rfl fun x840 y841 h842 e843 f844 => ?_
          obtain rfl := h842
          refine deps_nil ?_
          have L845 : ln (x * y) ≤ 2097152 := Nat.le_trans (ln_mul Lx Ly) (by decide)
          refine wl_call rfl rfl (vs := [.agg #[.bool sa, .slice Aa na ca], .agg #[.bool sb, .slice Ab nb cb]]) (by kernel_rfl) (by decide) (g_zint_Mul hw14.size (hx.ext hw14) (Nat.le_trans la (by decide)) (hy.ext hw14) (Nat.le_trans lb (by decide))) ?_
          rintro _ v846 ⟨xr848, rfl, r848, e847⟩
          refine ret_intro ?_
          have hw15 : Ext w v846 := hw14.trans e847
          obtain ⟨s849, A849, n849, c849, rfl, z849⟩ := r848
          exact pi_done rfl e847 ⟨_, _, _, _, rfl, z849⟩
        · -- 15
          intro v850 e851
          have hw14 : Ext w v850 := hw13.trans e851
          refine deps_cons rfl rfl fun x852 y853 h854 e855 f856 => ?_
          obtain rfl := h854
          refine deps_cons rfl rfl fun x857 y858 h859 e860 f861 => ?_
          obtain ⟨s862, A862, n862, c862, rfl, z862⟩ := h859
          have z862 := z862.ext f861
          refine deps_nil ?_
          refine wl_call rfl rfl (vs := [.agg #[.bool s862, .slice A862 n862 c862]]) (by kernel_rfl) (by decide) (g_zint_Sign z862.zi (z862.le (Nat.le_trans L700 (by decide)))) ?_
          rintro _ v863 ⟨xr865, rfl, r865, e864⟩
          refine ret_intro ?_
          have hw15 : Ext w v863 := hw14.trans e864
          obtain rfl := r865
          exact pi_done rfl e864 rfl
        · -- 16
          intro v866 e867
          have hw14 : Ext w v866 := hw13.trans e867
          refine deps_cons rfl rfl fun x868 y869 h870 e871 f872 => ?_
          obtain rfl := h870
          refine deps_nil ?_
          refine wl_load rfl rfl (load_agg aggInt (hb4.ext (e8.trans (e14.trans (e19.trans (e22.trans (e25.trans (e29.trans (e33.trans (e36.trans (e296.trans (e417.trans (e420.trans (e601.trans e867))))))))))))) [.bool sa, .slice Aa na ca] rfl (Nat.le_of_ble_eq_true rfl) rfl) (by decide) ?_
          exact pi_done rfl (Ext.refl _) rfl
        · -- 17
          intro v873 e874
          have hw14 : Ext w v873 := hw13.trans e874
          refine deps_cons rfl rfl fun x875 y876 h877 e878 f879 => ?_
          obtain rfl := h877
          refine deps_cons rfl rfl fun x880 y881 h882 e883 f884 => ?_
          obtain rfl := h882
          refine deps_nil ?_
          refine wl_call rfl rfl (vs := [.agg #[.bool sa, .slice Aa na ca]]) (by kernel_rfl) (by decide) (g_zint_Sign (hx.ext hw14) (Nat.le_trans la (by decide))) ?_
          rintro _ v885 ⟨xr887, rfl, r887, e886⟩
          refine ret_intro ?_
          have hw15 : Ext w v885 := hw14.trans e886
          obtain rfl := r887
          exact pi_done rfl e886 rfl
        · -- 18
          intro v888 e889
          have hw14 : Ext w v888 := hw13.trans e889
          refine deps_cons rfl rfl fun x890 y891 h892 e893 f894 => ?_
          obtain rfl := h892
          refine deps_nil ?_
          refine wl_load rfl rfl (load_agg aggInt (hb9.ext (e14.trans (e19.trans (e22.trans (e25.trans (e29.trans (e33.trans (e36.trans (e296.trans (e417.trans (e420.trans (e601.trans e889)))))))))))) [.bool sb, .slice Ab nb cb] rfl (Nat.le_of_ble_eq_true rfl) rfl) (by decide) ?_
          exact pi_done rfl (Ext.refl _) rfl
        · -- 19
          intro v895 e896
          have hw14 : Ext w v895 := hw13.trans e896
          refine deps_cons rfl rfl fun x897 y898 h899 e900 f901 => ?_
          obtain rfl := h899
          refine deps_cons rfl rfl fun x902 y903 h904 e905 f906 => ?_
          obtain rfl := h904
          refine deps_nil ?_
          refine wl_call rfl rfl (vs := [.agg #[.bool sb, .slice Ab nb cb]]) (by kernel_rfl) (by decide) (g_zint_Sign (hy.ext hw14) (Nat.le_trans lb (by decide))) ?_
          rintro _ v907 ⟨xr909, rfl, r909, e908⟩
          refine ret_intro ?_
          have hw15 : Ext w v907 := hw14.trans e908
          obtain rfl := r909
          exact pi_done rfl e908 rfl
        · -- 20
          intro v910 e911
          have hw14 : Ext w v910 := hw13.trans e911
          refine deps_cons rfl rfl fun x912 y913 h914 e915 f916 => ?_
          obtain rfl := h914
          refine deps_cons rfl rfl fun x917 y918 h919 e920 f921 => ?_
          obtain rfl := h919
          refine deps_cons rfl rfl fun x922 y923 h924 e925 f926 => ?_
          obtain rfl := h924
          refine deps_nil ?_
          refine wl_ar rfl rfl rfl (scmp x 0 * scmp y 0) (ar_i64m rfl (by have := scmp_mul_bd x 0 y 0; omega) (by have := scmp_mul_bd x 0 y 0; omega)) (by decide) ?_
          exact pi_done rfl (Ext.refl _) rfl
        · -- 21
          intro v927 e928
          have hw14 : Ext w v927 := hw13.trans e928
          refine deps_cons rfl rfl fun x929 y930 h931 e932 f933 => ?_
          obtain rfl := h931
          refine deps_cons rfl rfl fun x934 y935 h936 e937 f938 => ?_
          obtain rfl := h936
          refine deps_cons rfl rfl fun x939 y940 h941 e942 f943 => ?_
          obtain rfl := h941
          refine deps_nil ?_
          refine wl_cmp rfl rfl rfl true (eq_t (scmp_mul0 x y)) (by decide) ?_
          exact pi_done rfl (Ext.refl _) rfl
        · -- 22
          intro v944 e945
          have hw14 : Ext w v944 := hw13.trans e945
          refine deps_cons rfl rfl fun x946 y947 h948 e949 f950 => ?_
          obtain rfl := h948
          refine deps_cons rfl rfl fun x951 y952 h953 e954 f955 => ?_
          obtain rfl := h953
          refine deps_nil ?_
          refine wl_pure rfl rfl (v := .bool true) (by decide) (by kernel_rfl) ?_
          exact pi_done rfl (Ext.refl _) rfl
        · -- all
          intro v956 e957
          have hw14 : Ext w v956 := hw13.trans e957
          refine deps_cons rfl rfl fun x958 y959 h960 e961 f962 => ?_
          obtain rfl := h960
          refine deps_cons rfl rfl fun x963 y964 h965 e966 f967 => ?_
          obtain rfl := h965
          refine deps_cons rfl rfl fun x968 y969 h970 e971 f972 => ?_
          obtain ⟨s973, A973, n973, c973, rfl, z973⟩ := h970
          have z973 := z973.ext f972
          refine deps_cons rfl rfl fun x974 y975 h976 e977 f978 => ?_
          obtain ⟨s979, A979, n979, c979, rfl, z979⟩ := h976
          have z979 := z979.ext f978
          refine deps_cons rfl rfl fun x980 y981 h982 e983 f984 => ?_
          obtain rfl := h982
          refine deps_cons rfl rfl fun x985 y986 h987 e988 f989 => ?_
          obtain ⟨s990, A990, n990, c990, rfl, z990⟩ := h987
          have z990 := z990.ext f989
          refine deps_cons rfl rfl fun x991 y992 h993 e994 f995 => ?_
          obtain rfl := h993
          refine deps_cons rfl rfl fun x996 y997 h998 e999 f1000 => ?_
          obtain ⟨s1001, A1001, n1001, c1001, rfl, z1001⟩ := h998
          have z1001 := z1001.ext f1000
          refine deps_cons rfl rfl fun x1002 y1003 h1004 e1005 f1006 => ?_
          obtain ⟨s1007, A1007, n1007, c1007, rfl, z1007⟩ := h1004
          have z1007 := z1007.ext f1006
          refine deps_cons rfl rfl fun x1008 y1009 h1010 e1011 f1012 => ?_
          obtain rfl := h1010
          refine deps_cons rfl rfl fun x1013 y1014 h1015 e1016 f1017 => ?_
          obtain rfl := h1015
          refine deps_cons rfl rfl fun x1018 y1019 h1020 e1021 f1022 => ?_
          obtain rfl := h1020
          refine deps_cons rfl rfl fun x1023 y1024 h1025 e1026 f1027 => ?_
          obtain rfl := h1025
          refine deps_cons rfl rfl fun x1028 y1029 h1030 e1031 f1032 => ?_
          obtain rfl := h1030
          refine deps_cons rfl rfl fun x1033 y1034 h1035 e1036 f1037 => ?_
          obtain ⟨s1038, A1038, n1038, c1038, rfl, z1038⟩ := h1035
          have z1038 := z1038.ext f1037
          refine deps_cons rfl rfl fun x1039 y1040 h1041 e1042 f1043 => ?_
          obtain rfl := h1041
          refine deps_cons rfl rfl fun x1044 y1045 h1046 e1047 f1048 => ?_
          obtain rfl := h1046
          refine deps_cons rfl rfl fun x1049 y1050 h1051 e1052 f1053 => ?_
          obtain rfl := h1051
          refine deps_cons rfl rfl fun x1054 y1055 h1056 e1057 f1058 => ?_
          obtain rfl := h1056
          refine deps_cons rfl rfl fun x1059 y1060 h1061 e1062 f1063 => ?_
          obtain rfl := h1061
          refine deps_cons rfl rfl fun x1064 y1065 h1066 e1067 f1068 => ?_
          obtain rfl := h1066
          refine deps_cons rfl rfl fun x1069 y1070 h1071 e1072 f1073 => ?_
          obtain rfl := h1071
          refine deps_cons rfl rfl fun x1074 y1075 h1076 e1077 f1078 => ?_
          obtain rfl := h1076
          refine deps_nil ?_
          refine wl_assign rfl rfl (by decide) ?_
          refine wl_nil ?_
          refine eo_np ?_
          refine eo_then ?_
          refine cw_ret ?_
          refine eo_ret [.bool true] rfl ⟨rfl, trivial⟩ ?_
          exact bool_of _ _ ⟨_, rfl, rfl, hw14⟩
    ·
      refine cw_region ?_
      refine wl_move rfl rfl (by decide) ?_
      refine wl_move rfl rfl (by decide) ?_
      refine wl_cmp rfl rfl rfl false (eq_f heq) (by decide) ?_
      refine wl_move rfl rfl (by decide) ?_
      refine wl_off rfl (by decide) ?_
      refine wl_off rfl (by decide) ?_
      refine wl_off rfl (by decide) ?_
      refine wl_off rfl (by decide) ?_
      refine wl_off rfl (by decide) ?_
      refine wl_pure rfl rfl (v := .bool false) (by decide) (by kernel_rfl) ?_
      refine wl_nil ?_
      refine eo_then ?_
      refine cw_false rfl ?_
      refine cw_skip ?_
      refine eo_then ?_
      refine cw_seq ?_
      refine cw_seq ?_
      have L1079 : ln ((Int.natAbs x : Int)) ≤ 1048576 := (by rw [ln_abs]; exact Lx)
      have L1081 : ln ((Int.natAbs y : Int)) ≤ 1048576 := (by rw [ln_abs]; exact Ly)
      refine cw_draw mix 17 [] [Is (.agg #[.bool sa, .slice Aa na ca]), Is (.agg #[.bool sb, .slice Ab nb cb]), Is (.int .i64 (cmp3 (Int.natAbs x) (Int.natAbs y))), Is (.agg #[.bool sa, .slice Aa na ca]), ZR w.heap.size ((Int.natAbs x : Int)), Is (.agg #[.bool sb, .slice Ab nb cb]), ZR w.heap.size ((Int.natAbs y : Int)), Is (.int .i64 (scmp (Int.natAbs x : Int) (Int.natAbs y : Int))), Is (.bool false), Is (.bool false), Is (.agg #[.bool sa, .slice Aa na ca]), Is (.int .i64 (scmp x 0)), Is (.agg #[.bool sa, .slice Aa na ca]), ZR w.heap.size (0), Is (.int .i64 (scmp x 0)), Is (.bool false), Is (.bool false)] [[], [], [0, 1], [], [3], [], [5], [4, 6], [2, 7], [8], [9], [9, 10], [9], [9], [9, 12, 13], [9, 11, 14], [9, 15]] [[], [], [0, 1], [], [0, 1, 2, 3], [], [0, 1, 2, 3, 4, 5], [0, 1, 2, 3, 4, 5, 6], [0, 1, 2, 3, 4, 5, 6, 7], [0, 1, 2, 3, 4, 5, 6, 7, 8], [0, 1, 2, 3, 4, 5, 6, 7, 8, 9], [0, 1, 2, 3, 4, 5, 6, 7, 8, 9, 10], [0, 1, 2, 3, 4, 5, 6, 7, 8, 9], [0, 1, 2, 3, 4, 5, 6, 7, 8, 9, 10, 11], [0, 1, 2, 3, 4, 5, 6, 7, 8, 9, 10, 11, 12, 13], [0, 1, 2, 3, 4, 5, 6, 7, 8, 9, 10, 11, 12, 13, 14], [0, 1, 2, 3, 4, 5, 6, 7, 8, 9, 10, 11, 12, 13, 14, 15]] rfl
        (obs_cons rfl rfl (hob rfl rfl ?_) (obs_cons rfl rfl (hob rfl rfl ?_) (obs_cons rfl rfl (hob rfl rfl ?_) (obs_cons rfl rfl (hob rfl rfl ?_) (obs_cons rfl rfl (hob rfl rfl ?_) (obs_cons rfl rfl (hob rfl rfl ?_) (obs_cons rfl rfl (hob rfl rfl ?_) (obs_cons rfl rfl (hob rfl rfl ?_) (obs_cons rfl rfl (hob rfl rfl ?_) (obs_cons rfl rfl (hob rfl rfl ?_) (obs_cons rfl rfl (hob rfl rfl ?_) (obs_cons rfl rfl (hob rfl rfl ?_) (obs_cons rfl rfl (hob rfl rfl ?_) (obs_cons rfl rfl (hob rfl rfl ?_) (obs_cons rfl rfl (hob rfl rfl ?_) (obs_cons rfl rfl (hob rfl rfl ?_) (obs_cons rfl rfl (hob rfl rfl ?_) obs_nil))))))))))))))))) ?_
      · -- 0
        intro v1084 e1085
        have hw12 : Ext w v1084 := hw11.trans e1085
        refine deps_nil ?_
        refine wl_load rfl rfl (load_agg aggInt (hb4.ext (e8.trans (e14.trans (e19.trans (e22.trans (e25.trans (e29.trans (e33.trans (e36.trans (e296.trans (e417.trans e1085))))))))))) [.bool sa, .slice Aa na ca] rfl (Nat.le_of_ble_eq_true rfl) rfl) (by decide) ?_
        exact pi_done rfl (Ext.refl _) rfl
      · -- 1
        intro v1086 e1087
        have hw12 : Ext w v1086 := hw11.trans e1087
        refine deps_nil ?_
        refine wl_load rfl rfl (load_agg aggInt (hb9.ext (e14.trans (e19.trans (e22.trans (e25.trans (e29.trans (e33.trans (e36.trans (e296.trans (e417.trans e1087)))))))))) [.bool sb, .slice Ab nb cb] rfl (Nat.le_of_ble_eq_true rfl) rfl) (by decide) ?_
        exact pi_done rfl (Ext.refl _) rfl
      · -- 2
        intro v1088 e1089
        have hw12 : Ext w v1088 := hw11.trans e1089
        refine deps_cons rfl rfl fun x1090 y1091 h1092 e1093 f1094 => ?_
        obtain rfl := h1092
        refine deps_cons rfl rfl fun x1095 y1096 h1097 e1098 f1099 => ?_
        obtain rfl := h1097
        refine deps_nil ?_
        refine wl_call rfl rfl (vs := [.agg #[.bool sa, .slice Aa na ca], .agg #[.bool sb, .slice Ab nb cb]]) (by kernel_rfl) (by decide) (g_zint_CmpAbs (hx.ext hw12) (Nat.le_trans la (by decide)) (hy.ext hw12) (Nat.le_trans lb (by decide))) ?_
        rintro _ v1100 ⟨xr1102, rfl, r1102, e1101⟩
        refine ret_intro ?_
        have hw13 : Ext w v1100 := hw12.trans e1101
        obtain rfl := r1102
        exact pi_done rfl e1101 rfl
      · -- 3
        intro v1103 e1104
        have hw12 : Ext w v1103 := hw11.trans e1104
        refine deps_nil ?_
        refine wl_load rfl rfl (load_agg aggInt (hb4.ext (e8.trans (e14.trans (e19.trans (e22.trans (e25.trans (e29.trans (e33.trans (e36.trans (e296.trans (e417.trans e1104))))))))))) [.bool sa, .slice Aa na ca] rfl (Nat.le_of_ble_eq_true rfl) rfl) (by decide) ?_
        exact pi_done rfl (Ext.refl _) rfl
      · -- 4
        intro v1105 e1106
        have hw12 : Ext w v1105 := hw11.trans e1106
        refine deps_cons rfl rfl fun x1107 y1108 h1109 e1110 f1111 => ?_
        obtain rfl := h1109
        refine deps_nil ?_
        have L1112 : ln ((Int.natAbs x : Int)) ≤ 1048576 := (by rw [ln_abs]; exact Lx)
        refine wl_call rfl rfl (vs := [.agg #[.bool sa, .slice Aa na ca]]) (by kernel_rfl) (by decide) (g_zint_Abs hw12.size (hx.ext hw12) (Nat.le_trans la (by decide))) ?_
        rintro _ v1113 ⟨xr1115, rfl, r1115, e1114⟩
        refine ret_intro ?_
        have hw13 : Ext w v1113 := hw12.trans e1114
        obtain ⟨s1116, A1116, n1116, c1116, rfl, z1116⟩ := r1115
        exact pi_done rfl e1114 ⟨_, _, _, _, rfl, z1116⟩
      · -- 5
        intro v1117 e1118
        have hw12 : Ext w v1117 := hw11.trans e1118
        refine deps_nil ?_
        refine wl_load rfl rfl (load_agg aggInt (hb9.ext (e14.trans (e19.trans (e22.trans (e25.trans (e29.trans (e33.trans (e36.trans (e296.trans (e417.trans e1118)))))))))) [.bool sb, .slice Ab nb cb] rfl (Nat.le_of_ble_eq_true rfl) rfl) (by decide) ?_
        exact pi_done rfl (Ext.refl _) rfl
      · -- 6
        intro v1119 e1120
        have hw12 : Ext w v1119 := hw11.trans e1120
        refine deps_cons rfl rfl fun x1121 y1122 h1123 e1124 f1125 => ?_
        obtain rfl := h1123
        refine deps_nil ?_
        have L1126 : ln ((Int.natAbs y : Int)) ≤ 1048576 := (by rw [ln_abs]; exact Ly)
        refine wl_call rfl rfl (vs := [.agg #[.bool sb, .slice Ab nb cb]]) (by kernel_rfl) (by decide) (g_zint_Abs hw12.size (hy.ext hw12) (Nat.le_trans lb (by decide))) ?_
        rintro _ v1127 ⟨xr1129, rfl, r1129, e1128⟩
        refine ret_intro ?_
        have hw13 : Ext w v1127 := hw12.trans e1128
        obtain ⟨s1130, A1130, n1130, c1130, rfl, z1130⟩ := r1129
        exact pi_done rfl e1128 ⟨_, _, _, _, rfl, z1130⟩
      · -- 7
        intro v1131 e1132
        have hw12 : Ext w v1131 := hw11.trans e1132
        refine deps_cons rfl rfl fun x1133 y1134 h1135 e1136 f1137 => ?_
        obtain ⟨s1138, A1138, n1138, c1138, rfl, z1138⟩ := h1135
        have z1138 := z1138.ext f1137
        refine deps_cons rfl rfl fun x1139 y1140 h1141 e1142 f1143 => ?_
        obtain ⟨s1144, A1144, n1144, c1144, rfl, z1144⟩ := h1141
        have z1144 := z1144.ext f1143
        refine deps_nil ?_
        refine wl_call rfl rfl (vs := [.agg #[.bool s1138, .slice A1138 n1138 c1138], .agg #[.bool s1144, .slice A1144 n1144 c1144]]) (by kernel_rfl) (by decide) (g_zint_Cmp z1138.zi (z1138.le (Nat.le_trans L1079 (by decide))) z1144.zi (z1144.le (Nat.le_trans L1081 (by decide)))) ?_
        rintro _ v1145 ⟨xr1147, rfl, r1147, e1146⟩
        refine ret_intro ?_
        have hw13 : Ext w v1145 := hw12.trans e1146
        obtain rfl := r1147
        exact pi_done rfl e1146 rfl
      · -- 8
        intro v1148 e1149
        have hw12 : Ext w v1148 := hw11.trans e1149
        refine deps_cons rfl rfl fun x1150 y1151 h1152 e1153 f1154 => ?_
        obtain rfl := h1152
        refine deps_cons rfl rfl fun x1155 y1156 h1157 e1158 f1159 => ?_
        obtain rfl := h1157
        refine deps_nil ?_
        refine wl_cmp rfl rfl rfl false (ne_f (cmp3_abs x y)) (by decide) ?_
        exact pi_done rfl (Ext.refl _) rfl
      · -- 9
        intro v1160 e1161
        have hw12 : Ext w v1160 := hw11.trans e1161
        refine deps_cons rfl rfl fun x1162 y1163 h1164 e1165 f1166 => ?_
        obtain rfl := h1164
        refine deps_nil ?_
        refine wl_move rfl rfl (by decide) ?_
        exact pi_done rfl (Ext.refl _) rfl
      · -- 10
        intro v1167 e1168
        have hw12 : Ext w v1167 := hw11.trans e1168
        refine deps_cons rfl rfl fun x1169 y1170 h1171 e1172 f1173 => ?_
        obtain rfl := h1171
        refine deps_nil ?_
        refine wl_load rfl rfl (load_agg aggInt (hb4.ext (e8.trans (e14.trans (e19.trans (e22.trans (e25.trans (e29.trans (e33.trans (e36.trans (e296.trans (e417.trans e1168))))))))))) [.bool sa, .slice Aa na ca] rfl (Nat.le_of_ble_eq_true rfl) rfl) (by decide) ?_
        exact pi_done rfl (Ext.refl _) rfl
      · -- 11
        intro v1174 e1175
        have hw12 : Ext w v1174 := hw11.trans e1175
        refine deps_cons rfl rfl fun x1176 y1177 h1178 e1179 f1180 => ?_
        obtain rfl := h1178
        refine deps_cons rfl rfl fun x1181 y1182 h1183 e1184 f1185 => ?_
        obtain rfl := h1183
        refine deps_nil ?_
        refine wl_call rfl rfl (vs := [.agg #[.bool sa, .slice Aa na ca]]) (by kernel_rfl) (by decide) (g_zint_Sign (hx.ext hw12) (Nat.le_trans la (by decide))) ?_
        rintro _ v1186 ⟨xr1188, rfl, r1188, e1187⟩
        refine ret_intro ?_
        have hw13 : Ext w v1186 := hw12.trans e1187
        obtain rfl := r1188
        exact pi_done rfl e1187 rfl
      · -- 12
        intro v1189 e1190
        have hw12 : Ext w v1189 := hw11.trans e1190
        refine deps_cons rfl rfl fun x1191 y1192 h1193 e1194 f1195 => ?_
        obtain rfl := h1193
        refine deps_nil ?_
        refine wl_load rfl rfl (load_agg aggInt (hb4.ext (e8.trans (e14.trans (e19.trans (e22.trans (e25.trans (e29.trans (e33.trans (e36.trans (e296.trans (e417.trans e1190))))))))))) [.bool sa, .slice Aa na ca] rfl (Nat.le_of_ble_eq_true rfl) rfl) (by decide) ?_
        exact pi_done rfl (Ext.refl _) rfl
      · -- 13
        intro v1196 e1197
        have hw12 : Ext w v1196 := hw11.trans e1197
        refine deps_cons rfl rfl fun x1198 y1199 h1200 e1201 f1202 => ?_
        obtain rfl := h1200
        refine deps_nil ?_
        refine wl_call rfl rfl (vs := [.int .i64 0]) (by kernel_rfl) (by decide) (g_zint_Of hw12.size (by decide) (by decide)) ?_
        rintro _ v1203 ⟨xr1205, rfl, r1205, e1204⟩
        refine ret_intro ?_
        have hw13 : Ext w v1203 := hw12.trans e1204
        obtain ⟨s1206, A1206, n1206, c1206, rfl, z1206⟩ := r1205
        exact pi_done rfl e1204 ⟨_, _, _, _, rfl, z1206⟩
      · -- 14
        intro v1207 e1208
        have hw12 : Ext w v1207 := hw11.trans e1208
        refine deps_cons rfl rfl fun x1209 y1210 h1211 e1212 f1213 => ?_
        obtain rfl := h1211
        refine deps_cons rfl rfl fun x1214 y1215 h1216 e1217 f1218 => ?_
        obtain rfl := h1216
        refine deps_cons rfl rfl fun x1219 y1220 h1221 e1222 f1223 => ?_
        obtain ⟨s1224, A1224, n1224, c1224, rfl, z1224⟩ := h1221
        have z1224 := z1224.ext f1223
        refine deps_nil ?_
        refine wl_call rfl rfl (vs := [.agg #[.bool sa, .slice Aa na ca], .agg #[.bool s1224, .slice A1224 n1224 c1224]]) (by kernel_rfl) (by decide) (g_zint_Cmp (hx.ext hw12) (Nat.le_trans la (by decide)) z1224.zi (z1224.le (Nat.le_trans (show ln (0) ≤ 1 by decide +kernel) (by decide)))) ?_
        rintro _ v1225 ⟨xr1227, rfl, r1227, e1226⟩
        refine ret_intro ?_
        have hw13 : Ext w v1225 := hw12.trans e1226
        obtain rfl := r1227
        exact pi_done rfl e1226 rfl
      · -- 15
        intro v1228 e1229
        have hw12 : Ext w v1228 := hw11.trans e1229
        refine deps_cons rfl rfl fun x1230 y1231 h1232 e1233 f1234 => ?_
        obtain rfl := h1232
        refine deps_cons rfl rfl fun x1235 y1236 h1237 e1238 f1239 => ?_
        obtain rfl := h1237
        refine deps_cons rfl rfl fun x1240 y1241 h1242 e1243 f1244 => ?_
        obtain rfl := h1242
        refine deps_nil ?_
        refine wl_cmp rfl rfl rfl false (ne_f rfl) (by decide) ?_
        exact pi_done rfl (Ext.refl _) rfl
      · -- 16
        intro v1245 e1246
        have hw12 : Ext w v1245 := hw11.trans e1246
        refine deps_cons rfl rfl fun x1247 y1248 h1249 e1250 f1251 => ?_
        obtain rfl := h1249
        refine deps_cons rfl rfl fun x1252 y1253 h1254 e1255 f1256 => ?_
        obtain rfl := h1254
        refine deps_nil ?_
        refine wl_pure rfl rfl (v := .bool false) (by decide) (by kernel_rfl) ?_
        exact pi_done rfl (Ext.refl _) rfl
      · -- all
        intro v1257 e1258
        have hw12 : Ext w v1257 := hw11.trans e1258
        refine deps_cons rfl rfl fun x1259 y1260 h1261 e1262 f1263 => ?_
        obtain rfl := h1261
        refine deps_cons rfl rfl fun x1264 y1265 h1266 e1267 f1268 => ?_
        obtain rfl := h1266
        refine deps_cons rfl rfl fun x1269 y1270 h1271 e1272 f1273 => ?_
        obtain rfl := h1271
        refine deps_cons rfl rfl fun x1274 y1275 h1276 e1277 f1278 => ?_
        obtain rfl := h1276
        refine deps_cons rfl rfl fun x1279 y1280 h1281 e1282 f1283 => ?_
        obtain ⟨s1284, A1284, n1284, c1284, rfl, z1284⟩ := h1281
        have z1284 := z1284.ext f1283
        refine deps_cons rfl rfl fun x1285 y1286 h1287 e1288 f1289 => ?_
        obtain rfl := h1287
        refine deps_cons rfl rfl fun x1290 y1291 h1292 e1293 f1294 => ?_
        obtain ⟨s1295, A1295, n1295, c1295, rfl, z1295⟩ := h1292
        have z1295 := z1295.ext f1294
        refine deps_cons rfl rfl fun x1296 y1297 h1298 e1299 f1300 => ?_
        obtain rfl := h1298
        refine deps_cons rfl rfl fun x1301 y1302 h1303 e1304 f1305 => ?_
        obtain rfl := h1303
        refine deps_cons rfl rfl fun x1306 y1307 h1308 e1309 f1310 => ?_
        obtain rfl := h1308
        refine deps_cons rfl rfl fun x1311 y1312 h1313 e1314 f1315 => ?_
        obtain rfl := h1313
        refine deps_cons rfl rfl fun x1316 y1317 h1318 e1319 f1320 => ?_
        obtain rfl := h1318
        refine deps_cons rfl rfl fun x1321 y1322 h1323 e1324 f1325 => ?_
        obtain rfl := h1323
        refine deps_cons rfl rfl fun x1326 y1327 h1328 e1329 f1330 => ?_
        obtain ⟨s1331, A1331, n1331, c1331, rfl, z1331⟩ := h1328
        have z1331 := z1331.ext f1330
        refine deps_cons rfl rfl fun x1332 y1333 h1334 e1335 f1336 => ?_
        obtain rfl := h1334
        refine deps_cons rfl rfl fun x1337 y1338 h1339 e1340 f1341 => ?_
        obtain rfl := h1339
        refine deps_cons rfl rfl fun x1342 y1343 h1344 e1345 f1346 => ?_
        obtain rfl := h1344
        refine deps_nil ?_
        refine wl_nil ?_
        refine eo_np ?_
        refine eo_then ?_
        refine cw_false rfl ?_
        refine cw_skip ?_
        refine eo_then ?_
        refine cw_seq ?_
        have L1347 : ln (x + y) ≤ 1048577 := Nat.le_trans (ln_add Lx Ly) (by decide)
        have L1349 : ln ((Int.natAbs (x + y) : Int)) ≤ 1048577 := (by rw [ln_abs]; exact L1347)
        have L1351 : ln ((Int.natAbs x : Int)) ≤ 1048576 := (by rw [ln_abs]; exact Lx)
        have L1353 : ln ((Int.natAbs y : Int)) ≤ 1048576 := (by rw [ln_abs]; exact Ly)
        have L1355 : ln ((Int.natAbs x : Int) + (Int.natAbs y : Int)) ≤ 1048577 := Nat.le_trans (ln_add L1351 L1353) (by decide)
        have L1357 : ln (x * y) ≤ 2097152 := Nat.le_trans (ln_mul Lx Ly) (by decide)
        refine cw_draw mix 23 [] [Is (.agg #[.bool sa, .slice Aa na ca]), Is (.agg #[.bool sb, .slice Ab nb cb]), ZR w.heap.size (x + y), ZR w.heap.size ((Int.natAbs (x + y) : Int)), Is (.agg #[.bool sa, .slice Aa na ca]), ZR w.heap.size ((Int.natAbs x : Int)), Is (.agg #[.bool sb, .slice Ab nb cb]), ZR w.heap.size ((Int.natAbs y : Int)), ZR w.heap.size ((Int.natAbs x : Int) + (Int.natAbs y : Int)), Is (.int .i64 (scmp (Int.natAbs (x + y) : Int) ((Int.natAbs x : Int) + (Int.natAbs y : Int)))), Is (.bool true), Is (.bool true), Is (.agg #[.bool sa, .slice Aa na ca]), Is (.agg #[.bool sb, .slice Ab nb cb]), ZR w.heap.size (x * y), Is (.int .i64 (scmp (x * y) 0)), Is (.agg #[.bool sa, .slice Aa na ca]), Is (.int .i64 (scmp x 0)), Is (.agg #[.bool sb, .slice Ab nb cb]), Is (.int .i64 (scmp y 0)), Is (.int .i64 (scmp x 0 * scmp y 0)), Is (.bool true), Is (.bool true)] [[], [], [0, 1], [2], [], [4], [], [6], [5, 7], [3, 8], [9], [10], [11], [11], [11, 12, 13], [11, 14], [11], [11, 16], [11], [11, 18], [11, 17, 19], [11, 15, 20], [11, 21]] [[], [], [0, 1], [0, 1, 2], [], [0, 1, 2, 3, 4], [], [0, 1, 2, 3, 4, 5, 6], [0, 1, 2, 3, 4, 5, 6, 7], [0, 1, 2, 3, 4, 5, 6, 7, 8], [0, 1, 2, 3, 4, 5, 6, 7, 8, 9], [0, 1, 2, 3, 4, 5, 6, 7, 8, 9, 10], [0, 1, 2, 3, 4, 5, 6, 7, 8, 9, 10, 11], [0, 1, 2, 3, 4, 5, 6, 7, 8, 9, 10, 11], [0, 1, 2, 3, 4, 5, 6, 7, 8, 9, 10, 11, 12, 13], [0, 1, 2, 3, 4, 5, 6, 7, 8, 9, 10, 11, 12, 13, 14], [0, 1, 2, 3, 4, 5, 6, 7, 8, 9, 10, 11], [0, 1, 2, 3, 4, 5, 6, 7, 8, 9, 10, 11, 12, 13, 14, 15, 16], [0, 1, 2, 3, 4, 5, 6, 7, 8, 9, 10, 11], [0, 1, 2, 3, 4, 5, 6, 7, 8, 9, 10, 11, 12, 13, 14, 15, 16, 17, 18], [0, 1, 2, 3, 4, 5, 6, 7, 8, 9, 10, 11, 12, 13, 14, 15, 16, 17, 18, 19], [0, 1, 2, 3, 4, 5, 6, 7, 8, 9, 10, 11, 12, 13, 14, 15, 16, 17, 18, 19, 20], [0, 1, 2, 3, 4, 5, 6, 7, 8, 9, 10, 11, 12, 13, 14, 15, 16, 17, 18, 19, 20, 21], [0, 1, 2, 3, 4, 5, 6, 7, 8, 9, 10, 11, 12, 13, 14, 15, 16, 17, 18, 19, 20, 21, 22]] rfl
          (obs_cons rfl rfl (hob rfl rfl ?_) (obs_cons rfl rfl (hob rfl rfl ?_) (obs_cons rfl rfl (hob rfl rfl ?_) (obs_cons rfl rfl (hob rfl rfl ?_) (obs_cons rfl rfl (hob rfl rfl ?_) (obs_cons rfl rfl (hob rfl rfl ?_) (obs_cons rfl rfl (hob rfl rfl ?_) (obs_cons rfl rfl (hob rfl rfl ?_) (obs_cons rfl rfl (hob rfl rfl ?_) (obs_cons rfl rfl (hob rfl rfl ?_) (obs_cons rfl rfl (hob rfl rfl ?_) (obs_cons rfl rfl (hob rfl rfl ?_) (obs_cons rfl rfl (hob rfl rfl ?_) (obs_cons rfl rfl (hob rfl rfl ?_) (obs_cons rfl rfl (hob rfl rfl ?_) (obs_cons rfl rfl (hob rfl rfl ?_) (obs_cons rfl rfl (hob rfl rfl ?_) (obs_cons rfl rfl (hob rfl rfl ?_) (obs_cons rfl rfl (hob rfl rfl ?_) (obs_cons rfl rfl (hob rfl rfl ?_) (obs_cons rfl rfl (hob rfl rfl ?_) (obs_cons rfl rfl (hob rfl rfl ?_) (obs_cons rfl rfl (hob rfl rfl ?_) obs_nil))))))))))))))))))))))) ?_
        · -- 0
          intro v1359 e1360
          have hw13 : Ext w v1359 := hw12.trans e1360
          refine deps_nil ?_
          refine wl_load rfl rfl (load_agg aggInt (hb4.ext (e8.trans (e14.trans (e19.trans (e22.trans (e25.trans (e29.trans (e33.trans (e36.trans (e296.trans (e417.trans (e1258.trans e1360)))))))))))) [.bool sa, .slice Aa na ca] rfl (Nat.le_of_ble_eq_true rfl) rfl) (by decide) ?_
          exact pi_done rfl (Ext.refl _) rfl
        · -- 1
          intro v1361 e1362
          have hw13 : Ext w v1361 := hw12.trans e1362
          refine deps_nil ?_
          refine wl_load rfl rfl (load_agg aggInt (hb9.ext (e14.trans (e19.trans (e22.trans (e25.trans (e29.trans (e33.trans (e36.trans (e296.trans (e417.trans (e1258.trans e1362))))))))))) [.bool sb, .slice Ab nb cb] rfl (Nat.le_of_ble_eq_true rfl) rfl) (by decide) ?_
          exact pi_done rfl (Ext.refl _) rfl
        · -- 2
          intro v1363 e1364
          have hw13 : Ext w v1363 := hw12.trans e1364
          refine deps_cons rfl rfl fun x1365 y1366 h1367 e1368 f1369 => ?_
          obtain rfl := h1367
          refine deps_cons rfl rfl fun x1370 y1371 h1372 e1373 f1374 => ?_
          obtain rfl := h1372
          refine deps_nil ?_
          have L1375 : ln (x + y) ≤ 1048577 := Nat.le_trans (ln_add Lx Ly) (by decide)
          refine wl_call rfl rfl (vs := [.agg #[.bool sa, .slice Aa na ca], .agg #[.bool sb, .slice Ab nb cb]]) (by kernel_rfl) (by decide) (g_zint_Add hw13.size (hx.ext hw13) (Nat.le_trans la (by decide)) (hy.ext hw13) (Nat.le_trans lb (by decide))) ?_
          rintro _ v1376 ⟨xr1378, rfl, r1378, e1377⟩
          refine ret_intro ?_
          have hw14 : Ext w v1376 := hw13.trans e1377
          obtain ⟨s1379, A1379, n1379, c1379, rfl, z1379⟩ := r1378
          exact pi_done rfl e1377 ⟨_, _, _, _, rfl, z1379⟩
        · -- 3
          intro v1380 e1381
          have hw13 : Ext w v1380 := hw12.trans e1381
          refine deps_cons rfl rfl fun x1382 y1383 h1384 e1385 f1386 => ?_
          obtain ⟨s1387, A1387, n1387, c1387, rfl, z1387⟩ := h1384
          have z1387 := z1387.ext f1386
          refine deps_nil ?_
          have L1388 : ln ((Int.natAbs (x + y) : Int)) ≤ 1048577 := (by rw [ln_abs]; exact L1347)
          refine wl_call rfl rfl (vs := [.agg #[.bool s1387, .slice A1387 n1387 c1387]]) (by kernel_rfl) (by decide) (g_zint_Abs hw13.size z1387.zi (z1387.le (Nat.le_trans L1347 (by decide)))) ?_
          rintro _ v1389 ⟨xr1391, rfl, r1391, e1390⟩
          refine ret_intro ?_
          have hw14 : Ext w v1389 := hw13.trans e1390
          obtain ⟨s1392, A1392, n1392, c1392, rfl, z1392⟩ := r1391
          exact pi_done rfl e1390 ⟨_, _, _, _, rfl, z1392⟩
        · -- 4
          intro v1393 e1394
          have hw13 : Ext w v1393 := hw12.trans e1394
          refine deps_nil ?_
          refine wl_load rfl rfl (load_agg aggInt (hb4.ext (e8.trans (e14.trans (e19.trans (e22.trans (e25.trans (e29.trans (e33.trans (e36.trans (e296.trans (e417.trans (e1258.trans e1394)))))))))))) [.bool sa, .slice Aa na ca] rfl (Nat.le_of_ble_eq_true rfl) rfl) (by decide) ?_
          exact pi_done rfl (Ext.refl _) rfl
        · -- 5
          intro v1395 e1396
          have hw13 : Ext w v1395 := hw12.trans e1396
          refine deps_cons rfl rfl fun x1397 y1398 h1399 e1400 f1401 => ?_
          obtain rfl := h1399
          refine deps_nil ?_
          have L1402 : ln ((Int.natAbs x : Int)) ≤ 1048576 := (by rw [ln_abs]; exact Lx)
          refine wl_call rfl rfl (vs := [.agg #[.bool sa, .slice Aa na ca]]) (by kernel_rfl) (by decide) (g_zint_Abs hw13.size (hx.ext hw13) (Nat.le_trans la (by decide))) ?_
          rintro _ v1403 ⟨xr1405, rfl, r1405, e1404⟩
          refine ret_intro ?_
          have hw14 : Ext w v1403 := hw13.trans e1404
          obtain ⟨s1406, A1406, n1406, c1406, rfl, z1406⟩ := r1405
          exact pi_done rfl e1404 ⟨_, _, _, _, rfl, z1406⟩
        · -- 6
          intro v1407 e1408
          have hw13 : Ext w v1407 := hw12.trans e1408
          refine deps_nil ?_
          refine wl_load rfl rfl (load_agg aggInt (hb9.ext (e14.trans (e19.trans (e22.trans (e25.trans (e29.trans (e33.trans (e36.trans (e296.trans (e417.trans (e1258.trans e1408))))))))))) [.bool sb, .slice Ab nb cb] rfl (Nat.le_of_ble_eq_true rfl) rfl) (by decide) ?_
          exact pi_done rfl (Ext.refl _) rfl
        · -- 7
          intro v1409 e1410
          have hw13 : Ext w v1409 := hw12.trans e1410
          refine deps_cons rfl rfl fun x1411 y1412 h1413 e1414 f1415 => ?_
          obtain rfl := h1413
          refine deps_nil ?_
          have L1416 : ln ((Int.natAbs y : Int)) ≤ 1048576 := (by rw [ln_abs]; exact Ly)
          refine wl_call rfl rfl (vs := [.agg #[.bool sb, .slice Ab nb cb]]) (by kernel_rfl) (by decide) (g_zint_Abs hw13.size (hy.ext hw13) (Nat.le_trans lb (by decide))) ?_
          rintro _ v1417 ⟨xr1419, rfl, r1419, e1418⟩
          refine ret_intro ?_
          have hw14 : Ext w v1417 := hw13.trans e1418
          obtain ⟨s1420, A1420, n1420, c1420, rfl, z1420⟩ := r1419
          exact pi_done rfl e1418 ⟨_, _, _, _, rfl, z1420⟩
        · -- 8
          intro v1421 e1422
          have hw13 : Ext w v1421 := hw12.trans e1422
          refine deps_cons rfl rfl fun x1423 y1424 h1425 e1426 f1427 => ?_
          obtain ⟨s1428, A1428, n1428, c1428, rfl, z1428⟩ := h1425
          have z1428 := z1428.ext f1427
          refine deps_cons rfl rfl fun x1429 y1430 h1431 e1432 f1433 => ?_
          obtain ⟨s1434, A1434, n1434, c1434, rfl, z1434⟩ := h1431
          have z1434 := z1434.ext f1433
          refine deps_nil ?_
          have L1435 : ln ((Int.natAbs x : Int) + (Int.natAbs y : Int)) ≤ 1048577 := Nat.le_trans (ln_add L1351 L1353) (by decide)
          refine wl_call rfl rfl (vs := [.agg #[.bool s1428, .slice A1428 n1428 c1428], .agg #[.bool s1434, .slice A1434 n1434 c1434]]) (by kernel_rfl) (by decide) (g_zint_Add hw13.size z1428.zi (z1428.le (Nat.le_trans L1351 (by decide))) z1434.zi (z1434.le (Nat.le_trans L1353 (by decide)))) ?_
          rintro _ v1436 ⟨xr1438, rfl, r1438, e1437⟩
          refine ret_intro ?_
          have hw14 : Ext w v1436 := hw13.trans e1437
          obtain ⟨s1439, A1439, n1439, c1439, rfl, z1439⟩ := r1438
          exact pi_done rfl e1437 ⟨_, _, _, _, rfl, z1439⟩
        · -- 9
          intro v1440 e1441
          have hw13 : Ext w v1440 := hw12.trans e1441
          refine deps_cons rfl rfl fun x1442 y1443 h1444 e1445 f1446 => ?_
          obtain ⟨s1447, A1447, n1447, c1447, rfl, z1447⟩ := h1444
          have z1447 := z1447.ext f1446
          refine deps_cons rfl rfl fun x1448 y1449 h1450 e1451 f1452 => ?_
          obtain ⟨s1453, A1453, n1453, c1453, rfl, z1453⟩ := h1450
          have z1453 := z1453.ext f1452
          refine deps_nil ?_
          refine wl_call rfl rfl (vs := [.agg #[.bool s1447, .slice A1447 n1447 c1447], .agg #[.bool s1453, .slice A1453 n1453 c1453]]) (by kernel_rfl) (by decide) (g_zint_Cmp z1447.zi (z1447.le (Nat.le_trans L1349 (by decide))) z1453.zi (z1453.le (Nat.le_trans L1355 (by decide)))) ?_
          rintro _ v1454 ⟨xr1456, rfl, r1456, e1455⟩
          refine ret_intro ?_
          have hw14 : Ext w v1454 := hw13.trans e1455
          obtain rfl := r1456
          exact pi_done rfl e1455 rfl
        · -- 10
          intro v1457 e1458
          have hw13 : Ext w v1457 := hw12.trans e1458
          refine deps_cons rfl rfl fun x1459 y1460 h1461 e1462 f1463 => ?_
          obtain rfl := h1461
          refine deps_nil ?_
          refine wl_cmp rfl rfl rfl true (scmp_le_t (by omega)) (by decide) ?_
          exact pi_done rfl (Ext.refl _) rfl
        · -- 11
          intro v1464 e1465
          have hw13 : Ext w v1464 := hw12.trans e1465
          refine deps_cons rfl rfl fun x1466 y1467 h1468 e1469 f1470 => ?_
          obtain rfl := h1468
          refine deps_nil ?_
          refine wl_move rfl rfl (by decide) ?_
          exact pi_done rfl (Ext.refl _) rfl
        · -- 12
          intro v1471 e1472
          have hw13 : Ext w v1471 := hw12.trans e1472
          refine deps_cons rfl rfl fun x1473 y1474 h1475 e1476 f1477 => ?_
          obtain rfl := h1475
          refine deps_nil ?_
          refine wl_load rfl rfl (load_agg aggInt (hb4.ext (e8.trans (e14.trans (e19.trans (e22.trans (e25.trans (e29.trans (e33.trans (e36.trans (e296.trans (e417.trans (e1258.trans e1472)))))))))))) [.bool sa, .slice Aa na ca] rfl (Nat.le_of_ble_eq_true rfl) rfl) (by decide) ?_
          exact pi_done rfl (Ext.refl _) rfl
        · -- 13
          intro v1478 e1479
          have hw13 : Ext w v1478 := hw12.trans e1479
          refine deps_cons rfl rfl fun x1480 y1481 h1482 e1483 f1484 => ?_
          obtain rfl := h1482
          refine deps_nil ?_
          refine wl_load rfl rfl (load_agg aggInt (hb9.ext (e14.trans (e19.trans (e22.trans (e25.trans (e29.trans (e33.trans (e36.trans (e296.trans (e417.trans (e1258.trans e1479))))))))))) [.bool sb, .slice Ab nb cb] rfl (Nat.le_of_ble_eq_true rfl) rfl) (by decide) ?_
          exact pi_done rfl (Ext.refl _) rfl
        · -- 14
          intro v1485 e1486
          have hw13 : Ext w v1485 := hw12.trans e1486
          refine deps_cons rfl rfl fun x1487 y1488 h1489 e1490 f1491 => ?_
          obtain rfl := h1489
          refine deps_cons rfl rfl fun x1492 y1493 h1494 e1495 f1496 => ?_
          obtain rfl := h1494
          refine deps_cons rfl rfl fun x1497 y1498 h1499 e1500 f1501 => ?_
          obtain rfl := h1499
          refine deps_nil ?_
          have L1502 : ln (x * y) ≤ 2097152 := Nat.le_trans (ln_mul Lx Ly) (by decide)
          refine wl_call rfl rfl (vs := [.agg #[.bool sa, .slice Aa na ca], .agg #[.bool sb, .slice Ab nb cb]]) (by kernel_rfl) (by decide) (g_zint_Mul hw13.size (hx.ext hw13) (Nat.le_trans la (by decide)) (hy.ext hw13) (Nat.le_trans lb (by decide))) ?_
          rintro _ v1503 ⟨xr1505, rfl, r1505, e1504⟩
          refine ret_intro ?_
          have hw14 : Ext w v1503 := hw13.trans e1504
          obtain ⟨s1506, A1506, n1506, c1506, rfl, z1506⟩ := r1505
          exact pi_done rfl e1504 ⟨_, _, _, _, rfl, z1506⟩
        · -- 15
          intro v1507 e1508
          have hw13 : Ext w v1507 := hw12.trans e1508
          refine deps_cons rfl rfl fun x1509 y1510 h1511 e1512 f1513 => ?_
          obtain rfl := h1511
          refine deps_cons rfl rfl fun x1514 y1515 h1516 e1517 f1518 => ?_
          obtain ⟨s1519, A1519, n1519, c1519, rfl, z1519⟩ := h1516
          have z1519 := z1519.ext f1518
          refine deps_nil ?_
          refine wl_call rfl rfl (vs := [.agg #[.bool s1519, .slice A1519 n1519 c1519]]) (by kernel_rfl) (by decide) (g_zint_Sign z1519.zi (z1519.le (Nat.le_trans L1357 (by decide)))) ?_
          rintro _ v1520 ⟨xr1522, rfl, r1522, e1521⟩
          refine ret_intro ?_
          have hw14 : Ext w v1520 := hw13.trans e1521
          obtain rfl := r1522
          exact pi_done rfl e1521 rfl
        · -- 16
          intro v1523 e1524
          have hw13 : Ext w v1523 := hw12.trans e1524
          refine deps_cons rfl rfl fun x1525 y1526 h1527 e1528 f1529 => ?_
          obtain rfl := h1527
          refine deps_nil ?_
          refine wl_load rfl rfl (load_agg aggInt (hb4.ext (e8.trans (e14.trans (e19.trans (e22.trans (e25.trans (e29.trans (e33.trans (e36.trans (e296.trans (e417.trans (e1258.trans e1524)))))))))))) [.bool sa, .slice Aa na ca] rfl (Nat.le_of_ble_eq_true rfl) rfl) (by decide) ?_
          exact pi_done rfl (Ext.refl _) rfl
        · -- 17
          intro v1530 e1531
          have hw13 : Ext w v1530 := hw12.trans e1531
          refine deps_cons rfl rfl fun x1532 y1533 h1534 e1535 f1536 => ?_
          obtain rfl := h1534
          refine deps_cons rfl rfl fun x1537 y1538 h1539 e1540 f1541 => ?_
          obtain rfl := h1539
          refine deps_nil ?_
          refine wl_call rfl rfl (vs := [.agg #[.bool sa, .slice Aa na ca]]) (by kernel_rfl) (by decide) (g_zint_Sign (hx.ext hw13) (Nat.le_trans la (by decide))) ?_
          rintro _ v1542 ⟨xr1544, rfl, r1544, e1543⟩
          refine ret_intro ?_
          have hw14 : Ext w v1542 := hw13.trans e1543
          obtain rfl := r1544
          exact pi_done rfl e1543 rfl
        · -- 18
          intro v1545 e1546
          have hw13 : Ext w v1545 := hw12.trans e1546
          refine deps_cons rfl rfl fun x1547 y1548 h1549 e1550 f1551 => ?_
          obtain rfl := h1549
          refine deps_nil ?_
          refine wl_load rfl rfl (load_agg aggInt (hb9.ext (e14.trans (e19.trans (e22.trans (e25.trans (e29.trans (e33.trans (e36.trans (e296.trans (e417.trans (e1258.trans e1546))))))))))) [.bool sb, .slice Ab nb cb] rfl (Nat.le_of_ble_eq_true rfl) rfl) (by decide) ?_
          exact pi_done rfl (Ext.refl _) rfl
        · -- 19
          intro v1552 e1553
          have hw13 : Ext w v1552 := hw12.trans e1553
          refine deps_cons rfl rfl fun x1554 y1555 h1556 e1557 f1558 => ?_
          obtain rfl := h1556
          refine deps_cons rfl rfl fun x1559 y1560 h1561 e1562 f1563 => ?_
          obtain rfl := h1561
          refine deps_nil ?_
          refine wl_call rfl rfl (vs := [.agg #[.bool sb, .slice Ab nb cb]]) (by kernel_rfl) (by decide) (g_zint_Sign (hy.ext hw13) (Nat.le_trans lb (by decide))) ?_
          rintro _ v1564 ⟨xr1566, rfl, r1566, e1565⟩
          refine ret_intro ?_
          have hw14 : Ext w v1564 := hw13.trans e1565
          obtain rfl := r1566
          exact pi_done rfl e1565 rfl
        · -- 20
          intro v1567 e1568
          have hw13 : Ext w v1567 := hw12.trans e1568
          refine deps_cons rfl rfl fun x1569 y1570 h1571 e1572 f1573 => ?_
          obtain rfl := h1571
          refine deps_cons rfl rfl fun x1574 y1575 h1576 e1577 f1578 => ?_
          obtain rfl := h1576
          refine deps_cons rfl rfl fun x1579 y1580 h1581 e1582 f1583 => ?_
          obtain rfl := h1581
          refine deps_nil ?_
          refine wl_ar rfl rfl rfl (scmp x 0 * scmp y 0) (ar_i64m rfl (by have := scmp_mul_bd x 0 y 0; omega) (by have := scmp_mul_bd x 0 y 0; omega)) (by decide) ?_
          exact pi_done rfl (Ext.refl _) rfl
        · -- 21
          intro v1584 e1585
          have hw13 : Ext w v1584 := hw12.trans e1585
          refine deps_cons rfl rfl fun x1586 y1587 h1588 e1589 f1590 => ?_
          obtain rfl := h1588
          refine deps_cons rfl rfl fun x1591 y1592 h1593 e1594 f1595 => ?_
          obtain rfl := h1593
          refine deps_cons rfl rfl fun x1596 y1597 h1598 e1599 f1600 => ?_
          obtain rfl := h1598
          refine deps_nil ?_
          refine wl_cmp rfl rfl rfl true (eq_t (scmp_mul0 x y)) (by decide) ?_
          exact pi_done rfl (Ext.refl _) rfl
        · -- 22
          intro v1601 e1602
          have hw13 : Ext w v1601 := hw12.trans e1602
          refine deps_cons rfl rfl fun x1603 y1604 h1605 e1606 f1607 => ?_
          obtain rfl := h1605
          refine deps_cons rfl rfl fun x1608 y1609 h1610 e1611 f1612 => ?_
          obtain rfl := h1610
          refine deps_nil ?_
          refine wl_pure rfl rfl (v := .bool true) (by decide) (by kernel_rfl) ?_
          exact pi_done rfl (Ext.refl _) rfl
        · -- all
          intro v1613 e1614
          have hw13 : Ext w v1613 := hw12.trans e1614
          refine deps_cons rfl rfl fun x1615 y1616 h1617 e1618 f1619 => ?_
          obtain rfl := h1617
          refine deps_cons rfl rfl fun x1620 y1621 h1622 e1623 f1624 => ?_
          obtain rfl := h1622
          refine deps_cons rfl rfl fun x1625 y1626 h1627 e1628 f1629 => ?_
          obtain ⟨s1630, A1630, n1630, c1630, rfl, z1630⟩ := h1627
          have z1630 := z1630.ext f1629
          refine deps_cons rfl rfl fun x1631 y1632 h1633 e1634 f1635 => ?_
          obtain ⟨s1636, A1636, n1636, c1636, rfl, z1636⟩ := h1633
          have z1636 := z1636.ext f1635
          refine deps_cons rfl rfl fun x1637 y1638 h1639 e1640 f1641 => ?_
          obtain rfl := h1639
          refine deps_cons rfl rfl fun x1642 y1643 h1644 e1645 f1646 => ?_
          obtain ⟨s1647, A1647, n1647, c1647, rfl, z1647⟩ := h1644
          have z1647 := z1647.ext f1646
          refine deps_cons rfl rfl fun x1648 y1649 h1650 e1651 f1652 => ?_
          obtain rfl := h1650
          refine deps_cons rfl rfl fun x1653 y1654 h1655 e1656 f1657 => ?_
          obtain ⟨s1658, A1658, n1658, c1658, rfl, z1658⟩ := h1655
          have z1658 := z1658.ext f1657
          refine deps_cons rfl rfl fun x1659 y1660 h1661 e1662 f1663 => ?_
          obtain ⟨s1664, A1664, n1664, c1664, rfl, z1664⟩ := h1661
          have z1664 := z1664.ext f1663
          refine deps_cons rfl rfl fun x1665 y1666 h1667 e1668 f1669 => ?_
          obtain rfl := h1667
          refine deps_cons rfl rfl fun x1670 y1671 h1672 e1673 f1674 => ?_
          obtain rfl := h1672
          refine deps_cons rfl rfl fun x1675 y1676 h1677 e1678 f1679 => ?_
          obtain rfl := h1677
          refine deps_cons rfl rfl fun x1680 y1681 h1682 e1683 f1684 => ?_
          obtain rfl := h1682
          refine deps_cons rfl rfl fun x1685 y1686 h1687 e1688 f1689 => ?_
          obtain rfl := h1687
          refine deps_cons rfl rfl fun x1690 y1691 h1692 e1693 f1694 => ?_
          obtain ⟨s1695, A1695, n1695, c1695, rfl, z1695⟩ := h1692
          have z1695 := z1695.ext f1694
          refine deps_cons rfl rfl fun x1696 y1697 h1698 e1699 f1700 => ?_
          obtain rfl := h1698
          refine deps_cons rfl rfl fun x1701 y1702 h1703 e1704 f1705 => ?_
          obtain rfl := h1703
          refine deps_cons rfl rfl fun x1706 y1707 h1708 e1709 f1710 => ?_
          obtain rfl := h1708
          refine deps_cons rfl rfl fun x1711 y1712 h1713 e1714 f1715 => ?_
          obtain rfl := h1713
          refine deps_cons rfl rfl fun x1716 y1717 h1718 e1719 f1720 => ?_
          obtain rfl := h1718
          refine deps_cons rfl rfl fun x1721 y1722 h1723 e1724 f1725 => ?_
          obtain rfl := h1723
          refine deps_cons rfl rfl fun x1726 y1727 h1728 e1729 f1730 => ?_
          obtain rfl := h1728
          refine deps_cons rfl rfl fun x1731 y1732 h1733 e1734 f1735 => ?_
          obtain rfl := h1733
          refine deps_nil ?_
          refine wl_assign rfl rfl (by decide) ?_
          refine wl_nil ?_
          refine eo_np ?_
          refine eo_then ?_
          refine cw_ret ?_
          refine eo_ret [.bool true] rfl ⟨rfl, trivial⟩ ?_
          exact bool_of _ _ ⟨_, rfl, rfl, hw13⟩
end Go.Proofs.YtmaconeeonkdgaaDoor
