/- Parts Law5r, joined. -/
import Derived.Test.YtmaconeeonkdgaaDoorR2

namespace Go.Proofs.YtmaconeeonkdgaaDoor
open Go.RowKit
set_option maxHeartbeats 8000000 in
set_option maxRecDepth 20000 in
theorem law_ZintRing {w : World} {sa : Bool} {Aa : Option Addr} {na ca : Nat} {x : Int} {sb : Bool} {Ab : Option Addr} {nb cb : Nat} {y : Int} {sf : Bool} {Af : Option Addr} {nf cf : Nat} {z : Int} (hx : Zi w sa Aa na ca x) (la : na ≤ 1048576) (hy : Zi w sb Ab nb cb y) (lb : nb ≤ 1048576) (hz : Zi w sf Af nf cf z) (lf : nf ≤ 1048576) (hS : Signs w) :
    Calls Tryd.prog 3 #[.agg #[.bool sa, .slice Aa na ca], .agg #[.bool sb, .slice Ab nb cb], .agg #[.bool sf, .slice Af nf cf]] w (BoolP true w) := by
  have Lx : ln x ≤ 1048576 := Nat.le_trans hx.ln la
  have Ly : ln y ≤ 1048576 := Nat.le_trans hy.ln lb
  have Lz : ln z ≤ 1048576 := Nat.le_trans hz.ln lf
  refine sx_enter Tryd.func3 rfl (n := 144) rfl (Nat.le_of_ble_eq_true rfl) (args := [.agg #[.bool sa, .slice Aa na ca], .agg #[.bool sb, .slice Ab nb cb], .agg #[.bool sf, .slice Af nf cf]]) ?_
  refine cw_keep [(0, .agg #[.bool sa, .slice Aa na ca]), (1, .agg #[.bool sb, .slice Ab nb cb]), (2, .agg #[.bool sf, .slice Af nf cf])] ⟨rfl, rfl, rfl, trivial⟩ ?_
  refine cw_seq ?_
  refine cw_region ?_
  refine wl_box rfl rfl (vs := [.bool sa, .slice Aa na ca]) rfl (by decide) fun g1 v2 nb => ?_
  have hb4 := nb.bk
  have ge5 : w.heap.size ≤ g1 := by rw [← nb.at_]; exact (Ext.refl w).size
  have e3 := nb.ext
  clear nb
  have hw1 : Ext w v2 := (Ext.refl w).trans e3
  refine wl_box rfl rfl (vs := [.bool sb, .slice Ab nb cb]) rfl (by decide) fun g6 v7 nb => ?_
  have hb9 := nb.bk
  have ge10 : w.heap.size ≤ g6 := by rw [← nb.at_]; exact hw1.size
  have q11 : g1 < g6 := by rw [← nb.at_]; exact hb4.lt
  have e8 := nb.ext
  clear nb
  have hw2 : Ext w v7 := hw1.trans e8
  refine wl_box rfl rfl (vs := [.bool sf, .slice Af nf cf]) rfl (by decide) fun g12 v13 nb => ?_
  have hb15 := nb.bk
  have ge16 : w.heap.size ≤ g12 := by rw [← nb.at_]; exact hw2.size
  have q17 : g6 < g12 := by rw [← nb.at_]; exact hb9.lt
  have e14 := nb.ext
  clear nb
  have hw3 : Ext w v13 := hw2.trans e14
  refine wl_assign rfl rfl (by decide) ?_
  refine wl_nil ?_
  refine eo_then ?_
  refine cw_seq ?_
  refine cw_seq ?_
  refine cw_region ?_
  refine wl_call rfl rfl (vs := []) (by kernel_rfl) (by decide) (g_law5_awake (hS.ext hw3)) ?_
  rintro _ v18 ⟨xr20, rfl, r20, e19⟩
  refine ret_intro ?_
  have hw4 : Ext w v18 := hw3.trans e19
  obtain rfl := r20
  refine wl_pure rfl rfl (v := .bool false) (by decide) (by kernel_rfl) ?_
  refine wl_nil ?_
  refine eo_then ?_
  refine cw_false rfl ?_
  refine cw_skip ?_
  refine eo_then ?_
  refine cw_seq ?_
  refine cw_region ?_
  refine wl_load rfl rfl (load_agg aggInt (hb4.ext (e8.trans (e14.trans e19))) [.bool sa, .slice Aa na ca] rfl (Nat.le_of_ble_eq_true rfl) rfl) (by decide) ?_
  refine wl_load rfl rfl (load_agg aggInt (hb9.ext (e14.trans e19)) [.bool sb, .slice Ab nb cb] rfl (Nat.le_of_ble_eq_true rfl) rfl) (by decide) ?_
  have L21 : ln (x * y) ≤ 2097152 := Nat.le_trans (ln_mul Lx Ly) (by decide)
  refine wl_call rfl rfl (vs := [.agg #[.bool sa, .slice Aa na ca], .agg #[.bool sb, .slice Ab nb cb]]) (by kernel_rfl) (by decide) (g_zint_Mul hw4.size (hx.ext hw4) (Nat.le_trans la (by decide)) (hy.ext hw4) (Nat.le_trans lb (by decide))) ?_
  rintro _ v22 ⟨xr24, rfl, r24, e23⟩
  refine ret_intro ?_
  have hw5 : Ext w v22 := hw4.trans e23
  obtain ⟨s25, A25, n25, c25, rfl, z25⟩ := r24
  refine wl_alloc rfl (z := .agg #[.bool false, .slice none 0 0]) (vs := [.bool false, .slice none 0 0]) (fun _ => by kernel_rfl) rfl (by decide) fun g26 v27 nb => ?_
  have hb29 := nb.bk
  have ge30 : w.heap.size ≤ g26 := by rw [← nb.at_]; exact hw5.size
  have q31 : g12 < g26 := by rw [← nb.at_]; exact (hb15.ext (e19.trans e23)).lt
  have e28 := nb.ext
  clear nb
  have hw6 : Ext w v27 := hw5.trans e28
  have hb33 := hb29
  refine wl_stored rfl rfl rfl aggInt rfl hb33 (Nat.le_of_ble_eq_true rfl) rfl [.bool s25, .slice A25 n25 c25] rfl fun v32 hb34 u35 hs36 => ?_
  have hw7 : Ext w v32 := u35.ext hw6 ge30
  refine wl_nil ?_
  refine eo_then ?_
  refine cw_seq ?_
  refine cw_region ?_
  refine wl_load rfl rfl (load_agg aggInt ((hb4.ext (e8.trans (e14.trans (e19.trans (e23.trans e28))))).updN u35 (by omega)) [.bool sa, .slice Aa na ca] rfl (Nat.le_of_ble_eq_true rfl) rfl) (by decide) ?_
  refine wl_load rfl rfl (load_agg aggInt ((hb15.ext (e19.trans (e23.trans e28))).updN u35 (by omega)) [.bool sf, .slice Af nf cf] rfl (Nat.le_of_ble_eq_true rfl) rfl) (by decide) ?_
  have L37 : ln (x * z) ≤ 2097152 := Nat.le_trans (ln_mul Lx Lz) (by decide)
  refine wl_call rfl rfl (vs := [.agg #[.bool sa, .slice Aa na ca], .agg #[.bool sf, .slice Af nf cf]]) (by kernel_rfl) (by decide) (g_zint_Mul hw7.size (hx.ext hw7) (Nat.le_trans la (by decide)) (hz.ext hw7) (Nat.le_trans lf (by decide))) ?_
  rintro _ v38 ⟨xr40, rfl, r40, e39⟩
  refine ret_intro ?_
  have hw8 : Ext w v38 := hw7.trans e39
  obtain ⟨s41, A41, n41, c41, rfl, z41⟩ := r40
  refine wl_alloc rfl (z := .agg #[.bool false, .slice none 0 0]) (vs := [.bool false, .slice none 0 0]) (fun _ => by kernel_rfl) rfl (by decide) fun g42 v43 nb => ?_
  have hb45 := nb.bk
  have ge46 : w.heap.size ≤ g42 := by rw [← nb.at_]; exact hw8.size
  have q47 : g26 < g42 := by rw [← nb.at_]; exact (hb34.ext e39).lt
  have e44 := nb.ext
  clear nb
  have hw9 : Ext w v43 := hw8.trans e44
  have hb49 := hb45
  refine wl_stored rfl rfl rfl aggInt rfl hb49 (Nat.le_of_ble_eq_true rfl) rfl [.bool s41, .slice A41 n41 c41] rfl fun v48 hb50 u51 hs52 => ?_
  have hw10 : Ext w v48 := u51.ext hw9 ge46
  refine wl_nil ?_
  refine eo_then ?_
  refine cw_seq ?_
  refine cw_region ?_
  refine wl_load rfl rfl (load_agg aggInt ((((hb9.ext (e14.trans (e19.trans (e23.trans e28)))).updN u35 (by omega)).ext (e39.trans e44)).updN u51 (by omega)) [.bool sb, .slice Ab nb cb] rfl (Nat.le_of_ble_eq_true rfl) rfl) (by decide) ?_
  refine wl_load rfl rfl (load_agg aggInt ((((hb15.ext (e19.trans (e23.trans e28))).updN u35 (by omega)).ext (e39.trans e44)).updN u51 (by omega)) [.bool sf, .slice Af nf cf] rfl (Nat.le_of_ble_eq_true rfl) rfl) (by decide) ?_
  have L53 : ln (y + z) ≤ 1048577 := Nat.le_trans (ln_add Ly Lz) (by decide)
  refine wl_call rfl rfl (vs := [.agg #[.bool sb, .slice Ab nb cb], .agg #[.bool sf, .slice Af nf cf]]) (by kernel_rfl) (by decide) (g_zint_Add hw10.size (hy.ext hw10) (Nat.le_trans lb (by decide)) (hz.ext hw10) (Nat.le_trans lf (by decide))) ?_
  rintro _ v54 ⟨xr56, rfl, r56, e55⟩
  refine ret_intro ?_
  have hw11 : Ext w v54 := hw10.trans e55
  obtain ⟨s57, A57, n57, c57, rfl, z57⟩ := r56
  refine wl_alloc rfl (z := .agg #[.bool false, .slice none 0 0]) (vs := [.bool false, .slice none 0 0]) (fun _ => by kernel_rfl) rfl (by decide) fun g58 v59 nb => ?_
  have hb61 := nb.bk
  have ge62 : w.heap.size ≤ g58 := by rw [← nb.at_]; exact hw11.size
  have q63 : g42 < g58 := by rw [← nb.at_]; exact (hb50.ext e55).lt
  have e60 := nb.ext
  clear nb
  have hw12 : Ext w v59 := hw11.trans e60
  have hb65 := hb61
  refine wl_stored rfl rfl rfl aggInt rfl hb65 (Nat.le_of_ble_eq_true rfl) rfl [.bool s57, .slice A57 n57 c57] rfl fun v64 hb66 u67 hs68 => ?_
  have hw13 : Ext w v64 := u67.ext hw12 ge62
  refine wl_nil ?_
  refine eo_then ?_
  refine cw_seq ?_
  refine cw_seq ?_
  have L69 : ln (y * x) ≤ 2097152 := Nat.le_trans (ln_mul Ly Lx) (by decide)
  have L71 : ln ((x * y) * z) ≤ 3145728 := Nat.le_trans (ln_mul L21 Lz) (by decide)
  have L73 : ln (y * (x * z)) ≤ 3145728 := Nat.le_trans (ln_mul Ly L37) (by decide)
  have L75 : ln (x * (y + z)) ≤ 2097153 := Nat.le_trans (ln_mul Lx L53) (by decide)
  have L77 : ln ((x * y) + (x * z)) ≤ 2097153 := Nat.le_trans (ln_add L21 L37) (by decide)
  refine cw_draw mix 26 [] [Is (.agg #[.bool s25, .slice A25 n25 c25]), Is (.agg #[.bool sb, .slice Ab nb cb]), Is (.agg #[.bool sa, .slice Aa na ca]), ZR w.heap.size (y * x), Is (.bool true), Is (.bool false), Is (.bool false), Is (.agg #[.bool s25, .slice A25 n25 c25]), Is (.agg #[.bool sf, .slice Af nf cf]), ZR w.heap.size ((x * y) * z), Is (.agg #[.bool sb, .slice Ab nb cb]), Is (.agg #[.bool s41, .slice A41 n41 c41]), ZR w.heap.size (y * (x * z)), Is (.bool true), Is (.bool false), Is (.bool false), Is (.bool false), Is (.agg #[.bool sa, .slice Aa na ca]), Is (.agg #[.bool s57, .slice A57 n57 c57]), ZR w.heap.size (x * (y + z)), Is (.agg #[.bool s25, .slice A25 n25 c25]), Is (.agg #[.bool s41, .slice A41 n41 c41]), ZR w.heap.size ((x * y) + (x * z)), Is (.bool true), Is (.bool false), Is (.bool false)] [[], [], [], [1, 2], [0, 3], [4], [5], [6], [6], [6, 7, 8], [6], [6], [6, 10, 11], [6, 9, 12], [6, 13], [6, 14], [15], [16], [16], [16, 17, 18], [16], [16], [16, 20, 21], [16, 19, 22], [16, 23], [16, 24]] [[], [], [], [1, 2], [0, 1, 2, 3], [0, 1, 2, 3, 4], [0, 1, 2, 3, 4, 5], [0, 1, 2, 3, 4, 5, 6], [0, 1, 2, 3, 4, 5, 6], [0, 1, 2, 3, 4, 5, 6, 7, 8], [0, 1, 2, 3, 4, 5, 6], [0, 1, 2, 3, 4, 5, 6], [0, 1, 2, 3, 4, 5, 6, 7, 8, 9, 10, 11], [0, 1, 2, 3, 4, 5, 6, 7, 8, 9, 10, 11, 12], [0, 1, 2, 3, 4, 5, 6, 7, 8, 9, 10, 11, 12, 13], [0, 1, 2, 3, 4, 5, 6, 7, 8, 9, 10, 11, 12, 13, 14], [0, 1, 2, 3, 4, 5, 6, 7, 8, 9, 10, 11, 12, 13, 14, 15], [0, 1, 2, 3, 4, 5, 6, 7, 8, 9, 10, 11, 12, 13, 14, 15, 16], [0, 1, 2, 3, 4, 5, 6, 7, 8, 9, 10, 11, 12, 13, 14, 15, 16], [0, 1, 2, 3, 4, 5, 6, 7, 8, 9, 10, 11, 12, 13, 14, 15, 16, 17, 18], [0, 1, 2, 3, 4, 5, 6, 7, 8, 9, 10, 11, 12, 13, 14, 15, 16], [0, 1, 2, 3, 4, 5, 6, 7, 8, 9, 10, 11, 12, 13, 14, 15, 16], [0, 1, 2, 3, 4, 5, 6, 7, 8, 9, 10, 11, 12, 13, 14, 15, 16, 17, 18, 19, 20, 21], [0, 1, 2, 3, 4, 5, 6, 7, 8, 9, 10, 11, 12, 13, 14, 15, 16, 17, 18, 19, 20, 21, 22], [0, 1, 2, 3, 4, 5, 6, 7, 8, 9, 10, 11, 12, 13, 14, 15, 16, 17, 18, 19, 20, 21, 22, 23], [0, 1, 2, 3, 4, 5, 6, 7, 8, 9, 10, 11, 12, 13, 14, 15, 16, 17, 18, 19, 20, 21, 22, 23, 24]] rfl
    (obs_cons rfl rfl (hob rfl rfl ?_) (obs_cons rfl rfl (hob rfl rfl ?_) (obs_cons rfl rfl (hob rfl rfl ?_) (obs_cons rfl rfl (hob rfl rfl ?_) (obs_cons rfl rfl (hob rfl rfl ?_) (obs_cons rfl rfl (hob rfl rfl ?_) (obs_cons rfl rfl (hob rfl rfl ?_) (obs_cons rfl rfl (hob rfl rfl ?_) (obs_cons rfl rfl (hob rfl rfl ?_) (obs_cons rfl rfl (hob rfl rfl ?_) (obs_cons rfl rfl (hob rfl rfl ?_) (obs_cons rfl rfl (hob rfl rfl ?_) (obs_cons rfl rfl (hob rfl rfl ?_) (obs_cons rfl rfl (hob rfl rfl ?_) (obs_cons rfl rfl (hob rfl rfl ?_) (obs_cons rfl rfl (hob rfl rfl ?_) (obs_cons rfl rfl (hob rfl rfl ?_) (obs_cons rfl rfl (hob rfl rfl ?_) (obs_cons rfl rfl (hob rfl rfl ?_) (obs_cons rfl rfl (hob rfl rfl ?_) (obs_cons rfl rfl (hob rfl rfl ?_) (obs_cons rfl rfl (hob rfl rfl ?_) (obs_cons rfl rfl (hob rfl rfl ?_) (obs_cons rfl rfl (hob rfl rfl ?_) (obs_cons rfl rfl (hob rfl rfl ?_) (obs_cons rfl rfl (hob rfl rfl ?_) obs_nil)))))))))))))))))))))))))) ?_
  · -- 0
    intro v79 e80
    have hw14 : Ext w v79 := hw13.trans e80
    refine deps_nil ?_
    refine wl_load rfl rfl (load_agg aggInt (((((hb34.ext (e39.trans e44)).updN u51 (by omega)).ext (e55.trans e60)).updN u67 (by omega)).ext e80) [.bool s25, .slice A25 n25 c25] rfl (Nat.le_of_ble_eq_true rfl) rfl) (by decide) ?_
    exact pi_done rfl (Ext.refl _) rfl
  · -- 1
    intro v81 e82
    have hw14 : Ext w v81 := hw13.trans e82
    refine deps_nil ?_
    refine wl_load rfl rfl (load_agg aggInt (((((((hb9.ext (e14.trans (e19.trans (e23.trans e28)))).updN u35 (by omega)).ext (e39.trans e44)).updN u51 (by omega)).ext (e55.trans e60)).updN u67 (by omega)).ext e82) [.bool sb, .slice Ab nb cb] rfl (Nat.le_of_ble_eq_true rfl) rfl) (by decide) ?_
    exact pi_done rfl (Ext.refl _) rfl
  · -- 2
    intro v83 e84
    have hw14 : Ext w v83 := hw13.trans e84
    refine deps_nil ?_
    refine wl_load rfl rfl (load_agg aggInt (((((((hb4.ext (e8.trans (e14.trans (e19.trans (e23.trans e28))))).updN u35 (by omega)).ext (e39.trans e44)).updN u51 (by omega)).ext (e55.trans e60)).updN u67 (by omega)).ext e84) [.bool sa, .slice Aa na ca] rfl (Nat.le_of_ble_eq_true rfl) rfl) (by decide) ?_
    exact pi_done rfl (Ext.refl _) rfl
  · -- 3
    intro v85 e86
    have hw14 : Ext w v85 := hw13.trans e86
    refine deps_cons rfl rfl fun x87 y88 h89 e90 f91 => ?_
    obtain rfl := h89
    refine deps_cons rfl rfl fun x92 y93 h94 e95 f96 => ?_
    obtain rfl := h94
    refine deps_nil ?_
    have L97 : ln (y * x) ≤ 2097152 := Nat.le_trans (ln_mul Ly Lx) (by decide)
    refine wl_call rfl rfl (vs := [.agg #[.bool sb, .slice Ab nb cb], .agg #[.bool sa, .slice Aa na ca]]) (by kernel_rfl) (by decide) (g_zint_Mul hw14.size (hy.ext hw14) (Nat.le_trans lb (by decide)) (hx.ext hw14) (Nat.le_trans la (by decide))) ?_
    rintro _ v98 ⟨xr100, rfl, r100, e99⟩
    refine ret_intro ?_
    have hw15 : Ext w v98 := hw14.trans e99
    obtain ⟨s101, A101, n101, c101, rfl, z101⟩ := r100
    exact pi_done rfl e99 ⟨_, _, _, _, rfl, z101⟩
  · -- 4
    intro v102 e103
    have hw14 : Ext w v102 := hw13.trans e103
    refine deps_cons rfl rfl fun x104 y105 h106 e107 f108 => ?_
    obtain rfl := h106
    refine deps_cons rfl rfl fun x109 y110 h111 e112 f113 => ?_
    obtain ⟨s114, A114, n114, c114, rfl, z114⟩ := h111
    have z114 := z114.ext f113
    refine deps_nil ?_
    refine wl_call rfl rfl (vs := [.agg #[.bool s25, .slice A25 n25 c25], .agg #[.bool s114, .slice A114 n114 c114]]) (by kernel_rfl) (by decide) (g_law5_alike (((((((z25.ext e28).updT hb33 u35).ext (e39.trans e44)).updT hb49 u51).ext (e55.trans e60)).updT hb65 u67).ext e103) (z25.le (Nat.le_trans L21 (by decide))) (z114.cast (by grind)) (z114.le (Nat.le_trans L69 (by decide)))) ?_
    rintro _ v115 ⟨xr117, rfl, r117, e116⟩
    refine ret_intro ?_
    have hw15 : Ext w v115 := hw14.trans e116
    obtain rfl := r117
    exact pi_done rfl e116 rfl
  · -- 5
    intro v118 e119
    have hw14 : Ext w v118 := hw13.trans e119
    refine deps_cons rfl rfl fun x120 y121 h122 e123 f124 => ?_
    obtain rfl := h122
    refine deps_nil ?_
    refine wl_pure rfl rfl (v := .bool false) (by decide) (by kernel_rfl) ?_
    exact pi_done rfl (Ext.refl _) rfl
  · -- 6
    intro v125 e126
    have hw14 : Ext w v125 := hw13.trans e126
    refine deps_cons rfl rfl fun x127 y128 h129 e130 f131 => ?_
    obtain rfl := h129
    refine deps_nil ?_
    refine wl_move rfl rfl (by decide) ?_
    exact pi_done rfl (Ext.refl _) rfl
  · -- 7
    intro v132 e133
    have hw14 : Ext w v132 := hw13.trans e133
    refine deps_cons rfl rfl fun x134 y135 h136 e137 f138 => ?_
    obtain rfl := h136
    refine deps_nil ?_
    refine wl_load rfl rfl (load_agg aggInt (((((hb34.ext (e39.trans e44)).updN u51 (by omega)).ext (e55.trans e60)).updN u67 (by omega)).ext e133) [.bool s25, .slice A25 n25 c25] rfl (Nat.le_of_ble_eq_true rfl) rfl) (by decide) ?_
    exact pi_done rfl (Ext.refl _) rfl
  · -- 8
    intro v139 e140
    have hw14 : Ext w v139 := hw13.trans e140
    refine deps_cons rfl rfl fun x141 y142 h143 e144 f145 => ?_
    obtain rfl := h143
    refine deps_nil ?_
    refine wl_load rfl rfl (load_agg aggInt (((((((hb15.ext (e19.trans (e23.trans e28))).updN u35 (by omega)).ext (e39.trans e44)).updN u51 (by omega)).ext (e55.trans e60)).updN u67 (by omega)).ext e140) [.bool sf, .slice Af nf cf] rfl (Nat.le_of_ble_eq_true rfl) rfl) (by decide) ?_
    exact pi_done rfl (Ext.refl _) rfl
  · -- 9
    intro v146 e147
    have hw14 : Ext w v146 := hw13.trans e147
    refine deps_cons rfl rfl fun x148 y149 h150 e151 f152 => ?_
    obtain rfl := h150
    refine deps_cons rfl rfl fun x153 y154 h155 e156 f157 => ?_
    obtain rfl := h155
    refine deps_cons rfl rfl fun x158 y159 h160 e161 f162 => ?_
    obtain rfl := h160
    refine deps_nil ?_
    have L163 : ln ((x * y) * z) ≤ 3145728 := Nat.le_trans (ln_mul L21 Lz) (by decide)
    refine wl_call rfl rfl (vs := [.agg #[.bool s25, .slice A25 n25 c25], .agg #[.bool sf, .slice Af nf cf]]) (by kernel_rfl) (by decide) (g_zint_Mul hw14.size (((((((z25.ext e28).updT hb33 u35).ext (e39.trans e44)).updT hb49 u51).ext (e55.trans e60)).updT hb65 u67).ext e147).zi (z25.le (Nat.le_trans L21 (by decide))) (hz.ext hw14) (Nat.le_trans lf (by decide))) ?_
    rintro _ v164 ⟨xr166, rfl, r166, e165⟩
    refine ret_intro ?_
    have hw15 : Ext w v164 := hw14.trans e165
    obtain ⟨s167, A167, n167, c167, rfl, z167⟩ := r166
    exact pi_done rfl e165 ⟨_, _, _, _, rfl, z167⟩
  · -- 10
    intro v168 e169
    have hw14 : Ext w v168 := hw13.trans e169
    refine deps_cons rfl rfl fun x170 y171 h172 e173 f174 => ?_
    obtain rfl := h172
    refine deps_nil ?_
    refine wl_load rfl rfl (load_agg aggInt (((((((hb9.ext (e14.trans (e19.trans (e23.trans e28)))).updN u35 (by omega)).ext (e39.trans e44)).updN u51 (by omega)).ext (e55.trans e60)).updN u67 (by omega)).ext e169) [.bool sb, .slice Ab nb cb] rfl (Nat.le_of_ble_eq_true rfl) rfl) (by decide) ?_
    exact pi_done rfl (Ext.refl _) rfl
  · -- 11
    intro v175 e176
    have hw14 : Ext w v175 := hw13.trans e176
    refine deps_cons rfl rfl fun x177 y178 h179 e180 f181 => ?_
    obtain rfl := h179
    refine deps_nil ?_
    refine wl_load rfl rfl (load_agg aggInt (((hb50.ext (e55.trans e60)).updN u67 (by omega)).ext e176) [.bool s41, .slice A41 n41 c41] rfl (Nat.le_of_ble_eq_true rfl) rfl) (by decide) ?_
    exact pi_done rfl (Ext.refl _) rfl
  · -- 12
    intro v182 e183
    have hw14 : Ext w v182 := hw13.trans e183
    refine deps_cons rfl rfl fun x184 y185 h186 e187 f188 => ?_
    obtain rfl := h186
    refine deps_cons rfl rfl fun x189 y190 h191 e192 f193 => ?_
    obtain rfl := h191
    refine deps_cons rfl rfl fun x194 y195 h196 e197 f198 => ?_
    obtain rfl := h196
    refine deps_nil ?_
    have L199 : ln (y * (x * z)) ≤ 3145728 := Nat.le_trans (ln_mul Ly L37) (by decide)
    refine wl_call rfl rfl (vs := [.agg #[.bool sb, .slice Ab nb cb], .agg #[.bool s41, .slice A41 n41 c41]]) (by kernel_rfl) (by decide) (g_zint_Mul hw14.size (hy.ext hw14) (Nat.le_trans lb (by decide)) (((((z41.ext e44).updT hb49 u51).ext (e55.trans e60)).updT hb65 u67).ext e183).zi (z41.le (Nat.le_trans L37 (by decide)))) ?_
    rintro _ v200 ⟨xr202, rfl, r202, e201⟩
    refine ret_intro ?_
    have hw15 : Ext w v200 := hw14.trans e201
    obtain ⟨s203, A203, n203, c203, rfl, z203⟩ := r202
    exact pi_done rfl e201 ⟨_, _, _, _, rfl, z203⟩
  · -- 13
    intro v204 e205
    have hw14 : Ext w v204 := hw13.trans e205
    refine deps_cons rfl rfl fun x206 y207 h208 e209 f210 => ?_
    obtain rfl := h208
    refine deps_cons rfl rfl fun x211 y212 h213 e214 f215 => ?_
    obtain ⟨s216, A216, n216, c216, rfl, z216⟩ := h213
    have z216 := z216.ext f215
    refine deps_cons rfl rfl fun x217 y218 h219 e220 f221 => ?_
    obtain ⟨s222, A222, n222, c222, rfl, z222⟩ := h219
    have z222 := z222.ext f221
    refine deps_nil ?_
    refine wl_call rfl rfl (vs := [.agg #[.bool s216, .slice A216 n216 c216], .agg #[.bool s222, .slice A222 n222 c222]]) (by kernel_rfl) (by decide) (g_law5_alike z216 (z216.le (Nat.le_trans L71 (by decide))) (z222.cast (by grind)) (z222.le (Nat.le_trans L73 (by decide)))) ?_
    rintro _ v223 ⟨xr225, rfl, r225, e224⟩
    refine ret_intro ?_
    have hw15 : Ext w v223 := hw14.trans e224
    obtain rfl := r225
    exact pi_done rfl e224 rfl
  · -- 14
    intro v226 e227
    have hw14 : Ext w v226 := hw13.trans e227
    refine deps_cons rfl rfl fun x228 y229 h230 e231 f232 => ?_
    obtain rfl := h230
    refine deps_cons rfl rfl fun x233 y234 h235 e236 f237 => ?_
    obtain rfl := h235
    refine deps_nil ?_
    refine wl_pure rfl rfl (v := .bool false) (by decide) (by kernel_rfl) ?_
    exact pi_done rfl (Ext.refl _) rfl
  · -- 15
    intro v238 e239
    have hw14 : Ext w v238 := hw13.trans e239
    refine deps_cons rfl rfl fun x240 y241 h242 e243 f244 => ?_
    obtain rfl := h242
    refine deps_cons rfl rfl fun x245 y246 h247 e248 f249 => ?_
    obtain rfl := h247
    refine deps_nil ?_
    refine wl_pure rfl rfl (v := .bool false) (by decide) (by kernel_rfl) ?_
    exact pi_done rfl (Ext.refl _) rfl
  · -- 16
    intro v250 e251
    have hw14 : Ext w v250 := hw13.trans e251
    refine deps_cons rfl rfl fun x252 y253 h254 e255 f256 => ?_
    obtain rfl := h254
    refine deps_nil ?_
    refine wl_move rfl rfl (by decide) ?_
    exact pi_done rfl (Ext.refl _) rfl
  · -- 17
    intro v257 e258
    have hw14 : Ext w v257 := hw13.trans e258
    refine deps_cons rfl rfl fun x259 y260 h261 e262 f263 => ?_
    obtain rfl := h261
    refine deps_nil ?_
    refine wl_load rfl rfl (load_agg aggInt (((((((hb4.ext (e8.trans (e14.trans (e19.trans (e23.trans e28))))).updN u35 (by omega)).ext (e39.trans e44)).updN u51 (by omega)).ext (e55.trans e60)).updN u67 (by omega)).ext e258) [.bool sa, .slice Aa na ca] rfl (Nat.le_of_ble_eq_true rfl) rfl) (by decide) ?_
    exact pi_done rfl (Ext.refl _) rfl
  · -- 18
    intro v264 e265
    have hw14 : Ext w v264 := hw13.trans e265
    refine deps_cons rfl rfl fun x266 y267 h268 e269 f270 => ?_
    obtain rfl := h268
    refine deps_nil ?_
    refine wl_load rfl rfl (load_agg aggInt (hb66.ext e265) [.bool s57, .slice A57 n57 c57] rfl (Nat.le_of_ble_eq_true rfl) rfl) (by decide) ?_
    exact pi_done rfl (Ext.refl _) rfl
  · -- 19
    intro v271 e272
    have hw14 : Ext w v271 := hw13.trans e272
    refine deps_cons rfl rfl fun x273 y274 h275 e276 f277 => ?_
    obtain rfl := h275
    refine deps_cons rfl rfl fun x278 y279 h280 e281 f282 => ?_
    obtain rfl := h280
    refine deps_cons rfl rfl fun x283 y284 h285 e286 f287 => ?_
    obtain rfl := h285
    refine deps_nil ?_
    have L288 : ln (x * (y + z)) ≤ 2097153 := Nat.le_trans (ln_mul Lx L53) (by decide)
    refine wl_call rfl rfl (vs := [.agg #[.bool sa, .slice Aa na ca], .agg #[.bool s57, .slice A57 n57 c57]]) (by kernel_rfl) (by decide) (g_zint_Mul hw14.size (hx.ext hw14) (Nat.le_trans la (by decide)) (((z57.ext e60).updT hb65 u67).ext e272).zi (z57.le (Nat.le_trans L53 (by decide)))) ?_
    rintro _ v289 ⟨xr291, rfl, r291, e290⟩
    refine ret_intro ?_
    have hw15 : Ext w v289 := hw14.trans e290
    obtain ⟨s292, A292, n292, c292, rfl, z292⟩ := r291
    exact pi_done rfl e290 ⟨_, _, _, _, rfl, z292⟩
  · -- 20
    intro v293 e294
    have hw14 : Ext w v293 := hw13.trans e294
    refine deps_cons rfl rfl fun x295 y296 h297 e298 f299 => ?_
    obtain rfl := h297
    refine deps_nil ?_
    refine wl_load rfl rfl (load_agg aggInt (((((hb34.ext (e39.trans e44)).updN u51 (by omega)).ext (e55.trans e60)).updN u67 (by omega)).ext e294) [.bool s25, .slice A25 n25 c25] rfl (Nat.le_of_ble_eq_true rfl) rfl) (by decide) ?_
    exact pi_done rfl (Ext.refl _) rfl
  · -- 21
    intro v300 e301
    have hw14 : Ext w v300 := hw13.trans e301
    refine deps_cons rfl rfl fun x302 y303 h304 e305 f306 => ?_
    obtain rfl := h304
    refine deps_nil ?_
    refine wl_load rfl rfl (load_agg aggInt (((hb50.ext (e55.trans e60)).updN u67 (by omega)).ext e301) [.bool s41, .slice A41 n41 c41] rfl (Nat.le_of_ble_eq_true rfl) rfl) (by decide) ?_
    exact pi_done rfl (Ext.refl _) rfl
  · -- 22
    intro v307 e308
    have hw14 : Ext w v307 := hw13.trans e308
    refine deps_cons rfl rfl fun x309 y310 h311 e312 f313 => ?_
    obtain rfl := h311
    refine deps_cons rfl rfl fun x314 y315 h316 e317 f318 => ?_
    obtain rfl := h316
    refine deps_cons rfl rfl fun x319 y320 h321 e322 f323 => ?_
    obtain rfl := h321
    refine deps_nil ?_
    have L324 : ln ((x * y) + (x * z)) ≤ 2097153 := Nat.le_trans (ln_add L21 L37) (by decide)
    refine wl_call rfl rfl (vs := [.agg #[.bool s25, .slice A25 n25 c25], .agg #[.bool s41, .slice A41 n41 c41]]) (by kernel_rfl) (by decide) (g_zint_Add hw14.size (((((((z25.ext e28).updT hb33 u35).ext (e39.trans e44)).updT hb49 u51).ext (e55.trans e60)).updT hb65 u67).ext e308).zi (z25.le (Nat.le_trans L21 (by decide))) (((((z41.ext e44).updT hb49 u51).ext (e55.trans e60)).updT hb65 u67).ext e308).zi (z41.le (Nat.le_trans L37 (by decide)))) ?_
    rintro _ v325 ⟨xr327, rfl, r327, e326⟩
    refine ret_intro ?_
    have hw15 : Ext w v325 := hw14.trans e326
    obtain ⟨s328, A328, n328, c328, rfl, z328⟩ := r327
    exact pi_done rfl e326 ⟨_, _, _, _, rfl, z328⟩
  · -- 23
    intro v329 e330
    have hw14 : Ext w v329 := hw13.trans e330
    refine deps_cons rfl rfl fun x331 y332 h333 e334 f335 => ?_
    obtain rfl := h333
    refine deps_cons rfl rfl fun x336 y337 h338 e339 f340 => ?_
    obtain ⟨s341, A341, n341, c341, rfl, z341⟩ := h338
    have z341 := z341.ext f340
    refine deps_cons rfl rfl fun x342 y343 h344 e345 f346 => ?_
    obtain ⟨s347, A347, n347, c347, rfl, z347⟩ := h344
    have z347 := z347.ext f346
    refine deps_nil ?_
    refine wl_call rfl rfl (vs := [.agg #[.bool s341, .slice A341 n341 c341], .agg #[.bool s347, .slice A347 n347 c347]]) (by kernel_rfl) (by decide) (g_law5_alike z341 (z341.le (Nat.le_trans L75 (by decide))) (z347.cast (by grind)) (z347.le (Nat.le_trans L77 (by decide)))) ?_
    rintro _ v348 ⟨xr350, rfl, r350, e349⟩
    refine ret_intro ?_
    have hw15 : Ext w v348 := hw14.trans e349
    obtain rfl := r350
    exact pi_done rfl e349 rfl
  · -- 24
    intro v351 e352
    have hw14 : Ext w v351 := hw13.trans e352
    refine deps_cons rfl rfl fun x353 y354 h355 e356 f357 => ?_
    obtain rfl := h355
    refine deps_cons rfl rfl fun x358 y359 h360 e361 f362 => ?_
    obtain rfl := h360
    refine deps_nil ?_
    refine wl_pure rfl rfl (v := .bool false) (by decide) (by kernel_rfl) ?_
    exact pi_done rfl (Ext.refl _) rfl
  · -- 25
    intro v363 e364
    have hw14 : Ext w v363 := hw13.trans e364
    refine deps_cons rfl rfl fun x365 y366 h367 e368 f369 => ?_
    obtain rfl := h367
    refine deps_cons rfl rfl fun x370 y371 h372 e373 f374 => ?_
    obtain rfl := h372
    refine deps_nil ?_
    refine wl_pure rfl rfl (v := .bool false) (by decide) (by kernel_rfl) ?_
    exact pi_done rfl (Ext.refl _) rfl
  · -- all
    intro v375 e376
    have hw14 : Ext w v375 := hw13.trans e376
    refine deps_cons rfl rfl fun x377 y378 h379 e380 f381 => ?_
    obtain rfl := h379
    refine deps_cons rfl rfl fun x382 y383 h384 e385 f386 => ?_
    obtain rfl := h384
    refine deps_cons rfl rfl fun x387 y388 h389 e390 f391 => ?_
    obtain rfl := h389
    refine deps_cons rfl rfl fun x392 y393 h394 e395 f396 => ?_
    obtain ⟨s397, A397, n397, c397, rfl, z397⟩ := h394
    have z397 := z397.ext f396
    refine deps_cons rfl rfl fun x398 y399 h400 e401 f402 => ?_
    obtain rfl := h400
    refine deps_cons rfl rfl fun x403 y404 h405 e406 f407 => ?_
    obtain rfl := h405
    refine deps_cons rfl rfl fun x408 y409 h410 e411 f412 => ?_
    obtain rfl := h410
    refine deps_cons rfl rfl fun x413 y414 h415 e416 f417 => ?_
    obtain rfl := h415
    refine deps_cons rfl rfl fun x418 y419 h420 e421 f422 => ?_
    obtain rfl := h420
    refine deps_cons rfl rfl fun x423 y424 h425 e426 f427 => ?_
    obtain ⟨s428, A428, n428, c428, rfl, z428⟩ := h425
    have z428 := z428.ext f427
    refine deps_cons rfl rfl fun x429 y430 h431 e432 f433 => ?_
    obtain rfl := h431
    refine deps_cons rfl rfl fun x434 y435 h436 e437 f438 => ?_
    obtain rfl := h436
    refine deps_cons rfl rfl fun x439 y440 h441 e442 f443 => ?_
    obtain ⟨s444, A444, n444, c444, rfl, z444⟩ := h441
    have z444 := z444.ext f443
    refine deps_cons rfl rfl fun x445 y446 h447 e448 f449 => ?_
    obtain rfl := h447
    refine deps_cons rfl rfl fun x450 y451 h452 e453 f454 => ?_
    obtain rfl := h452
    refine deps_cons rfl rfl fun x455 y456 h457 e458 f459 => ?_
    obtain rfl := h457
    refine deps_cons rfl rfl fun x460 y461 h462 e463 f464 => ?_
    obtain rfl := h462
    refine deps_cons rfl rfl fun x465 y466 h467 e468 f469 => ?_
    obtain rfl := h467
    refine deps_cons rfl rfl fun x470 y471 h472 e473 f474 => ?_
    obtain rfl := h472
    refine deps_cons rfl rfl fun x475 y476 h477 e478 f479 => ?_
    obtain ⟨s480, A480, n480, c480, rfl, z480⟩ := h477
    have z480 := z480.ext f479
    refine deps_cons rfl rfl fun x481 y482 h483 e484 f485 => ?_
    obtain rfl := h483
    refine deps_cons rfl rfl fun x486 y487 h488 e489 f490 => ?_
    obtain rfl := h488
    refine deps_cons rfl rfl fun x491 y492 h493 e494 f495 => ?_
    obtain ⟨s496, A496, n496, c496, rfl, z496⟩ := h493
    have z496 := z496.ext f495
    refine deps_cons rfl rfl fun x497 y498 h499 e500 f501 => ?_
    obtain rfl := h499
    refine deps_cons rfl rfl fun x502 y503 h504 e505 f506 => ?_
    obtain rfl := h504
    refine deps_cons rfl rfl fun x507 y508 h509 e510 f511 => ?_
    obtain rfl := h509
    refine deps_nil ?_
    refine wl_nil ?_
    refine eo_np ?_
    refine eo_then ?_
    refine cw_false rfl ?_
    refine cw_skip ?_
    refine eo_then ?_
    refine cw_seq ?_
    refine cw_seq ?_
    have L512 : ln (z + y) ≤ 1048577 := Nat.le_trans (ln_add Lz Ly) (by decide)
    have L514 : ln (x + y) ≤ 1048577 := Nat.le_trans (ln_add Lx Ly) (by decide)
    have L516 : ln ((x + y) + z) ≤ 1048578 := Nat.le_trans (ln_add L514 Lz) (by decide)
    have L518 : ln (x + (y + z)) ≤ 1048578 := Nat.le_trans (ln_add Lx L53) (by decide)
    refine cw_draw mix 18 [] [Is (.agg #[.bool s57, .slice A57 n57 c57]), Is (.agg #[.bool sf, .slice Af nf cf]), Is (.agg #[.bool sb, .slice Ab nb cb]), ZR w.heap.size (z + y), Is (.bool true), Is (.bool false), Is (.bool false), Is (.agg #[.bool sa, .slice Aa na ca]), Is (.agg #[.bool sb, .slice Ab nb cb]), ZR w.heap.size (x + y), Is (.agg #[.bool sf, .slice Af nf cf]), ZR w.heap.size ((x + y) + z), Is (.agg #[.bool sa, .slice Aa na ca]), Is (.agg #[.bool s57, .slice A57 n57 c57]), ZR w.heap.size (x + (y + z)), Is (.bool true), Is (.bool false), Is (.bool false)] [[], [], [], [1, 2], [0, 3], [4], [5], [6], [6], [6, 7, 8], [6], [6, 9, 10], [6], [6], [6, 12, 13], [6, 11, 14], [6, 15], [6, 16]] [[], [], [], [1, 2], [0, 1, 2, 3], [0, 1, 2, 3, 4], [0, 1, 2, 3, 4, 5], [0, 1, 2, 3, 4, 5, 6], [0, 1, 2, 3, 4, 5, 6], [0, 1, 2, 3, 4, 5, 6, 7, 8], [0, 1, 2, 3, 4, 5, 6], [0, 1, 2, 3, 4, 5, 6, 7, 8, 9, 10], [0, 1, 2, 3, 4, 5, 6], [0, 1, 2, 3, 4, 5, 6], [0, 1, 2, 3, 4, 5, 6, 7, 8, 9, 10, 11, 12, 13], [0, 1, 2, 3, 4, 5, 6, 7, 8, 9, 10, 11, 12, 13, 14], [0, 1, 2, 3, 4, 5, 6, 7, 8, 9, 10, 11, 12, 13, 14, 15], [0, 1, 2, 3, 4, 5, 6, 7, 8, 9, 10, 11, 12, 13, 14, 15, 16]] rfl
      (obs_cons rfl rfl (hob rfl rfl ?_) (obs_cons rfl rfl (hob rfl rfl ?_) (obs_cons rfl rfl (hob rfl rfl ?_) (obs_cons rfl rfl (hob rfl rfl ?_) (obs_cons rfl rfl (hob rfl rfl ?_) (obs_cons rfl rfl (hob rfl rfl ?_) (obs_cons rfl rfl (hob rfl rfl ?_) (obs_cons rfl rfl (hob rfl rfl ?_) (obs_cons rfl rfl (hob rfl rfl ?_) (obs_cons rfl rfl (hob rfl rfl ?_) (obs_cons rfl rfl (hob rfl rfl ?_) (obs_cons rfl rfl (hob rfl rfl ?_) (obs_cons rfl rfl (hob rfl rfl ?_) (obs_cons rfl rfl (hob rfl rfl ?_) (obs_cons rfl rfl (hob rfl rfl ?_) (obs_cons rfl rfl (hob rfl rfl ?_) (obs_cons rfl rfl (hob rfl rfl ?_) (obs_cons rfl rfl (hob rfl rfl ?_) obs_nil)))))))))))))))))) ?_
    · -- 0
      intro v520 e521
      have hw15 : Ext w v520 := hw14.trans e521
      refine deps_nil ?_
      refine wl_load rfl rfl (load_agg aggInt (hb66.ext (e376.trans e521)) [.bool s57, .slice A57 n57 c57] rfl (Nat.le_of_ble_eq_true rfl) rfl) (by decide) ?_
      exact pi_done rfl (Ext.refl _) rfl
    · -- 1
      intro v522 e523
      have hw15 : Ext w v522 := hw14.trans e523
      refine deps_nil ?_
      refine wl_load rfl rfl (load_agg aggInt (((((((hb15.ext (e19.trans (e23.trans e28))).updN u35 (by omega)).ext (e39.trans e44)).updN u51 (by omega)).ext (e55.trans e60)).updN u67 (by omega)).ext (e376.trans e523)) [.bool sf, .slice Af nf cf] rfl (Nat.le_of_ble_eq_true rfl) rfl) (by decide) ?_
      exact pi_done rfl (Ext.refl _) rfl
    · -- 2
      intro v524 e525
      have hw15 : Ext w v524 := hw14.trans e525
      refine deps_nil ?_
      refine wl_load rfl rfl (load_agg aggInt (((((((hb9.ext (e14.trans (e19.trans (e23.trans e28)))).updN u35 (by omega)).ext (e39.trans e44)).updN u51 (by omega)).ext (e55.trans e60)).updN u67 (by omega)).ext (e376.trans e525)) [.bool sb, .slice Ab nb cb] rfl (Nat.le_of_ble_eq_true rfl) rfl) (by decide) ?_
      exact pi_done rfl (Ext.refl _) rfl
    · -- 3
      intro v526 e527
      have hw15 : Ext w v526 := hw14.trans e527
      refine deps_cons rfl rfl fun x528 y529 h530 e531 f532 => ?_
      obtain rfl := h530
      refine deps_cons rfl rfl fun x533 y534 h535 e536 f537 => ?_
      obtain rfl := h535
      refine deps_nil ?_
      have L538 : ln (z + y) ≤ 1048577 := Nat.le_trans (ln_add Lz Ly) (by decide)
      refine wl_call rfl rfl (vs := [.agg #[.bool sf, .slice Af nf cf], .agg #[.bool sb, .slice Ab nb cb]]) (by kernel_rfl) (by decide) (g_zint_Add hw15.size (hz.ext hw15) (Nat.le_trans lf (by decide)) (hy.ext hw15) (Nat.le_trans lb (by decide))) ?_
      rintro _ v539 ⟨xr541, rfl, r541, e540⟩
      refine ret_intro ?_
      have hw16 : Ext w v539 := hw15.trans e540
      obtain ⟨s542, A542, n542, c542, rfl, z542⟩ := r541
      exact pi_done rfl e540 ⟨_, _, _, _, rfl, z542⟩
    · -- 4
      intro v543 e544
      have hw15 : Ext w v543 := hw14.trans e544
      refine deps_cons rfl rfl fun x545 y546 h547 e548 f549 => ?_
      obtain rfl := h547
      refine deps_cons rfl rfl fun x550 y551 h552 e553 f554 => ?_
      obtain ⟨s555, A555, n555, c555, rfl, z555⟩ := h552
      have z555 := z555.ext f554
      refine deps_nil ?_
      refine wl_call rfl rfl (vs := [.agg #[.bool s57, .slice A57 n57 c57], .agg #[.bool s555, .slice A555 n555 c555]]) (by kernel_rfl) (by decide) (g_law5_alike (((z57.ext e60).updT hb65 u67).ext (e376.trans e544)) (z57.le (Nat.le_trans L53 (by decide))) (z555.cast (by grind)) (z555.le (Nat.le_trans L512 (by decide)))) ?_
      rintro _ v556 ⟨xr558, rfl, r558, e557⟩
      refine ret_intro ?_
      have hw16 : Ext w v556 := hw15.trans e557
      obtain rfl := r558
      exact pi_done rfl e557 rfl
    · -- 5
      intro v559 e560
      have hw15 : Ext w v559 := hw14.trans e560
      refine deps_cons rfl rfl fun x561 y562 h563 e564 f565 => ?_
      obtain rfl := h563
      refine deps_nil ?_
      refine wl_pure rfl rfl (v := .bool false) (by decide) (by kernel_rfl) ?_
      exact pi_done rfl (Ext.refl _) rfl
    · -- 6
      intro v566 e567
      have hw15 : Ext w v566 := hw14.trans e567
      refine deps_cons rfl rfl fun x568 y569 h570 e571 f572 => ?_
      obtain rfl := h570
      refine deps_nil ?_
      refine wl_move rfl rfl (by decide) ?_
      exact pi_done rfl (Ext.refl _) rfl
    · -- 7
      intro v573 e574
      have hw15 : Ext w v573 := hw14.trans e574
      refine deps_cons rfl rfl fun x575 y576 h577 e578 f579 => ?_
      obtain rfl := h577
      refine deps_nil ?_
      refine wl_load rfl rfl (load_agg aggInt (((((((hb4.ext (e8.trans (e14.trans (e19.trans (e23.trans e28))))).updN u35 (by omega)).ext (e39.trans e44)).updN u51 (by omega)).ext (e55.trans e60)).updN u67 (by omega)).ext (e376.trans e574)) [.bool sa, .slice Aa na ca] rfl (Nat.le_of_ble_eq_true rfl) rfl) (by decide) ?_
      exact pi_done rfl (Ext.refl _) rfl
    · -- 8
      intro v580 e581
      have hw15 : Ext w v580 := hw14.trans e581
      refine deps_cons rfl rfl fun x582 y583 h584 e585 f586 => ?_
      obtain rfl := h584
      refine deps_nil ?_
      refine wl_load rfl rfl (load_agg aggInt (((((((hb9.ext (e14.trans (e19.trans (e23.trans e28)))).updN u35 (by omega)).ext (e39.trans e44)).updN u51 (by omega)).ext (e55.trans e60)).updN u67 (by omega)).ext (e376.trans e581)) [.bool sb, .slice Ab nb cb] rfl (Nat.le_of_ble_eq_true rfl) rfl) (by decide) ?_
      exact pi_done rfl (Ext.refl _) rfl
    · -- 9
      intro v587 e588
      have hw15 : Ext w v587 := hw14.trans e588
      refine deps_cons rfl rfl fun x589 y590 h591 e592 f593 => ?_
      obtain rfl := h591
      refine deps_cons rfl rfl fun x594 y595 h596 e597 f598 => ?_
      obtain rfl := h596
      refine deps_cons rfl rfl fun x599 y600 h601 e602 f603 => ?_
      obtain rfl := h601
      refine deps_nil ?_
      have L604 : ln (x + y) ≤ 1048577 := Nat.le_trans (ln_add Lx Ly) (by decide)
      refine wl_call rfl rfl (vs := [.agg #[.bool sa, .slice Aa na ca], .agg #[.bool sb, .slice Ab nb cb]]) (by kernel_rfl) (by decide) (g_zint_Add hw15.size (hx.ext hw15) (Nat.le_trans la (by decide)) (hy.ext hw15) (Nat.le_trans lb (by decide))) ?_
      rintro _ v605 ⟨xr607, rfl, r607, e606⟩
      refine ret_intro ?_
      have hw16 : Ext w v605 := hw15.trans e606
      obtain ⟨s608, A608, n608, c608, rfl, z608⟩ := r607
      exact pi_done rfl e606 ⟨_, _, _, _, rfl, z608⟩
    · -- 10
      intro v609 e610
      have hw15 : Ext w v609 := hw14.trans e610
      refine deps_cons rfl rfl fun x611 y612 h613 e614 f615 => ?_
      obtain rfl := h613
      refine deps_nil ?_
      refine wl_load rfl rfl (load_agg aggInt (((((((hb15.ext (e19.trans (e23.trans e28))).updN u35 (by omega)).ext (e39.trans e44)).updN u51 (by omega)).ext (e55.trans e60)).updN u67 (by omega)).ext (e376.trans e610)) [.bool sf, .slice Af nf cf] rfl (Nat.le_of_ble_eq_true rfl) rfl) (by decide) ?_
      exact pi_done rfl (Ext.refl _) rfl
    · -- 11
      intro v616 e617
      have hw15 : Ext w v616 := hw14.trans e617
      refine deps_cons rfl rfl fun x618 y619 h620 e621 f622 => ?_
      obtain rfl := h620
      refine deps_cons rfl rfl fun x623 y624 h625 e626 f627 => ?_
      obtain ⟨s628, A628, n628, c628, rfl, z628⟩ := h625
      have z628 := z628.ext f627
      refine deps_cons rfl rfl fun x629 y630 h631 e632 f633 => ?_
      obtain rfl := h631
      refine deps_nil ?_
      have L634 : ln ((x + y) + z) ≤ 1048578 := Nat.le_trans (ln_add L514 Lz) (by decide)
      refine wl_call rfl rfl (vs := [.agg #[.bool s628, .slice A628 n628 c628], .agg #[.bool sf, .slice Af nf cf]]) (by kernel_rfl) (by decide) (g_zint_Add hw15.size z628.zi (z628.le (Nat.le_trans L514 (by decide))) (hz.ext hw15) (Nat.le_trans lf (by decide))) ?_
      rintro _ v635 ⟨xr637, rfl, r637, e636⟩
      refine ret_intro ?_
      have hw16 : Ext w v635 := hw15.trans e636
      obtain ⟨s638, A638, n638, c638, rfl, z638⟩ := r637
      exact pi_done rfl e636 ⟨_, _, _, _, rfl, z638⟩
    · -- 12
      intro v639 e640
      have hw15 : Ext w v639 := hw14.trans e640
      refine deps_cons rfl rfl fun x641 y642 h643 e644 f645 => ?_
      obtain rfl := h643
      refine deps_nil ?_
      refine wl_load rfl rfl (load_agg aggInt (((((((hb4.ext (e8.trans (e14.trans (e19.trans (e23.trans e28))))).updN u35 (by omega)).ext (e39.trans e44)).updN u51 (by omega)).ext (e55.trans e60)).updN u67 (by omega)).ext (e376.trans e640)) [.bool sa, .slice Aa na ca] rfl (Nat.le_of_ble_eq_true rfl) rfl) (by decide) ?_
      exact pi_done rfl (Ext.refl _) rfl
    · -- 13
      intro v646 e647
      have hw15 : Ext w v646 := hw14.trans e647
      refine deps_cons rfl rfl fun x648 y649 h650 e651 f652 => ?_
      obtain rfl := h650
      refine deps_nil ?_
      refine wl_load rfl rfl (load_agg aggInt (hb66.ext (e376.trans e647)) [.bool s57, .slice A57 n57 c57] rfl (Nat.le_of_ble_eq_true rfl) rfl) (by decide) ?_
      exact pi_done rfl (Ext.refl _) rfl
    · -- 14
      intro v653 e654
      have hw15 : Ext w v653 := hw14.trans e654
      refine deps_cons rfl rfl fun x655 y656 h657 e658 f659 => ?_
      obtain rfl := h657
      refine deps_cons rfl rfl fun x660 y661 h662 e663 f664 => ?_
      obtain rfl := h662
      refine deps_cons rfl rfl fun x665 y666 h667 e668 f669 => ?_
      obtain rfl := h667
      refine deps_nil ?_
      have L670 : ln (x + (y + z)) ≤ 1048578 := Nat.le_trans (ln_add Lx L53) (by decide)
      refine wl_call rfl rfl (vs := [.agg #[.bool sa, .slice Aa na ca], .agg #[.bool s57, .slice A57 n57 c57]]) (by kernel_rfl) (by decide) (g_zint_Add hw15.size (hx.ext hw15) (Nat.le_trans la (by decide)) (((z57.ext e60).updT hb65 u67).ext (e376.trans e654)).zi (z57.le (Nat.le_trans L53 (by decide)))) ?_
      rintro _ v671 ⟨xr673, rfl, r673, e672⟩
      refine ret_intro ?_
      have hw16 : Ext w v671 := hw15.trans e672
      obtain ⟨s674, A674, n674, c674, rfl, z674⟩ := r673
      exact pi_done rfl e672 ⟨_, _, _, _, rfl, z674⟩
    · -- 15
      intro v675 e676
      have hw15 : Ext w v675 := hw14.trans e676
      refine deps_cons rfl rfl fun x677 y678 h679 e680 f681 => ?_
      obtain rfl := h679
      refine deps_cons rfl rfl fun x682 y683 h684 e685 f686 => ?_
      obtain ⟨s687, A687, n687, c687, rfl, z687⟩ := h684
      have z687 := z687.ext f686
      refine deps_cons rfl rfl fun x688 y689 h690 e691 f692 => ?_
      obtain ⟨s693, A693, n693, c693, rfl, z693⟩ := h690
      have z693 := z693.ext f692
      refine deps_nil ?_
      refine wl_call rfl rfl (vs := [.agg #[.bool s687, .slice A687 n687 c687], .agg #[.bool s693, .slice A693 n693 c693]]) (by kernel_rfl) (by decide) (g_law5_alike z687 (z687.le (Nat.le_trans L516 (by decide))) (z693.cast (by grind)) (z693.le (Nat.le_trans L518 (by decide)))) ?_
      rintro _ v694 ⟨xr696, rfl, r696, e695⟩
      refine ret_intro ?_
      have hw16 : Ext w v694 := hw15.trans e695
      obtain rfl := r696
      exact pi_done rfl e695 rfl
    · -- 16
      intro v697 e698
      have hw15 : Ext w v697 := hw14.trans e698
      refine deps_cons rfl rfl fun x699 y700 h701 e702 f703 => ?_
      obtain rfl := h701
      refine deps_cons rfl rfl fun x704 y705 h706 e707 f708 => ?_
      obtain rfl := h706
      refine deps_nil ?_
      refine wl_pure rfl rfl (v := .bool false) (by decide) (by kernel_rfl) ?_
      exact pi_done rfl (Ext.refl _) rfl
    · -- 17
      intro v709 e710
      have hw15 : Ext w v709 := hw14.trans e710
      refine deps_cons rfl rfl fun x711 y712 h713 e714 f715 => ?_
      obtain rfl := h713
      refine deps_cons rfl rfl fun x716 y717 h718 e719 f720 => ?_
      obtain rfl := h718
      refine deps_nil ?_
      refine wl_pure rfl rfl (v := .bool false) (by decide) (by kernel_rfl) ?_
      exact pi_done rfl (Ext.refl _) rfl
    · -- all
      intro v721 e722
      have hw15 : Ext w v721 := hw14.trans e722
      refine deps_cons rfl rfl fun x723 y724 h725 e726 f727 => ?_
      obtain rfl := h725
      refine deps_cons rfl rfl fun x728 y729 h730 e731 f732 => ?_
      obtain rfl := h730
      refine deps_cons rfl rfl fun x733 y734 h735 e736 f737 => ?_
      obtain rfl := h735
      refine deps_cons rfl rfl fun x738 y739 h740 e741 f742 => ?_
      obtain ⟨s743, A743, n743, c743, rfl, z743⟩ := h740
      have z743 := z743.ext f742
      refine deps_cons rfl rfl fun x744 y745 h746 e747 f748 => ?_
      obtain rfl := h746
      refine deps_cons rfl rfl fun x749 y750 h751 e752 f753 => ?_
      obtain rfl := h751
      refine deps_cons rfl rfl fun x754 y755 h756 e757 f758 => ?_
      obtain rfl := h756
      refine deps_cons rfl rfl fun x759 y760 h761 e762 f763 => ?_
      obtain rfl := h761
      refine deps_cons rfl rfl fun x764 y765 h766 e767 f768 => ?_
      obtain rfl := h766
      refine deps_cons rfl rfl fun x769 y770 h771 e772 f773 => ?_
      obtain ⟨s774, A774, n774, c774, rfl, z774⟩ := h771
      have z774 := z774.ext f773
      refine deps_cons rfl rfl fun x775 y776 h777 e778 f779 => ?_
      obtain rfl := h777
      refine deps_cons rfl rfl fun x780 y781 h782 e783 f784 => ?_
      obtain ⟨s785, A785, n785, c785, rfl, z785⟩ := h782
      have z785 := z785.ext f784
      refine deps_cons rfl rfl fun x786 y787 h788 e789 f790 => ?_
      obtain rfl := h788
      refine deps_cons rfl rfl fun x791 y792 h793 e794 f795 => ?_
      obtain rfl := h793
      refine deps_cons rfl rfl fun x796 y797 h798 e799 f800 => ?_
      obtain ⟨s801, A801, n801, c801, rfl, z801⟩ := h798
      have z801 := z801.ext f800
      refine deps_cons rfl rfl fun x802 y803 h804 e805 f806 => ?_
      obtain rfl := h804
      refine deps_cons rfl rfl fun x807 y808 h809 e810 f811 => ?_
      obtain rfl := h809
      refine deps_cons rfl rfl fun x812 y813 h814 e815 f816 => ?_
      obtain rfl := h814
      refine deps_nil ?_
      refine wl_nil ?_
      refine eo_np ?_
      refine eo_then ?_
      refine cw_false rfl ?_
      refine cw_skip ?_
      refine eo_then ?_
      refine cw_seq ?_
      refine cw_region ?_
      refine wl_load rfl rfl (load_agg aggInt (((((((hb4.ext (e8.trans (e14.trans (e19.trans (e23.trans e28))))).updN u35 (by omega)).ext (e39.trans e44)).updN u51 (by omega)).ext (e55.trans e60)).updN u67 (by omega)).ext (e376.trans e722)) [.bool sa, .slice Aa na ca] rfl (Nat.le_of_ble_eq_true rfl) rfl) (by decide) ?_
      have L817 : ln (-x) ≤ 1048576 := (by rw [ln_neg]; exact Lx)
      refine wl_call rfl rfl (vs := [.agg #[.bool sa, .slice Aa na ca]]) (by kernel_rfl) (by decide) (g_zint_Neg hw15.size (hx.ext hw15) (Nat.le_trans la (by decide))) ?_
      rintro _ v818 ⟨xr820, rfl, r820, e819⟩
      refine ret_intro ?_
      have hw16 : Ext w v818 := hw15.trans e819
      obtain ⟨s821, A821, n821, c821, rfl, z821⟩ := r820
      refine wl_alloc rfl (z := .agg #[.bool false, .slice none 0 0]) (vs := [.bool false, .slice none 0 0]) (fun _ => by kernel_rfl) rfl (by decide) fun g822 v823 nb => ?_
      have hb825 := nb.bk
      have ge826 : w.heap.size ≤ g822 := by rw [← nb.at_]; exact hw16.size
      have q827 : g58 < g822 := by rw [← nb.at_]; exact (hb66.ext (e376.trans (e722.trans e819))).lt
      have e824 := nb.ext
      clear nb
      have hw17 : Ext w v823 := hw16.trans e824
      have hb829 := hb825
      refine wl_stored rfl rfl rfl aggInt rfl hb829 (Nat.le_of_ble_eq_true rfl) rfl [.bool s821, .slice A821 n821 c821] rfl fun v828 hb830 u831 hs832 => ?_
      have hw18 : Ext w v828 := u831.ext hw17 ge826
      refine wl_nil ?_
      refine eo_then ?_
      refine cw_seq ?_
      refine cw_region ?_
      refine wl_load rfl rfl (load_agg aggInt ((((((((hb4.ext (e8.trans (e14.trans (e19.trans (e23.trans e28))))).updN u35 (by omega)).ext (e39.trans e44)).updN u51 (by omega)).ext (e55.trans e60)).updN u67 (by omega)).ext (e376.trans (e722.trans (e819.trans e824)))).updN u831 (by omega)) [.bool sa, .slice Aa na ca] rfl (Nat.le_of_ble_eq_true rfl) rfl) (by decide) ?_
      refine wl_load rfl rfl (load_agg aggInt hb830 [.bool s821, .slice A821 n821 c821] rfl (Nat.le_of_ble_eq_true rfl) rfl) (by decide) ?_
      have L833 : ln (x + (-x)) ≤ 1048577 := Nat.le_trans (ln_add Lx L817) (by decide)
      refine wl_call rfl rfl (vs := [.agg #[.bool sa, .slice Aa na ca], .agg #[.bool s821, .slice A821 n821 c821]]) (by kernel_rfl) (by decide) (g_zint_Add hw18.size (hx.ext hw18) (Nat.le_trans la (by decide)) ((z821.ext e824).updT hb829 u831).zi (z821.le (Nat.le_trans L817 (by decide)))) ?_
      rintro _ v834 ⟨xr836, rfl, r836, e835⟩
      refine ret_intro ?_
      have hw19 : Ext w v834 := hw18.trans e835
      obtain ⟨s837, A837, n837, c837, rfl, z837⟩ := r836
      refine wl_alloc rfl (z := .agg #[.bool false, .slice none 0 0]) (vs := [.bool false, .slice none 0 0]) (fun _ => by kernel_rfl) rfl (by decide) fun g838 v839 nb => ?_
      have hb841 := nb.bk
      have ge842 : w.heap.size ≤ g838 := by rw [← nb.at_]; exact hw19.size
      have q843 : g822 < g838 := by rw [← nb.at_]; exact (hb830.ext e835).lt
      have e840 := nb.ext
      clear nb
      have hw20 : Ext w v839 := hw19.trans e840
      have hb845 := hb841
      refine wl_stored rfl rfl rfl aggInt rfl hb845 (Nat.le_of_ble_eq_true rfl) rfl [.bool s837, .slice A837 n837 c837] rfl fun v844 hb846 u847 hs848 => ?_
      have hw21 : Ext w v844 := u847.ext hw20 ge842
      refine wl_nil ?_
      refine eo_then ?_
      refine cw_seq ?_
      refine cw_seq ?_
      have hz0 : x + -x = 0 := by omega
      have hlen := ((z837.ext e840).updT hb845 u847).len
      rw [hz0] at hlen
      obtain rfl : s837 = false := by rw [((z837.ext e840).updT hb845 u847).sgn, hz0]; rfl
      have L849 : ln (-(-x)) ≤ 1048576 := (by rw [ln_neg]; exact L817)
      have L852 : ln ((-x) * y) ≤ 2097152 := Nat.le_trans (ln_mul L817 Ly) (by decide)
      have L854 : ln (-(x * y)) ≤ 2097152 := (by rw [ln_neg]; exact L21)
      refine cw_draw mix 25 [] [Is (.pointer (some ⟨g838, 0, none⟩)), Is (.bool false), Is (.bool false), Is (.pointer (some ⟨g838, 1, none⟩)), Is (.slice A837 n837 c837), Is (.int .i64 ((n837 : Nat) : Int)), Is (.bool false), Is (.bool false), Is (.bool false), Is (.agg #[.bool s821, .slice A821 n821 c821]), ZR w.heap.size (-(-x)), Is (.agg #[.bool sa, .slice Aa na ca]), ZR w.heap.size (x), Is (.bool true), Is (.bool false), Is (.bool false), Is (.bool false), Is (.agg #[.bool s821, .slice A821 n821 c821]), Is (.agg #[.bool sb, .slice Ab nb cb]), ZR w.heap.size ((-x) * y), Is (.agg #[.bool s25, .slice A25 n25 c25]), ZR w.heap.size (-(x * y)), Is (.bool true), Is (.bool false), Is (.bool false)] [[], [0], [1], [2], [2, 3], [2, 4], [2, 5], [2, 6], [7], [8], [8, 9], [8], [8, 11], [8, 10, 12], [8, 13], [8, 14], [15], [16], [16], [16, 17, 18], [16], [16, 20], [16, 19, 21], [16, 22], [16, 23]] [[], [0], [0, 1], [0, 1, 2], [0, 1, 2, 3], [0, 1, 2, 3, 4], [0, 1, 2, 3, 4, 5], [0, 1, 2, 3, 4, 5, 6], [0, 1, 2, 3, 4, 5, 6, 7], [0, 1, 2, 3, 4, 5, 6, 7, 8], [0, 1, 2, 3, 4, 5, 6, 7, 8, 9], [0, 1, 2, 3, 4, 5, 6, 7, 8], [0, 1, 2, 3, 4, 5, 6, 7, 8, 9, 10, 11], [0, 1, 2, 3, 4, 5, 6, 7, 8, 9, 10, 11, 12], [0, 1, 2, 3, 4, 5, 6, 7, 8, 9, 10, 11, 12, 13], [0, 1, 2, 3, 4, 5, 6, 7, 8, 9, 10, 11, 12, 13, 14], [0, 1, 2, 3, 4, 5, 6, 7, 8, 9, 10, 11, 12, 13, 14, 15], [0, 1, 2, 3, 4, 5, 6, 7, 8, 9, 10, 11, 12, 13, 14, 15, 16], [0, 1, 2, 3, 4, 5, 6, 7, 8, 9, 10, 11, 12, 13, 14, 15, 16], [0, 1, 2, 3, 4, 5, 6, 7, 8, 9, 10, 11, 12, 13, 14, 15, 16, 17, 18], [0, 1, 2, 3, 4, 5, 6, 7, 8, 9, 10, 11, 12, 13, 14, 15, 16], [0, 1, 2, 3, 4, 5, 6, 7, 8, 9, 10, 11, 12, 13, 14, 15, 16, 17, 18, 19, 20], [0, 1, 2, 3, 4, 5, 6, 7, 8, 9, 10, 11, 12, 13, 14, 15, 16, 17, 18, 19, 20, 21], [0, 1, 2, 3, 4, 5, 6, 7, 8, 9, 10, 11, 12, 13, 14, 15, 16, 17, 18, 19, 20, 21, 22], [0, 1, 2, 3, 4, 5, 6, 7, 8, 9, 10, 11, 12, 13, 14, 15, 16, 17, 18, 19, 20, 21, 22, 23]] rfl
        (obs_cons rfl rfl (hob rfl rfl ?_) (obs_cons rfl rfl (hob rfl rfl ?_) (obs_cons rfl rfl (hob rfl rfl ?_) (obs_cons rfl rfl (hob rfl rfl ?_) (obs_cons rfl rfl (hob rfl rfl ?_) (obs_cons rfl rfl (hob rfl rfl ?_) (obs_cons rfl rfl (hob rfl rfl ?_) (obs_cons rfl rfl (hob rfl rfl ?_) (obs_cons rfl rfl (hob rfl rfl ?_) (obs_cons rfl rfl (hob rfl rfl ?_) (obs_cons rfl rfl (hob rfl rfl ?_) (obs_cons rfl rfl (hob rfl rfl ?_) (obs_cons rfl rfl (hob rfl rfl ?_) (obs_cons rfl rfl (hob rfl rfl ?_) (obs_cons rfl rfl (hob rfl rfl ?_) (obs_cons rfl rfl (hob rfl rfl ?_) (obs_cons rfl rfl (hob rfl rfl ?_) (obs_cons rfl rfl (hob rfl rfl ?_) (obs_cons rfl rfl (hob rfl rfl ?_) (obs_cons rfl rfl (hob rfl rfl ?_) (obs_cons rfl rfl (hob rfl rfl ?_) (obs_cons rfl rfl (hob rfl rfl ?_) (obs_cons rfl rfl (hob rfl rfl ?_) (obs_cons rfl rfl (hob rfl rfl ?_) (obs_cons rfl rfl (hob rfl rfl ?_) obs_nil))))))))))))))))))))))))) ?_
      · -- 0
        intro v856 e857
        have hw22 : Ext w v856 := hw21.trans e857
        refine deps_nil ?_
        refine wl_pure rfl rfl (v := .pointer (some ⟨g838, 0, none⟩)) (by decide) (by kernel_rfl) ?_
        exact pi_done rfl (Ext.refl _) rfl
      · -- 1
        intro v858 e859
        have hw22 : Ext w v858 := hw21.trans e859
        refine deps_cons rfl rfl fun x860 y861 h862 e863 f864 => ?_
        obtain rfl := h862
        refine deps_nil ?_
        refine wl_load rfl rfl (load_cell cellBool (hb846.ext e859) rfl) (by decide) ?_
        exact pi_done rfl (Ext.refl _) rfl
      · -- 2
        intro v865 e866
        have hw22 : Ext w v865 := hw21.trans e866
        refine deps_cons rfl rfl fun x867 y868 h869 e870 f871 => ?_
        obtain rfl := h869
        refine deps_nil ?_
        refine wl_move rfl rfl (by decide) ?_
        exact pi_done rfl (Ext.refl _) rfl
      · -- 3
        intro v872 e873
        have hw22 : Ext w v872 := hw21.trans e873
        refine deps_cons rfl rfl fun x874 y875 h876 e877 f878 => ?_
        obtain rfl := h876
        refine deps_nil ?_
        refine wl_pure rfl rfl (v := .pointer (some ⟨g838, 1, none⟩)) (by decide) (by kernel_rfl) ?_
        exact pi_done rfl (Ext.refl _) rfl
      · -- 4
        intro v879 e880
        have hw22 : Ext w v879 := hw21.trans e880
        refine deps_cons rfl rfl fun x881 y882 h883 e884 f885 => ?_
        obtain rfl := h883
        refine deps_cons rfl rfl fun x886 y887 h888 e889 f890 => ?_
        obtain rfl := h888
        refine deps_nil ?_
        refine wl_load rfl rfl (load_cell cellWords (hb846.ext e880) rfl) (by decide) ?_
        exact pi_done rfl (Ext.refl _) rfl
      · -- 5
        intro v891 e892
        have hw22 : Ext w v891 := hw21.trans e892
        refine deps_cons rfl rfl fun x893 y894 h895 e896 f897 => ?_
        obtain rfl := h895
        refine deps_cons rfl rfl fun x898 y899 h900 e901 f902 => ?_
        obtain rfl := h900
        refine deps_nil ?_
        refine wl_pure rfl rfl (v := .int .i64 ((n837 : Nat) : Int)) (by decide) (by kernel_rfl) ?_
        exact pi_done rfl (Ext.refl _) rfl
      · -- 6
        intro v903 e904
        have hw22 : Ext w v903 := hw21.trans e904
        refine deps_cons rfl rfl fun x905 y906 h907 e908 f909 => ?_
        obtain rfl := h907
        refine deps_cons rfl rfl fun x910 y911 h912 e913 f914 => ?_
        obtain rfl := h912
        refine deps_nil ?_
        refine wl_cmp rfl rfl rfl false (ne_f (by rw [hlen]; rfl)) (by decide) ?_
        exact pi_done rfl (Ext.refl _) rfl
      · -- 7
        intro v915 e916
        have hw22 : Ext w v915 := hw21.trans e916
        refine deps_cons rfl rfl fun x917 y918 h919 e920 f921 => ?_
        obtain rfl := h919
        refine deps_cons rfl rfl fun x922 y923 h924 e925 f926 => ?_
        obtain rfl := h924
        refine deps_nil ?_
        refine wl_pure rfl rfl (v := .bool false) (by decide) (by kernel_rfl) ?_
        exact pi_done rfl (Ext.refl _) rfl
      · -- 8
        intro v927 e928
        have hw22 : Ext w v927 := hw21.trans e928
        refine deps_cons rfl rfl fun x929 y930 h931 e932 f933 => ?_
        obtain rfl := h931
        refine deps_nil ?_
        refine wl_move rfl rfl (by decide) ?_
        exact pi_done rfl (Ext.refl _) rfl
      · -- 9
        intro v934 e935
        have hw22 : Ext w v934 := hw21.trans e935
        refine deps_cons rfl rfl fun x936 y937 h938 e939 f940 => ?_
        obtain rfl := h938
        refine deps_nil ?_
        refine wl_load rfl rfl (load_agg aggInt (((hb830.ext (e835.trans e840)).updN u847 (by omega)).ext e935) [.bool s821, .slice A821 n821 c821] rfl (Nat.le_of_ble_eq_true rfl) rfl) (by decide) ?_
        exact pi_done rfl (Ext.refl _) rfl
      · -- 10
        intro v941 e942
        have hw22 : Ext w v941 := hw21.trans e942
        refine deps_cons rfl rfl fun x943 y944 h945 e946 f947 => ?_
        obtain rfl := h945
        refine deps_cons rfl rfl fun x948 y949 h950 e951 f952 => ?_
        obtain rfl := h950
        refine deps_nil ?_
        have L953 : ln (-(-x)) ≤ 1048576 := (by rw [ln_neg]; exact L817)
        refine wl_call rfl rfl (vs := [.agg #[.bool s821, .slice A821 n821 c821]]) (by kernel_rfl) (by decide) (g_zint_Neg hw22.size (((((z821.ext e824).updT hb829 u831).ext (e835.trans e840)).updT hb845 u847).ext e942).zi (z821.le (Nat.le_trans L817 (by decide)))) ?_
        rintro _ v954 ⟨xr956, rfl, r956, e955⟩
        refine ret_intro ?_
        have hw23 : Ext w v954 := hw22.trans e955
        obtain ⟨s957, A957, n957, c957, rfl, z957⟩ := r956
        exact pi_done rfl e955 ⟨_, _, _, _, rfl, z957⟩
      · -- 11
        intro v958 e959
        have hw22 : Ext w v958 := hw21.trans e959
        refine deps_cons rfl rfl fun x960 y961 h962 e963 f964 => ?_
        obtain rfl := h962
        refine deps_nil ?_
        refine wl_load rfl rfl (load_agg aggInt (((((((((((hb4.ext (e8.trans (e14.trans (e19.trans (e23.trans e28))))).updN u35 (by omega)).ext (e39.trans e44)).updN u51 (by omega)).ext (e55.trans e60)).updN u67 (by omega)).ext (e376.trans (e722.trans (e819.trans e824)))).updN u831 (by omega)).ext (e835.trans e840)).updN u847 (by omega)).ext e959) [.bool sa, .slice Aa na ca] rfl (Nat.le_of_ble_eq_true rfl) rfl) (by decide) ?_
        exact pi_done rfl (Ext.refl _) rfl
      · -- 12
        intro v965 e966
        have hw22 : Ext w v965 := hw21.trans e966
        refine deps_cons rfl rfl fun x967 y968 h969 e970 f971 => ?_
        obtain rfl := h969
        refine deps_cons rfl rfl fun x972 y973 h974 e975 f976 => ?_
        obtain rfl := h974
        refine deps_nil ?_
        refine wl_call rfl rfl (vs := [.agg #[.bool sa, .slice Aa na ca]]) (by kernel_rfl) (by decide) (g_zint_Least hw22.size (hx.ext hw22) (Nat.le_trans la (by decide))) ?_
        rintro _ v977 ⟨xr979, rfl, r979, e978⟩
        refine ret_intro ?_
        have hw23 : Ext w v977 := hw22.trans e978
        obtain ⟨s980, A980, n980, c980, rfl, z980⟩ := r979
        exact pi_done rfl e978 ⟨_, _, _, _, rfl, z980⟩
      · -- 13
        intro v981 e982
        have hw22 : Ext w v981 := hw21.trans e982
        refine deps_cons rfl rfl fun x983 y984 h985 e986 f987 => ?_
        obtain rfl := h985
        refine deps_cons rfl rfl fun x988 y989 h990 e991 f992 => ?_
        obtain ⟨s993, A993, n993, c993, rfl, z993⟩ := h990
        have z993 := z993.ext f992
        refine deps_cons rfl rfl fun x994 y995 h996 e997 f998 => ?_
        obtain ⟨s999, A999, n999, c999, rfl, z999⟩ := h996
        have z999 := z999.ext f998
        refine deps_nil ?_
        refine wl_call rfl rfl (vs := [.agg #[.bool s993, .slice A993 n993 c993], .agg #[.bool s999, .slice A999 n999 c999]]) (by kernel_rfl) (by decide) (g_law5_alike z993 (z993.le (Nat.le_trans L849 (by decide))) (z999.cast (by grind)) (z999.le (Nat.le_trans Lx (by decide)))) ?_
        rintro _ v1000 ⟨xr1002, rfl, r1002, e1001⟩
        refine ret_intro ?_
        have hw23 : Ext w v1000 := hw22.trans e1001
        obtain rfl := r1002
        exact pi_done rfl e1001 rfl
      · -- 14
        intro v1003 e1004
        have hw22 : Ext w v1003 := hw21.trans e1004
        refine deps_cons rfl rfl fun x1005 y1006 h1007 e1008 f1009 => ?_
        obtain rfl := h1007
        refine deps_cons rfl rfl fun x1010 y1011 h1012 e1013 f1014 => ?_
        obtain rfl := h1012
        refine deps_nil ?_
        refine wl_pure rfl rfl (v := .bool false) (by decide) (by kernel_rfl) ?_
        exact pi_done rfl (Ext.refl _) rfl
      · -- 15
        intro v1015 e1016
        have hw22 : Ext w v1015 := hw21.trans e1016
        refine deps_cons rfl rfl fun x1017 y1018 h1019 e1020 f1021 => ?_
        obtain rfl := h1019
        refine deps_cons rfl rfl fun x1022 y1023 h1024 e1025 f1026 => ?_
        obtain rfl := h1024
        refine deps_nil ?_
        refine wl_pure rfl rfl (v := .bool false) (by decide) (by kernel_rfl) ?_
        exact pi_done rfl (Ext.refl _) rfl
      · -- 16
        intro v1027 e1028
        have hw22 : Ext w v1027 := hw21.trans e1028
        refine deps_cons rfl rfl fun x1029 y1030 h1031 e1032 f1033 => ?_
        obtain rfl := h1031
        refine deps_nil ?_
        refine wl_move rfl rfl (by decide) ?_
        exact pi_done rfl (Ext.refl _) rfl
      · -- 17
        intro v1034 e1035
        have hw22 : Ext w v1034 := hw21.trans e1035
        refine deps_cons rfl rfl fun x1036 y1037 h1038 e1039 f1040 => ?_
        obtain rfl := h1038
        refine deps_nil ?_
        refine wl_load rfl rfl (load_agg aggInt (((hb830.ext (e835.trans e840)).updN u847 (by omega)).ext e1035) [.bool s821, .slice A821 n821 c821] rfl (Nat.le_of_ble_eq_true rfl) rfl) (by decide) ?_
        exact pi_done rfl (Ext.refl _) rfl
      · -- 18
        intro v1041 e1042
        have hw22 : Ext w v1041 := hw21.trans e1042
        refine deps_cons rfl rfl fun x1043 y1044 h1045 e1046 f1047 => ?_
        obtain rfl := h1045
        refine deps_nil ?_
        refine wl_load rfl rfl (load_agg aggInt (((((((((((hb9.ext (e14.trans (e19.trans (e23.trans e28)))).updN u35 (by omega)).ext (e39.trans e44)).updN u51 (by omega)).ext (e55.trans e60)).updN u67 (by omega)).ext (e376.trans (e722.trans (e819.trans e824)))).updN u831 (by omega)).ext (e835.trans e840)).updN u847 (by omega)).ext e1042) [.bool sb, .slice Ab nb cb] rfl (Nat.le_of_ble_eq_true rfl) rfl) (by decide) ?_
        exact pi_done rfl (Ext.refl _) rfl
      · -- 19
        intro v1048 e1049
        have hw22 : Ext w v1048 := hw21.trans e1049
        refine deps_cons rfl rfl fun x1050 y1051 h1052 e1053 f1054 => ?_
        obtain rfl := h1052
        refine deps_cons rfl rfl fun x1055 y1056 h1057 e1058 f1059 => ?_
        obtain rfl := h1057
        refine deps_cons rfl rfl fun x1060 y1061 h1062 e1063 f1064 => ?_
        obtain rfl := h1062
        refine deps_nil ?_
        have L1065 : ln ((-x) * y) ≤ 2097152 := Nat.le_trans (ln_mul L817 Ly) (by decide)
        refine wl_call rfl rfl (vs := [.agg #[.bool s821, .slice A821 n821 c821], .agg #[.bool sb, .slice Ab nb cb]]) (by kernel_rfl) (by decide) (g_zint_Mul hw22.size (((((z821.ext e824).updT hb829 u831).ext (e835.trans e840)).updT hb845 u847).ext e1049).zi (z821.le (Nat.le_trans L817 (by decide))) (hy.ext hw22) (Nat.le_trans lb (by decide))) ?_
        rintro _ v1066 ⟨xr1068, rfl, r1068, e1067⟩
        refine ret_intro ?_
        have hw23 : Ext w v1066 := hw22.trans e1067
        obtain ⟨s1069, A1069, n1069, c1069, rfl, z1069⟩ := r1068
        exact pi_done rfl e1067 ⟨_, _, _, _, rfl, z1069⟩
      · -- 20
        intro v1070 e1071
        have hw22 : Ext w v1070 := hw21.trans e1071
        refine deps_cons rfl rfl fun x1072 y1073 h1074 e1075 f1076 => ?_
        obtain rfl := h1074
        refine deps_nil ?_
        refine wl_load rfl rfl (load_agg aggInt (((((((((hb34.ext (e39.trans e44)).updN u51 (by omega)).ext (e55.trans e60)).updN u67 (by omega)).ext (e376.trans (e722.trans (e819.trans e824)))).updN u831 (by omega)).ext (e835.trans e840)).updN u847 (by omega)).ext e1071) [.bool s25, .slice A25 n25 c25] rfl (Nat.le_of_ble_eq_true rfl) rfl) (by decide) ?_
        exact pi_done rfl (Ext.refl _) rfl
      · -- 21
        intro v1077 e1078
        have hw22 : Ext w v1077 := hw21.trans e1078
        refine deps_cons rfl rfl fun x1079 y1080 h1081 e1082 f1083 => ?_
        obtain rfl := h1081
        refine deps_cons rfl rfl fun x1084 y1085 h1086 e1087 f1088 => ?_
        obtain rfl := h1086
        refine deps_nil ?_
        have L1089 : ln (-(x * y)) ≤ 2097152 := (by rw [ln_neg]; exact L21)
        refine wl_call rfl rfl (vs := [.agg #[.bool s25, .slice A25 n25 c25]]) (by kernel_rfl) (by decide) (g_zint_Neg hw22.size (((((((((((z25.ext e28).updT hb33 u35).ext (e39.trans e44)).updT hb49 u51).ext (e55.trans e60)).updT hb65 u67).ext (e376.trans (e722.trans (e819.trans e824)))).updT hb829 u831).ext (e835.trans e840)).updT hb845 u847).ext e1078).zi (z25.le (Nat.le_trans L21 (by decide)))) ?_
        rintro _ v1090 ⟨xr1092, rfl, r1092, e1091⟩
        refine ret_intro ?_
        have hw23 : Ext w v1090 := hw22.trans e1091
        obtain ⟨s1093, A1093, n1093, c1093, rfl, z1093⟩ := r1092
        exact pi_done rfl e1091 ⟨_, _, _, _, rfl, z1093⟩
      · -- 22
        intro v1094 e1095
        have hw22 : Ext w v1094 := hw21.trans e1095
        refine deps_cons rfl rfl fun x1096 y1097 h1098 e1099 f1100 => ?_
        obtain rfl := h1098
        refine deps_cons rfl rfl fun x1101 y1102 h1103 e1104 f1105 => ?_
        obtain ⟨s1106, A1106, n1106, c1106, rfl, z1106⟩ := h1103
        have z1106 := z1106.ext f1105
        refine deps_cons rfl rfl fun x1107 y1108 h1109 e1110 f1111 => ?_
        obtain ⟨s1112, A1112, n1112, c1112, rfl, z1112⟩ := h1109
        have z1112 := z1112.ext f1111
        refine deps_nil ?_
        refine wl_call rfl rfl (vs := [.agg #[.bool s1106, .slice A1106 n1106 c1106], .agg #[.bool s1112, .slice A1112 n1112 c1112]]) (by kernel_rfl) (by decide) (g_law5_alike z1106 (z1106.le (Nat.le_trans L852 (by decide))) (z1112.cast (by grind)) (z1112.le (Nat.le_trans L854 (by decide)))) ?_
        rintro _ v1113 ⟨xr1115, rfl, r1115, e1114⟩
        refine ret_intro ?_
        have hw23 : Ext w v1113 := hw22.trans e1114
        obtain rfl := r1115
        exact pi_done rfl e1114 rfl
      · -- 23
        intro v1116 e1117
        have hw22 : Ext w v1116 := hw21.trans e1117
        refine deps_cons rfl rfl fun x1118 y1119 h1120 e1121 f1122 => ?_
        obtain rfl := h1120
        refine deps_cons rfl rfl fun x1123 y1124 h1125 e1126 f1127 => ?_
        obtain rfl := h1125
        refine deps_nil ?_
        refine wl_pure rfl rfl (v := .bool false) (by decide) (by kernel_rfl) ?_
        exact pi_done rfl (Ext.refl _) rfl
      · -- 24
        intro v1128 e1129
        have hw22 : Ext w v1128 := hw21.trans e1129
        refine deps_cons rfl rfl fun x1130 y1131 h1132 e1133 f1134 => ?_
        obtain rfl := h1132
        refine deps_cons rfl rfl fun x1135 y1136 h1137 e1138 f1139 => ?_
        obtain rfl := h1137
        refine deps_nil ?_
        refine wl_pure rfl rfl (v := .bool false) (by decide) (by kernel_rfl) ?_
        exact pi_done rfl (Ext.refl _) rfl
      · -- all
        intro v1140 e1141
        have hw22 : Ext w v1140 := hw21.trans e1141
        refine deps_cons rfl rfl fun x1142 y1143 h1144 e1145 f1146 => ?_
        obtain rfl := h1144
        refine deps_cons rfl rfl fun x1147 y1148 h1149 e1150 f1151 => ?_
        obtain rfl := h1149
        refine deps_cons rfl rfl fun x1152 y1153 h1154 e1155 f1156 => ?_
        obtain rfl := h1154
        refine deps_cons rfl rfl fun x1157 y1158 h1159 e1160 f1161 => ?_
        obtain rfl := h1159
        refine deps_cons rfl rfl fun x1162 y1163 h1164 e1165 f1166 => ?_
        obtain rfl := h1164
        refine deps_cons rfl rfl fun x1167 y1168 h1169 e1170 f1171 => ?_
        obtain rfl := h1169
        refine deps_cons rfl rfl fun x1172 y1173 h1174 e1175 f1176 => ?_
        obtain rfl := h1174
        refine deps_cons rfl rfl fun x1177 y1178 h1179 e1180 f1181 => ?_
        obtain rfl := h1179
        refine deps_cons rfl rfl fun x1182 y1183 h1184 e1185 f1186 => ?_
        obtain rfl := h1184
        refine deps_cons rfl rfl fun x1187 y1188 h1189 e1190 f1191 => ?_
        obtain rfl := h1189
        refine deps_cons rfl rfl fun x1192 y1193 h1194 e1195 f1196 => ?_
        obtain ⟨s1197, A1197, n1197, c1197, rfl, z1197⟩ := h1194
        have z1197 := z1197.ext f1196
        refine deps_cons rfl rfl fun x1198 y1199 h1200 e1201 f1202 => ?_
        obtain rfl := h1200
        refine deps_cons rfl rfl fun x1203 y1204 h1205 e1206 f1207 => ?_
        obtain ⟨s1208, A1208, n1208, c1208, rfl, z1208⟩ := h1205
        have z1208 := z1208.ext f1207
        refine deps_cons rfl rfl fun x1209 y1210 h1211 e1212 f1213 => ?_
        obtain rfl := h1211
        refine deps_cons rfl rfl fun x1214 y1215 h1216 e1217 f1218 => ?_
        obtain rfl := h1216
        refine deps_cons rfl rfl fun x1219 y1220 h1221 e1222 f1223 => ?_
        obtain rfl := h1221
        refine deps_cons rfl rfl fun x1224 y1225 h1226 e1227 f1228 => ?_
        obtain rfl := h1226
        refine deps_cons rfl rfl fun x1229 y1230 h1231 e1232 f1233 => ?_
        obtain rfl := h1231
        refine deps_cons rfl rfl fun x1234 y1235 h1236 e1237 f1238 => ?_
        obtain rfl := h1236
        refine deps_cons rfl rfl fun x1239 y1240 h1241 e1242 f1243 => ?_
        obtain ⟨s1244, A1244, n1244, c1244, rfl, z1244⟩ := h1241
        have z1244 := z1244.ext f1243
        refine deps_cons rfl rfl fun x1245 y1246 h1247 e1248 f1249 => ?_
        obtain rfl := h1247
        refine deps_cons rfl rfl fun x1250 y1251 h1252 e1253 f1254 => ?_
        obtain ⟨s1255, A1255, n1255, c1255, rfl, z1255⟩ := h1252
        have z1255 := z1255.ext f1254
        refine deps_cons rfl rfl fun x1256 y1257 h1258 e1259 f1260 => ?_
        obtain rfl := h1258
        refine deps_cons rfl rfl fun x1261 y1262 h1263 e1264 f1265 => ?_
        obtain rfl := h1263
        refine deps_cons rfl rfl fun x1266 y1267 h1268 e1269 f1270 => ?_
        obtain rfl := h1268
        refine deps_nil ?_
        refine wl_nil ?_
        refine eo_np ?_
        refine eo_then ?_
        refine cw_false rfl ?_
        refine cw_skip ?_
        refine eo_then ?_
        refine cw_seq ?_
        refine cw_region ?_
        refine wl_load rfl rfl (load_agg aggInt (((((((((((hb4.ext (e8.trans (e14.trans (e19.trans (e23.trans e28))))).updN u35 (by omega)).ext (e39.trans e44)).updN u51 (by omega)).ext (e55.trans e60)).updN u67 (by omega)).ext (e376.trans (e722.trans (e819.trans e824)))).updN u831 (by omega)).ext (e835.trans e840)).updN u847 (by omega)).ext e1141) [.bool sa, .slice Aa na ca] rfl (Nat.le_of_ble_eq_true rfl) rfl) (by decide) ?_
        refine wl_load rfl rfl (load_agg aggInt (((((((((((hb9.ext (e14.trans (e19.trans (e23.trans e28)))).updN u35 (by omega)).ext (e39.trans e44)).updN u51 (by omega)).ext (e55.trans e60)).updN u67 (by omega)).ext (e376.trans (e722.trans (e819.trans e824)))).updN u831 (by omega)).ext (e835.trans e840)).updN u847 (by omega)).ext e1141) [.bool sb, .slice Ab nb cb] rfl (Nat.le_of_ble_eq_true rfl) rfl) (by decide) ?_
        have L1271 : ln (x - y) ≤ 1048577 := Nat.le_trans (ln_sub Lx Ly) (by decide)
        refine wl_call rfl rfl (vs := [.agg #[.bool sa, .slice Aa na ca], .agg #[.bool sb, .slice Ab nb cb]]) (by kernel_rfl) (by decide) (g_zint_Sub hw22.size (hx.ext hw22) (Nat.le_trans la (by decide)) (hy.ext hw22) (Nat.le_trans lb (by decide))) ?_
        rintro _ v1272 ⟨xr1274, rfl, r1274, e1273⟩
        refine ret_intro ?_
        have hw23 : Ext w v1272 := hw22.trans e1273
        obtain ⟨s1275, A1275, n1275, c1275, rfl, z1275⟩ := r1274
        refine wl_alloc rfl (z := .agg #[.bool false, .slice none 0 0]) (vs := [.bool false, .slice none 0 0]) (fun _ => by kernel_rfl) rfl (by decide) fun g1276 v1277 nb => ?_
        have hb1279 := nb.bk
        have ge1280 : w.heap.size ≤ g1276 := by rw [← nb.at_]; exact hw23.size
        have q1281 : g838 < g1276 := by rw [← nb.at_]; exact (hb846.ext (e1141.trans e1273)).lt
        have e1278 := nb.ext
        clear nb
        have hw24 : Ext w v1277 := hw23.trans e1278
        have hb1283 := hb1279
        refine wl_stored rfl rfl rfl aggInt rfl hb1283 (Nat.le_of_ble_eq_true rfl) rfl [.bool s1275, .slice A1275 n1275 c1275] rfl fun v1282 hb1284 u1285 hs1286 => ?_
        have hw25 : Ext w v1282 := u1285.ext hw24 ge1280
        refine wl_nil ?_
        refine eo_then ?_
        refine cw_seq ?_
        refine cw_seq ?_
        have L1287 : ln (-y) ≤ 1048576 := (by rw [ln_neg]; exact Ly)
        have L1289 : ln (x + (-y)) ≤ 1048577 := Nat.le_trans (ln_add Lx L1287) (by decide)
        have L1291 : ln ((x - y) + y) ≤ 1048578 := Nat.le_trans (ln_add L1271 Ly) (by decide)
        refine cw_draw mix 16 [] [Is (.agg #[.bool s1275, .slice A1275 n1275 c1275]), Is (.agg #[.bool sa, .slice Aa na ca]), Is (.agg #[.bool sb, .slice Ab nb cb]), ZR w.heap.size (-y), ZR w.heap.size (x + (-y)), Is (.bool true), Is (.bool false), Is (.bool false), Is (.agg #[.bool s1275, .slice A1275 n1275 c1275]), Is (.agg #[.bool sb, .slice Ab nb cb]), ZR w.heap.size ((x - y) + y), Is (.agg #[.bool sa, .slice Aa na ca]), ZR w.heap.size (x), Is (.bool true), Is (.bool false), Is (.bool false)] [[], [], [], [2], [1, 3], [0, 4], [5], [6], [7], [7], [7, 8, 9], [7], [7, 11], [7, 10, 12], [7, 13], [7, 14]] [[], [], [], [2], [1, 2, 3], [0, 1, 2, 3, 4], [0, 1, 2, 3, 4, 5], [0, 1, 2, 3, 4, 5, 6], [0, 1, 2, 3, 4, 5, 6, 7], [0, 1, 2, 3, 4, 5, 6, 7], [0, 1, 2, 3, 4, 5, 6, 7, 8, 9], [0, 1, 2, 3, 4, 5, 6, 7], [0, 1, 2, 3, 4, 5, 6, 7, 8, 9, 10, 11], [0, 1, 2, 3, 4, 5, 6, 7, 8, 9, 10, 11, 12], [0, 1, 2, 3, 4, 5, 6, 7, 8, 9, 10, 11, 12, 13], [0, 1, 2, 3, 4, 5, 6, 7, 8, 9, 10, 11, 12, 13, 14]] rfl
          (obs_cons rfl rfl (hob rfl rfl ?_) (obs_cons rfl rfl (hob rfl rfl ?_) (obs_cons rfl rfl (hob rfl rfl ?_) (obs_cons rfl rfl (hob rfl rfl ?_) (obs_cons rfl rfl (hob rfl rfl ?_) (obs_cons rfl rfl (hob rfl rfl ?_) (obs_cons rfl rfl (hob rfl rfl ?_) (obs_cons rfl rfl (hob rfl rfl ?_) (obs_cons rfl rfl (hob rfl rfl ?_) (obs_cons rfl rfl (hob rfl rfl ?_) (obs_cons rfl rfl (hob rfl rfl ?_) (obs_cons rfl rfl (hob rfl rfl ?_) (obs_cons rfl rfl (hob rfl rfl ?_) (obs_cons rfl rfl (hob rfl rfl ?_) (obs_cons rfl rfl (hob rfl rfl ?_) (obs_cons rfl rfl (hob rfl rfl ?_) obs_nil)))))))))))))))) ?_
        · -- 0
          intro v1294 e1295
          have hw26 : Ext w v1294 := hw25.trans e1295
          refine deps_nil ?_
          refine wl_load rfl rfl (load_agg aggInt (hb1284.ext e1295) [.bool s1275, .slice A1275 n1275 c1275] rfl (Nat.le_of_ble_eq_true rfl) rfl) (by decide) ?_
          exact pi_done rfl (Ext.refl _) rfl
        · -- 1
          intro v1296 e1297
          have hw26 : Ext w v1296 := hw25.trans e1297
          refine deps_nil ?_
          refine wl_load rfl rfl (load_agg aggInt (((((((((((((hb4.ext (e8.trans (e14.trans (e19.trans (e23.trans e28))))).updN u35 (by omega)).ext (e39.trans e44)).updN u51 (by omega)).ext (e55.trans e60)).updN u67 (by omega)).ext (e376.trans (e722.trans (e819.trans e824)))).updN u831 (by omega)).ext (e835.trans e840)).updN u847 (by omega)).ext (e1141.trans (e1273.trans e1278))).updN u1285 (by omega)).ext e1297) [.bool sa, .slice Aa na ca] rfl (Nat.le_of_ble_eq_true rfl) rfl) (by decide) ?_
          exact pi_done rfl (Ext.refl _) rfl
        · -- 2
          intro v1298 e1299
          have hw26 : Ext w v1298 := hw25.trans e1299
          refine deps_nil ?_
          refine wl_load rfl rfl (load_agg aggInt (((((((((((((hb9.ext (e14.trans (e19.trans (e23.trans e28)))).updN u35 (by omega)).ext (e39.trans e44)).updN u51 (by omega)).ext (e55.trans e60)).updN u67 (by omega)).ext (e376.trans (e722.trans (e819.trans e824)))).updN u831 (by omega)).ext (e835.trans e840)).updN u847 (by omega)).ext (e1141.trans (e1273.trans e1278))).updN u1285 (by omega)).ext e1299) [.bool sb, .slice Ab nb cb] rfl (Nat.le_of_ble_eq_true rfl) rfl) (by decide) ?_
          exact pi_done rfl (Ext.refl _) rfl
        · -- 3
          intro v1300 e1301
          have hw26 : Ext w v1300 := hw25.trans e1301
          refine deps_cons rfl rfl fun x1302 y1303 h1304 e1305 f1306 => ?_
          obtain rfl := h1304
          refine deps_nil ?_
          have L1307 : ln (-y) ≤ 1048576 := (by rw [ln_neg]; exact Ly)
          refine wl_call rfl rfl (vs := [.agg #[.bool sb, .slice Ab nb cb]]) (by kernel_rfl) (by decide) (g_zint_Neg hw26.size (hy.ext hw26) (Nat.le_trans lb (by decide))) ?_
          rintro _ v1308 ⟨xr1310, rfl, r1310, e1309⟩
          refine ret_intro ?_
          have hw27 : Ext w v1308 := hw26.trans e1309
          obtain ⟨s1311, A1311, n1311, c1311, rfl, z1311⟩ := r1310
          exact pi_done rfl e1309 ⟨_, _, _, _, rfl, z1311⟩
        · -- 4
          intro v1312 e1313
          have hw26 : Ext w v1312 := hw25.trans e1313
          refine deps_cons rfl rfl fun x1314 y1315 h1316 e1317 f1318 => ?_
          obtain rfl := h1316
          refine deps_cons rfl rfl fun x1319 y1320 h1321 e1322 f1323 => ?_
          obtain ⟨s1324, A1324, n1324, c1324, rfl, z1324⟩ := h1321
          have z1324 := z1324.ext f1323
          refine deps_nil ?_
          have L1325 : ln (x + (-y)) ≤ 1048577 := Nat.le_trans (ln_add Lx L1287) (by decide)
          refine wl_call rfl rfl (vs := [.agg #[.bool sa, .slice Aa na ca], .agg #[.bool s1324, .slice A1324 n1324 c1324]]) (by kernel_rfl) (by decide) (g_zint_Add hw26.size (hx.ext hw26) (Nat.le_trans la (by decide)) z1324.zi (z1324.le (Nat.le_trans L1287 (by decide)))) ?_
          rintro _ v1326 ⟨xr1328, rfl, r1328, e1327⟩
          refine ret_intro ?_
          have hw27 : Ext w v1326 := hw26.trans e1327
          obtain ⟨s1329, A1329, n1329, c1329, rfl, z1329⟩ := r1328
          exact pi_done rfl e1327 ⟨_, _, _, _, rfl, z1329⟩
        · -- 5
          intro v1330 e1331
          have hw26 : Ext w v1330 := hw25.trans e1331
          refine deps_cons rfl rfl fun x1332 y1333 h1334 e1335 f1336 => ?_
          obtain rfl := h1334
          refine deps_cons rfl rfl fun x1337 y1338 h1339 e1340 f1341 => ?_
          obtain ⟨s1342, A1342, n1342, c1342, rfl, z1342⟩ := h1339
          have z1342 := z1342.ext f1341
          refine deps_nil ?_
          refine wl_call rfl rfl (vs := [.agg #[.bool s1275, .slice A1275 n1275 c1275], .agg #[.bool s1342, .slice A1342 n1342 c1342]]) (by kernel_rfl) (by decide) (g_law5_alike (((z1275.ext e1278).updT hb1283 u1285).ext e1331) (z1275.le (Nat.le_trans L1271 (by decide))) (z1342.cast (by grind)) (z1342.le (Nat.le_trans L1289 (by decide)))) ?_
          rintro _ v1343 ⟨xr1345, rfl, r1345, e1344⟩
          refine ret_intro ?_
          have hw27 : Ext w v1343 := hw26.trans e1344
          obtain rfl := r1345
          exact pi_done rfl e1344 rfl
        · -- 6
          intro v1346 e1347
          have hw26 : Ext w v1346 := hw25.trans e1347
          refine deps_cons rfl rfl fun x1348 y1349 h1350 e1351 f1352 => ?_
          obtain rfl := h1350
          refine deps_nil ?_
          refine wl_pure rfl rfl (v := .bool false) (by decide) (by kernel_rfl) ?_
          exact pi_done rfl (Ext.refl _) rfl
        · -- 7
          intro v1353 e1354
          have hw26 : Ext w v1353 := hw25.trans e1354
          refine deps_cons rfl rfl fun x1355 y1356 h1357 e1358 f1359 => ?_
          obtain rfl := h1357
          refine deps_nil ?_
          refine wl_move rfl rfl (by decide) ?_
          exact pi_done rfl (Ext.refl _) rfl
        · -- 8
          intro v1360 e1361
          have hw26 : Ext w v1360 := hw25.trans e1361
          refine deps_cons rfl rfl fun x1362 y1363 h1364 e1365 f1366 => ?_
          obtain rfl := h1364
          refine deps_nil ?_
          refine wl_load rfl rfl (load_agg aggInt (hb1284.ext e1361) [.bool s1275, .slice A1275 n1275 c1275] rfl (Nat.le_of_ble_eq_true rfl) rfl) (by decide) ?_
          exact pi_done rfl (Ext.refl _) rfl
        · -- 9
          intro v1367 e1368
          have hw26 : Ext w v1367 := hw25.trans e1368
          refine deps_cons rfl rfl fun x1369 y1370 h1371 e1372 f1373 => ?_
          obtain rfl := h1371
          refine deps_nil ?_
          refine wl_load rfl rfl (load_agg aggInt (((((((((((((hb9.ext (e14.trans (e19.trans (e23.trans e28)))).updN u35 (by omega)).ext (e39.trans e44)).updN u51 (by omega)).ext (e55.trans e60)).updN u67 (by omega)).ext (e376.trans (e722.trans (e819.trans e824)))).updN u831 (by omega)).ext (e835.trans e840)).updN u847 (by omega)).ext (e1141.trans (e1273.trans e1278))).updN u1285 (by omega)).ext e1368) [.bool sb, .slice Ab nb cb] rfl (Nat.le_of_ble_eq_true rfl) rfl) (by decide) ?_
          exact pi_done rfl (Ext.refl _) rfl
        · -- 10
          intro v1374 e1375
          have hw26 : Ext w v1374 := hw25.trans e1375
          refine deps_cons rfl rfl fun x1376 y1377 h1378 e1379 f1380 => ?_
          obtain rfl := h1378
          refine deps_cons rfl rfl fun x1381 y1382 h1383 e1384 f1385 => ?_
          obtain rfl := h1383
          refine deps_cons rfl rfl fun x1386 y1387 h1388 e1389 f1390 => ?_
          obtain rfl := h1388
          refine deps_nil ?_
          have L1391 : ln ((x - y) + y) ≤ 1048578 := Nat.le_trans (ln_add L1271 Ly) (by decide)
          refine wl_call rfl rfl (vs := [.agg #[.bool s1275, .slice A1275 n1275 c1275], .agg #[.bool sb, .slice Ab nb cb]]) (by kernel_rfl) (by decide) (g_zint_Add hw26.size (((z1275.ext e1278).updT hb1283 u1285).ext e1375).zi (z1275.le (Nat.le_trans L1271 (by decide))) (hy.ext hw26) (Nat.le_trans lb (by decide))) ?_
          rintro _ v1392 ⟨xr1394, rfl, r1394, e1393⟩
          refine ret_intro ?_
          have hw27 : Ext w v1392 := hw26.trans e1393
          obtain ⟨s1395, A1395, n1395, c1395, rfl, z1395⟩ := r1394
          exact pi_done rfl e1393 ⟨_, _, _, _, rfl, z1395⟩
        · -- 11
          intro v1396 e1397
          have hw26 : Ext w v1396 := hw25.trans e1397
          refine deps_cons rfl rfl fun x1398 y1399 h1400 e1401 f1402 => ?_
          obtain rfl := h1400
          refine deps_nil ?_
          refine wl_load rfl rfl (load_agg aggInt (((((((((((((hb4.ext (e8.trans (e14.trans (e19.trans (e23.trans e28))))).updN u35 (by omega)).ext (e39.trans e44)).updN u51 (by omega)).ext (e55.trans e60)).updN u67 (by omega)).ext (e376.trans (e722.trans (e819.trans e824)))).updN u831 (by omega)).ext (e835.trans e840)).updN u847 (by omega)).ext (e1141.trans (e1273.trans e1278))).updN u1285 (by omega)).ext e1397) [.bool sa, .slice Aa na ca] rfl (Nat.le_of_ble_eq_true rfl) rfl) (by decide) ?_
          exact pi_done rfl (Ext.refl _) rfl
        · -- 12
          intro v1403 e1404
          have hw26 : Ext w v1403 := hw25.trans e1404
          refine deps_cons rfl rfl fun x1405 y1406 h1407 e1408 f1409 => ?_
          obtain rfl := h1407
          refine deps_cons rfl rfl fun x1410 y1411 h1412 e1413 f1414 => ?_
          obtain rfl := h1412
          refine deps_nil ?_
          refine wl_call rfl rfl (vs := [.agg #[.bool sa, .slice Aa na ca]]) (by kernel_rfl) (by decide) (g_zint_Least hw26.size (hx.ext hw26) (Nat.le_trans la (by decide))) ?_
          rintro _ v1415 ⟨xr1417, rfl, r1417, e1416⟩
          refine ret_intro ?_
          have hw27 : Ext w v1415 := hw26.trans e1416
          obtain ⟨s1418, A1418, n1418, c1418, rfl, z1418⟩ := r1417
          exact pi_done rfl e1416 ⟨_, _, _, _, rfl, z1418⟩
        · -- 13
          intro v1419 e1420
          have hw26 : Ext w v1419 := hw25.trans e1420
          refine deps_cons rfl rfl fun x1421 y1422 h1423 e1424 f1425 => ?_
          obtain rfl := h1423
          refine deps_cons rfl rfl fun x1426 y1427 h1428 e1429 f1430 => ?_
          obtain ⟨s1431, A1431, n1431, c1431, rfl, z1431⟩ := h1428
          have z1431 := z1431.ext f1430
          refine deps_cons rfl rfl fun x1432 y1433 h1434 e1435 f1436 => ?_
          obtain ⟨s1437, A1437, n1437, c1437, rfl, z1437⟩ := h1434
          have z1437 := z1437.ext f1436
          refine deps_nil ?_
          refine wl_call rfl rfl (vs := [.agg #[.bool s1431, .slice A1431 n1431 c1431], .agg #[.bool s1437, .slice A1437 n1437 c1437]]) (by kernel_rfl) (by decide) (g_law5_alike z1431 (z1431.le (Nat.le_trans L1291 (by decide))) (z1437.cast (by grind)) (z1437.le (Nat.le_trans Lx (by decide)))) ?_
          rintro _ v1438 ⟨xr1440, rfl, r1440, e1439⟩
          refine ret_intro ?_
          have hw27 : Ext w v1438 := hw26.trans e1439
          obtain rfl := r1440
          exact pi_done rfl e1439 rfl
        · -- 14
          intro v1441 e1442
          have hw26 : Ext w v1441 := hw25.trans e1442
          refine deps_cons rfl rfl fun x1443 y1444 h1445 e1446 f1447 => ?_
          obtain rfl := h1445
          refine deps_cons rfl rfl fun x1448 y1449 h1450 e1451 f1452 => ?_
          obtain rfl := h1450
          refine deps_nil ?_
          refine wl_pure rfl rfl (v := .bool false) (by decide) (by kernel_rfl) ?_
          exact pi_done rfl (Ext.refl _) rfl
        · -- 15
          intro v1453 e1454
          have hw26 : Ext w v1453 := hw25.trans e1454
          refine deps_cons rfl rfl fun x1455 y1456 h1457 e1458 f1459 => ?_
          obtain rfl := h1457
          refine deps_cons rfl rfl fun x1460 y1461 h1462 e1463 f1464 => ?_
          obtain rfl := h1462
          refine deps_nil ?_
          refine wl_pure rfl rfl (v := .bool false) (by decide) (by kernel_rfl) ?_
          exact pi_done rfl (Ext.refl _) rfl
        · -- all
          intro v1465 e1466
          have hw26 : Ext w v1465 := hw25.trans e1466
          refine deps_cons rfl rfl fun x1467 y1468 h1469 e1470 f1471 => ?_
          obtain rfl := h1469
          refine deps_cons rfl rfl fun x1472 y1473 h1474 e1475 f1476 => ?_
          obtain rfl := h1474
          refine deps_cons rfl rfl fun x1477 y1478 h1479 e1480 f1481 => ?_
          obtain rfl := h1479
          refine deps_cons rfl rfl fun x1482 y1483 h1484 e1485 f1486 => ?_
          obtain ⟨s1487, A1487, n1487, c1487, rfl, z1487⟩ := h1484
          have z1487 := z1487.ext f1486
          refine deps_cons rfl rfl fun x1488 y1489 h1490 e1491 f1492 => ?_
          obtain ⟨s1493, A1493, n1493, c1493, rfl, z1493⟩ := h1490
          have z1493 := z1493.ext f1492
          refine deps_cons rfl rfl fun x1494 y1495 h1496 e1497 f1498 => ?_
          obtain rfl := h1496
          refine deps_cons rfl rfl fun x1499 y1500 h1501 e1502 f1503 => ?_
          obtain rfl := h1501
          refine deps_cons rfl rfl fun x1504 y1505 h1506 e1507 f1508 => ?_
          obtain rfl := h1506
          refine deps_cons rfl rfl fun x1509 y1510 h1511 e1512 f1513 => ?_
          obtain rfl := h1511
          refine deps_cons rfl rfl fun x1514 y1515 h1516 e1517 f1518 => ?_
          obtain rfl := h1516
          refine deps_cons rfl rfl fun x1519 y1520 h1521 e1522 f1523 => ?_
          obtain ⟨s1524, A1524, n1524, c1524, rfl, z1524⟩ := h1521
          have z1524 := z1524.ext f1523
          refine deps_cons rfl rfl fun x1525 y1526 h1527 e1528 f1529 => ?_
          obtain rfl := h1527
          refine deps_cons rfl rfl fun x1530 y1531 h1532 e1533 f1534 => ?_
          obtain ⟨s1535, A1535, n1535, c1535, rfl, z1535⟩ := h1532
          have z1535 := z1535.ext f1534
          refine deps_cons rfl rfl fun x1536 y1537 h1538 e1539 f1540 => ?_
          obtain rfl := h1538
          refine deps_cons rfl rfl fun x1541 y1542 h1543 e1544 f1545 => ?_
          obtain rfl := h1543
          refine deps_cons rfl rfl fun x1546 y1547 h1548 e1549 f1550 => ?_
          obtain rfl := h1548
          refine deps_nil ?_
          refine wl_nil ?_
          refine eo_np ?_
          refine eo_then ?_
          refine cw_false rfl ?_
          refine cw_skip ?_
          refine eo_then ?_
          refine cw_seq ?_
          have L1551 : ln (x * y + z) ≤ 2097153 := Nat.le_trans (ln_add (ln_mul Lx Ly) Lz) (by decide)
          have L1553 : ln ((x * y) + z) ≤ 2097153 := Nat.le_trans (ln_add L21 Lz) (by decide)
          have L1556 : ln (0 + x + y + z) ≤ 1048579 := Nat.le_trans (ln_add (ln_add (ln_add (show ln 0 ≤ 0 by decide) Lx) Ly) Lz) (by decide)
          have L1558 : ln (x + (y + z)) ≤ 1048578 := Nat.le_trans (ln_add Lx L53) (by decide)
          have L1561 : ln (x * 1) ≤ 1048577 := Nat.le_trans (ln_mul Lx (show ln (1) ≤ 1 by decide +kernel)) (by decide)
          refine cw_draw mix 27 [] [Is (.agg #[.bool sa, .slice Aa na ca]), Is (.agg #[.bool sb, .slice Ab nb cb]), Is (.agg #[.bool sf, .slice Af nf cf]), ZR w.heap.size (x * y + z), Is (.agg #[.bool s25, .slice A25 n25 c25]), Is (.agg #[.bool sf, .slice Af nf cf]), ZR w.heap.size ((x * y) + z), Is (.bool true), Is (.bool true), Is (.agg #[.bool sa, .slice Aa na ca]), Is (.agg #[.bool sb, .slice Ab nb cb]), Is (.agg #[.bool sf, .slice Af nf cf]), fun v' w' => ∃ g, v' = .slice (some ⟨g, 0, none⟩) 3 3 ∧ Bk w' g 24 [.bool sa, .slice Aa na ca, .bool sb, .slice Ab nb cb, .bool sf, .slice Af nf cf], ZR w.heap.size (0 + x + y + z), Is (.agg #[.bool sa, .slice Aa na ca]), Is (.agg #[.bool s57, .slice A57 n57 c57]), ZR w.heap.size (x + (y + z)), Is (.bool true), Is (.bool true), Is (.bool true), Is (.agg #[.bool sa, .slice Aa na ca]), ZR w.heap.size (1), ZR w.heap.size (x * 1), Is (.agg #[.bool sa, .slice Aa na ca]), ZR w.heap.size (x), Is (.bool true), Is (.bool true)] [[], [], [], [0, 1, 2], [], [], [4, 5], [3, 6], [7], [8], [8], [8], [8, 9, 10, 11], [8, 12], [8], [8], [8, 14, 15], [8, 13, 16], [8, 17], [18], [19], [19], [19, 20, 21], [19], [19, 23], [19, 22, 24], [19, 25]] [[], [], [], [0, 1, 2], [], [], [0, 1, 2, 3, 4, 5], [0, 1, 2, 3, 4, 5, 6], [0, 1, 2, 3, 4, 5, 6, 7], [0, 1, 2, 3, 4, 5, 6, 7, 8], [0, 1, 2, 3, 4, 5, 6, 7, 8], [0, 1, 2, 3, 4, 5, 6, 7, 8], [0, 1, 2, 3, 4, 5, 6, 7, 8, 9, 10, 11], [0, 1, 2, 3, 4, 5, 6, 7, 8, 9, 10, 11, 12], [0, 1, 2, 3, 4, 5, 6, 7, 8], [0, 1, 2, 3, 4, 5, 6, 7, 8], [0, 1, 2, 3, 4, 5, 6, 7, 8, 9, 10, 11, 12, 13, 14, 15], [0, 1, 2, 3, 4, 5, 6, 7, 8, 9, 10, 11, 12, 13, 14, 15, 16], [0, 1, 2, 3, 4, 5, 6, 7, 8, 9, 10, 11, 12, 13, 14, 15, 16, 17], [0, 1, 2, 3, 4, 5, 6, 7, 8, 9, 10, 11, 12, 13, 14, 15, 16, 17, 18], [0, 1, 2, 3, 4, 5, 6, 7, 8, 9, 10, 11, 12, 13, 14, 15, 16, 17, 18, 19], [0, 1, 2, 3, 4, 5, 6, 7, 8, 9, 10, 11, 12, 13, 14, 15, 16, 17, 18, 19], [0, 1, 2, 3, 4, 5, 6, 7, 8, 9, 10, 11, 12, 13, 14, 15, 16, 17, 18, 19, 20, 21], [0, 1, 2, 3, 4, 5, 6, 7, 8, 9, 10, 11, 12, 13, 14, 15, 16, 17, 18, 19], [0, 1, 2, 3, 4, 5, 6, 7, 8, 9, 10, 11, 12, 13, 14, 15, 16, 17, 18, 19, 20, 21, 22, 23], [0, 1, 2, 3, 4, 5, 6, 7, 8, 9, 10, 11, 12, 13, 14, 15, 16, 17, 18, 19, 20, 21, 22, 23, 24], [0, 1, 2, 3, 4, 5, 6, 7, 8, 9, 10, 11, 12, 13, 14, 15, 16, 17, 18, 19, 20, 21, 22, 23, 24, 25], [0, 1, 2, 3, 4, 5, 6, 7, 8, 9, 10, 11, 12, 13, 14, 15, 16, 17, 18, 19, 20, 21, 22, 23, 24, 25, 26]] rfl
            (obs_cons rfl rfl (hob rfl rfl ?_) (obs_cons rfl rfl (hob rfl rfl ?_) (obs_cons rfl rfl (hob rfl rfl ?_) (obs_cons rfl rfl (hob rfl rfl ?_) (obs_cons rfl rfl (hob rfl rfl ?_) (obs_cons rfl rfl (hob rfl rfl ?_) (obs_cons rfl rfl (hob rfl rfl ?_) (obs_cons rfl rfl (hob rfl rfl ?_) (obs_cons rfl rfl (hob rfl rfl ?_) (obs_cons rfl rfl (hob rfl rfl ?_) (obs_cons rfl rfl (hob rfl rfl ?_) (obs_cons rfl rfl (hob rfl rfl ?_) (obs_cons rfl rfl (hob rfl rfl ?_) (obs_cons rfl rfl (hob rfl rfl ?_) (obs_cons rfl rfl (hob rfl rfl ?_) (obs_cons rfl rfl (hob rfl rfl ?_) (obs_cons rfl rfl (hob rfl rfl ?_) (obs_cons rfl rfl (hob rfl rfl ?_) (obs_cons rfl rfl (hob rfl rfl ?_) (obs_cons rfl rfl (hob rfl rfl ?_) (obs_cons rfl rfl (hob rfl rfl ?_) (obs_cons rfl rfl (hob rfl rfl ?_) (obs_cons rfl rfl (hob rfl rfl ?_) (obs_cons rfl rfl (hob rfl rfl ?_) (obs_cons rfl rfl (hob rfl rfl ?_) (obs_cons rfl rfl (hob rfl rfl ?_) (obs_cons rfl rfl (hob rfl rfl ?_) obs_nil))))))))))))))))))))))))))) ?_
          · -- 0
            intro v1564 e1565
            have hw27 : Ext w v1564 := hw26.trans e1565
            refine deps_nil ?_
            refine wl_load rfl rfl (load_agg aggInt (((((((((((((hb4.ext (e8.trans (e14.trans (e19.trans (e23.trans e28))))).updN u35 (by omega)).ext (e39.trans e44)).updN u51 (by omega)).ext (e55.trans e60)).updN u67 (by omega)).ext (e376.trans (e722.trans (e819.trans e824)))).updN u831 (by omega)).ext (e835.trans e840)).updN u847 (by omega)).ext (e1141.trans (e1273.trans e1278))).updN u1285 (by omega)).ext (e1466.trans e1565)) [.bool sa, .slice Aa na ca] rfl (Nat.le_of_ble_eq_true rfl) rfl) (by decide) ?_
            exact pi_done rfl (Ext.refl _) rfl
          · -- 1
            intro v1566 e1567
            have hw27 : Ext w v1566 := hw26.trans e1567
            refine deps_nil ?_
            refine wl_load rfl rfl (load_agg aggInt (((((((((((((hb9.ext (e14.trans (e19.trans (e23.trans e28)))).updN u35 (by omega)).ext (e39.trans e44)).updN u51 (by omega)).ext (e55.trans e60)).updN u67 (by omega)).ext (e376.trans (e722.trans (e819.trans e824)))).updN u831 (by omega)).ext (e835.trans e840)).updN u847 (by omega)).ext (e1141.trans (e1273.trans e1278))).updN u1285 (by omega)).ext (e1466.trans e1567)) [.bool sb, .slice Ab nb cb] rfl (Nat.le_of_ble_eq_true rfl) rfl) (by decide) ?_
            exact pi_done rfl (Ext.refl _) rfl
          · -- 2
            intro v1568 e1569
            have hw27 : Ext w v1568 := hw26.trans e1569
            refine deps_nil ?_
            refine wl_load rfl rfl (load_agg aggInt (((((((((((((hb15.ext (e19.trans (e23.trans e28))).updN u35 (by omega)).ext (e39.trans e44)).updN u51 (by omega)).ext (e55.trans e60)).updN u67 (by omega)).ext (e376.trans (e722.trans (e819.trans e824)))).updN u831 (by omega)).ext (e835.trans e840)).updN u847 (by omega)).ext (e1141.trans (e1273.trans e1278))).updN u1285 (by omega)).ext (e1466.trans e1569)) [.bool sf, .slice Af nf cf] rfl (Nat.le_of_ble_eq_true rfl) rfl) (by decide) ?_
            exact pi_done rfl (Ext.refl _) rfl
          · -- 3
            intro v1570 e1571
            have hw27 : Ext w v1570 := hw26.trans e1571
            refine deps_cons rfl rfl fun x1572 y1573 h1574 e1575 f1576 => ?_
            obtain rfl := h1574
            refine deps_cons rfl rfl fun x1577 y1578 h1579 e1580 f1581 => ?_
            obtain rfl := h1579
            refine deps_cons rfl rfl fun x1582 y1583 h1584 e1585 f1586 => ?_
            obtain rfl := h1584
            refine deps_nil ?_
            have L1587 : ln (x * y + z) ≤ 2097153 := Nat.le_trans (ln_add (ln_mul Lx Ly) Lz) (by decide)
            refine wl_call rfl rfl (vs := [.agg #[.bool sa, .slice Aa na ca], .agg #[.bool sb, .slice Ab nb cb], .agg #[.bool sf, .slice Af nf cf]]) (by kernel_rfl) (by decide) (g_zint_MulAdd hw27.size (hx.ext hw27) (Nat.le_trans la (by decide)) (hy.ext hw27) (Nat.le_trans lb (by decide)) (hz.ext hw27) (Nat.le_trans lf (by decide))) ?_
            rintro _ v1588 ⟨xr1590, rfl, r1590, e1589⟩
            refine ret_intro ?_
            have hw28 : Ext w v1588 := hw27.trans e1589
            obtain ⟨s1591, A1591, n1591, c1591, rfl, z1591⟩ := r1590
            exact pi_done rfl e1589 ⟨_, _, _, _, rfl, z1591⟩
          · -- 4
            intro v1592 e1593
            have hw27 : Ext w v1592 := hw26.trans e1593
            refine deps_nil ?_
            refine wl_load rfl rfl (load_agg aggInt (((((((((((hb34.ext (e39.trans e44)).updN u51 (by omega)).ext (e55.trans e60)).updN u67 (by omega)).ext (e376.trans (e722.trans (e819.trans e824)))).updN u831 (by omega)).ext (e835.trans e840)).updN u847 (by omega)).ext (e1141.trans (e1273.trans e1278))).updN u1285 (by omega)).ext (e1466.trans e1593)) [.bool s25, .slice A25 n25 c25] rfl (Nat.le_of_ble_eq_true rfl) rfl) (by decide) ?_
            exact pi_done rfl (Ext.refl _) rfl
          · -- 5
            intro v1594 e1595
            have hw27 : Ext w v1594 := hw26.trans e1595
            refine deps_nil ?_
            refine wl_load rfl rfl (load_agg aggInt (((((((((((((hb15.ext (e19.trans (e23.trans e28))).updN u35 (by omega)).ext (e39.trans e44)).updN u51 (by omega)).ext (e55.trans e60)).updN u67 (by omega)).ext (e376.trans (e722.trans (e819.trans e824)))).updN u831 (by omega)).ext (e835.trans e840)).updN u847 (by omega)).ext (e1141.trans (e1273.trans e1278))).updN u1285 (by omega)).ext (e1466.trans e1595)) [.bool sf, .slice Af nf cf] rfl (Nat.le_of_ble_eq_true rfl) rfl) (by decide) ?_
            exact pi_done rfl (Ext.refl _) rfl
          · -- 6
            intro v1596 e1597
            have hw27 : Ext w v1596 := hw26.trans e1597
            refine deps_cons rfl rfl fun x1598 y1599 h1600 e1601 f1602 => ?_
            obtain rfl := h1600
            refine deps_cons rfl rfl fun x1603 y1604 h1605 e1606 f1607 => ?_
            obtain rfl := h1605
            refine deps_nil ?_
            have L1608 : ln ((x * y) + z) ≤ 2097153 := Nat.le_trans (ln_add L21 Lz) (by decide)
            refine wl_call rfl rfl (vs := [.agg #[.bool s25, .slice A25 n25 c25], .agg #[.bool sf, .slice Af nf cf]]) (by kernel_rfl) (by decide) (g_zint_Add hw27.size (((((((((((((z25.ext e28).updT hb33 u35).ext (e39.trans e44)).updT hb49 u51).ext (e55.trans e60)).updT hb65 u67).ext (e376.trans (e722.trans (e819.trans e824)))).updT hb829 u831).ext (e835.trans e840)).updT hb845 u847).ext (e1141.trans (e1273.trans e1278))).updT hb1283 u1285).ext (e1466.trans e1597)).zi (z25.le (Nat.le_trans L21 (by decide))) (hz.ext hw27) (Nat.le_trans lf (by decide))) ?_
            rintro _ v1609 ⟨xr1611, rfl, r1611, e1610⟩
            refine ret_intro ?_
            have hw28 : Ext w v1609 := hw27.trans e1610
            obtain ⟨s1612, A1612, n1612, c1612, rfl, z1612⟩ := r1611
            exact pi_done rfl e1610 ⟨_, _, _, _, rfl, z1612⟩
          · -- 7
            intro v1613 e1614
            have hw27 : Ext w v1613 := hw26.trans e1614
            refine deps_cons rfl rfl fun x1615 y1616 h1617 e1618 f1619 => ?_
            obtain ⟨s1620, A1620, n1620, c1620, rfl, z1620⟩ := h1617
            have z1620 := z1620.ext f1619
            refine deps_cons rfl rfl fun x1621 y1622 h1623 e1624 f1625 => ?_
            obtain ⟨s1626, A1626, n1626, c1626, rfl, z1626⟩ := h1623
            have z1626 := z1626.ext f1625
            refine deps_nil ?_
            refine wl_call rfl rfl (vs := [.agg #[.bool s1620, .slice A1620 n1620 c1620], .agg #[.bool s1626, .slice A1626 n1626 c1626]]) (by kernel_rfl) (by decide) (g_law5_alike z1620 (z1620.le (Nat.le_trans L1551 (by decide))) (z1626.cast (by grind)) (z1626.le (Nat.le_trans L1553 (by decide)))) ?_
            rintro _ v1627 ⟨xr1629, rfl, r1629, e1628⟩
            refine ret_intro ?_
            have hw28 : Ext w v1627 := hw27.trans e1628
            obtain rfl := r1629
            exact pi_done rfl e1628 rfl
          · -- 8
            intro v1630 e1631
            have hw27 : Ext w v1630 := hw26.trans e1631
            refine deps_cons rfl rfl fun x1632 y1633 h1634 e1635 f1636 => ?_
            obtain rfl := h1634
            refine deps_nil ?_
            refine wl_move rfl rfl (by decide) ?_
            exact pi_done rfl (Ext.refl _) rfl
          · -- 9
            intro v1637 e1638
            have hw27 : Ext w v1637 := hw26.trans e1638
            refine deps_cons rfl rfl fun x1639 y1640 h1641 e1642 f1643 => ?_
            obtain rfl := h1641
            refine deps_nil ?_
            refine wl_load rfl rfl (load_agg aggInt (((((((((((((hb4.ext (e8.trans (e14.trans (e19.trans (e23.trans e28))))).updN u35 (by omega)).ext (e39.trans e44)).updN u51 (by omega)).ext (e55.trans e60)).updN u67 (by omega)).ext (e376.trans (e722.trans (e819.trans e824)))).updN u831 (by omega)).ext (e835.trans e840)).updN u847 (by omega)).ext (e1141.trans (e1273.trans e1278))).updN u1285 (by omega)).ext (e1466.trans e1638)) [.bool sa, .slice Aa na ca] rfl (Nat.le_of_ble_eq_true rfl) rfl) (by decide) ?_
            exact pi_done rfl (Ext.refl _) rfl
          · -- 10
            intro v1644 e1645
            have hw27 : Ext w v1644 := hw26.trans e1645
            refine deps_cons rfl rfl fun x1646 y1647 h1648 e1649 f1650 => ?_
            obtain rfl := h1648
            refine deps_nil ?_
            refine wl_load rfl rfl (load_agg aggInt (((((((((((((hb9.ext (e14.trans (e19.trans (e23.trans e28)))).updN u35 (by omega)).ext (e39.trans e44)).updN u51 (by omega)).ext (e55.trans e60)).updN u67 (by omega)).ext (e376.trans (e722.trans (e819.trans e824)))).updN u831 (by omega)).ext (e835.trans e840)).updN u847 (by omega)).ext (e1141.trans (e1273.trans e1278))).updN u1285 (by omega)).ext (e1466.trans e1645)) [.bool sb, .slice Ab nb cb] rfl (Nat.le_of_ble_eq_true rfl) rfl) (by decide) ?_
            exact pi_done rfl (Ext.refl _) rfl
          · -- 11
            intro v1651 e1652
            have hw27 : Ext w v1651 := hw26.trans e1652
            refine deps_cons rfl rfl fun x1653 y1654 h1655 e1656 f1657 => ?_
            obtain rfl := h1655
            refine deps_nil ?_
            refine wl_load rfl rfl (load_agg aggInt (((((((((((((hb15.ext (e19.trans (e23.trans e28))).updN u35 (by omega)).ext (e39.trans e44)).updN u51 (by omega)).ext (e55.trans e60)).updN u67 (by omega)).ext (e376.trans (e722.trans (e819.trans e824)))).updN u831 (by omega)).ext (e835.trans e840)).updN u847 (by omega)).ext (e1141.trans (e1273.trans e1278))).updN u1285 (by omega)).ext (e1466.trans e1652)) [.bool sf, .slice Af nf cf] rfl (Nat.le_of_ble_eq_true rfl) rfl) (by decide) ?_
            exact pi_done rfl (Ext.refl _) rfl
          · -- 12
            intro v1658 e1659
            have hw27 : Ext w v1658 := hw26.trans e1659
            refine deps_cons rfl rfl fun x1660 y1661 h1662 e1663 f1664 => ?_
            obtain rfl := h1662
            refine deps_cons rfl rfl fun x1665 y1666 h1667 e1668 f1669 => ?_
            obtain rfl := h1667
            refine deps_cons rfl rfl fun x1670 y1671 h1672 e1673 f1674 => ?_
            obtain rfl := h1672
            refine deps_cons rfl rfl fun x1675 y1676 h1677 e1678 f1679 => ?_
            obtain rfl := h1677
            refine deps_nil ?_
            refine wl_bslice rfl rfl (by decide) (k := 3) (e := 24) [.bool sa, .slice Aa na ca, .bool sb, .slice Ab nb cb, .bool sf, .slice Af nf cf] (fun _ => by kernel_rfl) fun g1680 v1681 nb => ?_
            have hb1683 := nb.bk
            have ge1684 : w.heap.size ≤ g1680 := by rw [← nb.at_]; exact hw27.size
            have q1685 : g1276 < g1680 := by rw [← nb.at_]; exact (hb1284.ext (e1466.trans e1659)).lt
            have e1682 := nb.ext
            clear nb
            have hw28 : Ext w v1681 := hw27.trans e1682
            exact pi_done rfl e1682 ⟨_, rfl, hb1683⟩
          · -- 13
            intro v1686 e1687
            have hw27 : Ext w v1686 := hw26.trans e1687
            refine deps_cons rfl rfl fun x1688 y1689 h1690 e1691 f1692 => ?_
            obtain rfl := h1690
            refine deps_cons rfl rfl fun x1693 y1694 h1695 e1696 f1697 => ?_
            obtain ⟨gb1698, rfl, hbs1698⟩ := h1695
            have hbs1698 := hbs1698.ext f1697
            refine deps_nil ?_
            have L1699 : ln (0 + x + y + z) ≤ 1048579 := Nat.le_trans (ln_add (ln_add (ln_add (show ln 0 ≤ 0 by decide) Lx) Ly) Lz) (by decide)
            refine wl_call rfl rfl (vs := [.slice (some ⟨gb1698, 0, none⟩) 3 3]) (by kernel_rfl) (by decide) (g_zint_Sum hw27.size (zl_three hbs1698 (hx.ext hw27) (hy.ext hw27) (hz.ext hw27)) (by decide) (three_le (Nat.le_trans la (by decide)) (Nat.le_trans lb (by decide)) (Nat.le_trans lf (by decide)))) ?_
            rintro _ v1700 ⟨xr1702, rfl, r1702, e1701⟩
            refine ret_intro ?_
            have hw28 : Ext w v1700 := hw27.trans e1701
            obtain ⟨s1703, A1703, n1703, c1703, rfl, z1703⟩ := r1702
            exact pi_done rfl e1701 ⟨_, _, _, _, rfl, z1703⟩
          · -- 14
            intro v1704 e1705
            have hw27 : Ext w v1704 := hw26.trans e1705
            refine deps_cons rfl rfl fun x1706 y1707 h1708 e1709 f1710 => ?_
            obtain rfl := h1708
            refine deps_nil ?_
            refine wl_load rfl rfl (load_agg aggInt (((((((((((((hb4.ext (e8.trans (e14.trans (e19.trans (e23.trans e28))))).updN u35 (by omega)).ext (e39.trans e44)).updN u51 (by omega)).ext (e55.trans e60)).updN u67 (by omega)).ext (e376.trans (e722.trans (e819.trans e824)))).updN u831 (by omega)).ext (e835.trans e840)).updN u847 (by omega)).ext (e1141.trans (e1273.trans e1278))).updN u1285 (by omega)).ext (e1466.trans e1705)) [.bool sa, .slice Aa na ca] rfl (Nat.le_of_ble_eq_true rfl) rfl) (by decide) ?_
            exact pi_done rfl (Ext.refl _) rfl
          · -- 15
            intro v1711 e1712
            have hw27 : Ext w v1711 := hw26.trans e1712
            refine deps_cons rfl rfl fun x1713 y1714 h1715 e1716 f1717 => ?_
            obtain rfl := h1715
            refine deps_nil ?_
            refine wl_load rfl rfl (load_agg aggInt (((((((hb66.ext (e376.trans (e722.trans (e819.trans e824)))).updN u831 (by omega)).ext (e835.trans e840)).updN u847 (by omega)).ext (e1141.trans (e1273.trans e1278))).updN u1285 (by omega)).ext (e1466.trans e1712)) [.bool s57, .slice A57 n57 c57] rfl (Nat.le_of_ble_eq_true rfl) rfl) (by decide) ?_
            exact pi_done rfl (Ext.refl _) rfl
          · -- 16
            intro v1718 e1719
            have hw27 : Ext w v1718 := hw26.trans e1719
            refine deps_cons rfl rfl fun x1720 y1721 h1722 e1723 f1724 => ?_
            obtain rfl := h1722
            refine deps_cons rfl rfl fun x1725 y1726 h1727 e1728 f1729 => ?_
            obtain rfl := h1727
            refine deps_cons rfl rfl fun x1730 y1731 h1732 e1733 f1734 => ?_
            obtain rfl := h1732
            refine deps_nil ?_
            have L1735 : ln (x + (y + z)) ≤ 1048578 := Nat.le_trans (ln_add Lx L53) (by decide)
            refine wl_call rfl rfl (vs := [.agg #[.bool sa, .slice Aa na ca], .agg #[.bool s57, .slice A57 n57 c57]]) (by kernel_rfl) (by decide) (g_zint_Add hw27.size (hx.ext hw27) (Nat.le_trans la (by decide)) (((((((((z57.ext e60).updT hb65 u67).ext (e376.trans (e722.trans (e819.trans e824)))).updT hb829 u831).ext (e835.trans e840)).updT hb845 u847).ext (e1141.trans (e1273.trans e1278))).updT hb1283 u1285).ext (e1466.trans e1719)).zi (z57.le (Nat.le_trans L53 (by decide)))) ?_
            rintro _ v1736 ⟨xr1738, rfl, r1738, e1737⟩
            refine ret_intro ?_
            have hw28 : Ext w v1736 := hw27.trans e1737
            obtain ⟨s1739, A1739, n1739, c1739, rfl, z1739⟩ := r1738
            exact pi_done rfl e1737 ⟨_, _, _, _, rfl, z1739⟩
          · -- 17
            intro v1740 e1741
            have hw27 : Ext w v1740 := hw26.trans e1741
            refine deps_cons rfl rfl fun x1742 y1743 h1744 e1745 f1746 => ?_
            obtain rfl := h1744
            refine deps_cons rfl rfl fun x1747 y1748 h1749 e1750 f1751 => ?_
            obtain ⟨s1752, A1752, n1752, c1752, rfl, z1752⟩ := h1749
            have z1752 := z1752.ext f1751
            refine deps_cons rfl rfl fun x1753 y1754 h1755 e1756 f1757 => ?_
            obtain ⟨s1758, A1758, n1758, c1758, rfl, z1758⟩ := h1755
            have z1758 := z1758.ext f1757
            refine deps_nil ?_
            refine wl_call rfl rfl (vs := [.agg #[.bool s1752, .slice A1752 n1752 c1752], .agg #[.bool s1758, .slice A1758 n1758 c1758]]) (by kernel_rfl) (by decide) (g_law5_alike z1752 (z1752.le (Nat.le_trans L1556 (by decide))) (z1758.cast (by grind)) (z1758.le (Nat.le_trans L1558 (by decide)))) ?_
            rintro _ v1759 ⟨xr1761, rfl, r1761, e1760⟩
            refine ret_intro ?_
            have hw28 : Ext w v1759 := hw27.trans e1760
            obtain rfl := r1761
            exact pi_done rfl e1760 rfl
          · -- 18
            intro v1762 e1763
            have hw27 : Ext w v1762 := hw26.trans e1763
            refine deps_cons rfl rfl fun x1764 y1765 h1766 e1767 f1768 => ?_
            obtain rfl := h1766
            refine deps_cons rfl rfl fun x1769 y1770 h1771 e1772 f1773 => ?_
            obtain rfl := h1771
            refine deps_nil ?_
            refine wl_pure rfl rfl (v := .bool true) (by decide) (by kernel_rfl) ?_
            exact pi_done rfl (Ext.refl _) rfl
          · -- 19
            intro v1774 e1775
            have hw27 : Ext w v1774 := hw26.trans e1775
            refine deps_cons rfl rfl fun x1776 y1777 h1778 e1779 f1780 => ?_
            obtain rfl := h1778
            refine deps_nil ?_
            refine wl_move rfl rfl (by decide) ?_
            exact pi_done rfl (Ext.refl _) rfl
          · -- 20
            intro v1781 e1782
            have hw27 : Ext w v1781 := hw26.trans e1782
            refine deps_cons rfl rfl fun x1783 y1784 h1785 e1786 f1787 => ?_
            obtain rfl := h1785
            refine deps_nil ?_
            refine wl_load rfl rfl (load_agg aggInt (((((((((((((hb4.ext (e8.trans (e14.trans (e19.trans (e23.trans e28))))).updN u35 (by omega)).ext (e39.trans e44)).updN u51 (by omega)).ext (e55.trans e60)).updN u67 (by omega)).ext (e376.trans (e722.trans (e819.trans e824)))).updN u831 (by omega)).ext (e835.trans e840)).updN u847 (by omega)).ext (e1141.trans (e1273.trans e1278))).updN u1285 (by omega)).ext (e1466.trans e1782)) [.bool sa, .slice Aa na ca] rfl (Nat.le_of_ble_eq_true rfl) rfl) (by decide) ?_
            exact pi_done rfl (Ext.refl _) rfl
          · -- 21
            intro v1788 e1789
            have hw27 : Ext w v1788 := hw26.trans e1789
            refine deps_cons rfl rfl fun x1790 y1791 h1792 e1793 f1794 => ?_
            obtain rfl := h1792
            refine deps_nil ?_
            refine wl_call rfl rfl (vs := [.int .i64 1]) (by kernel_rfl) (by decide) (g_zint_Of hw27.size (by decide) (by decide)) ?_
            rintro _ v1795 ⟨xr1797, rfl, r1797, e1796⟩
            refine ret_intro ?_
            have hw28 : Ext w v1795 := hw27.trans e1796
            obtain ⟨s1798, A1798, n1798, c1798, rfl, z1798⟩ := r1797
            exact pi_done rfl e1796 ⟨_, _, _, _, rfl, z1798⟩
          · -- 22
            intro v1799 e1800
            have hw27 : Ext w v1799 := hw26.trans e1800
            refine deps_cons rfl rfl fun x1801 y1802 h1803 e1804 f1805 => ?_
            obtain rfl := h1803
            refine deps_cons rfl rfl fun x1806 y1807 h1808 e1809 f1810 => ?_
            obtain rfl := h1808
            refine deps_cons rfl rfl fun x1811 y1812 h1813 e1814 f1815 => ?_
            obtain ⟨s1816, A1816, n1816, c1816, rfl, z1816⟩ := h1813
            have z1816 := z1816.ext f1815
            refine deps_nil ?_
            have L1817 : ln (x * 1) ≤ 1048577 := Nat.le_trans (ln_mul Lx (show ln (1) ≤ 1 by decide +kernel)) (by decide)
            refine wl_call rfl rfl (vs := [.agg #[.bool sa, .slice Aa na ca], .agg #[.bool s1816, .slice A1816 n1816 c1816]]) (by kernel_rfl) (by decide) (g_zint_Mul hw27.size (hx.ext hw27) (Nat.le_trans la (by decide)) z1816.zi (z1816.le (Nat.le_trans (show ln (1) ≤ 1 by decide +kernel) (by decide)))) ?_
            rintro _ v1818 ⟨xr1820, rfl, r1820, e1819⟩
            refine ret_intro ?_
            have hw28 : Ext w v1818 := hw27.trans e1819
            obtain ⟨s1821, A1821, n1821, c1821, rfl, z1821⟩ := r1820
            exact pi_done rfl e1819 ⟨_, _, _, _, rfl, z1821⟩
          · -- 23
            intro v1822 e1823
            have hw27 : Ext w v1822 := hw26.trans e1823
            refine deps_cons rfl rfl fun x1824 y1825 h1826 e1827 f1828 => ?_
            obtain rfl := h1826
            refine deps_nil ?_
            refine wl_load rfl rfl (load_agg aggInt (((((((((((((hb4.ext (e8.trans (e14.trans (e19.trans (e23.trans e28))))).updN u35 (by omega)).ext (e39.trans e44)).updN u51 (by omega)).ext (e55.trans e60)).updN u67 (by omega)).ext (e376.trans (e722.trans (e819.trans e824)))).updN u831 (by omega)).ext (e835.trans e840)).updN u847 (by omega)).ext (e1141.trans (e1273.trans e1278))).updN u1285 (by omega)).ext (e1466.trans e1823)) [.bool sa, .slice Aa na ca] rfl (Nat.le_of_ble_eq_true rfl) rfl) (by decide) ?_
            exact pi_done rfl (Ext.refl _) rfl
          · -- 24
            intro v1829 e1830
            have hw27 : Ext w v1829 := hw26.trans e1830
            refine deps_cons rfl rfl fun x1831 y1832 h1833 e1834 f1835 => ?_
            obtain rfl := h1833
            refine deps_cons rfl rfl fun x1836 y1837 h1838 e1839 f1840 => ?_
            obtain rfl := h1838
            refine deps_nil ?_
            refine wl_call rfl rfl (vs := [.agg #[.bool sa, .slice Aa na ca]]) (by kernel_rfl) (by decide) (g_zint_Least hw27.size (hx.ext hw27) (Nat.le_trans la (by decide))) ?_
            rintro _ v1841 ⟨xr1843, rfl, r1843, e1842⟩
            refine ret_intro ?_
            have hw28 : Ext w v1841 := hw27.trans e1842
            obtain ⟨s1844, A1844, n1844, c1844, rfl, z1844⟩ := r1843
            exact pi_done rfl e1842 ⟨_, _, _, _, rfl, z1844⟩
          · -- 25
            intro v1845 e1846
            have hw27 : Ext w v1845 := hw26.trans e1846
            refine deps_cons rfl rfl fun x1847 y1848 h1849 e1850 f1851 => ?_
            obtain rfl := h1849
            refine deps_cons rfl rfl fun x1852 y1853 h1854 e1855 f1856 => ?_
            obtain ⟨s1857, A1857, n1857, c1857, rfl, z1857⟩ := h1854
            have z1857 := z1857.ext f1856
            refine deps_cons rfl rfl fun x1858 y1859 h1860 e1861 f1862 => ?_
            obtain ⟨s1863, A1863, n1863, c1863, rfl, z1863⟩ := h1860
            have z1863 := z1863.ext f1862
            refine deps_nil ?_
            refine wl_call rfl rfl (vs := [.agg #[.bool s1857, .slice A1857 n1857 c1857], .agg #[.bool s1863, .slice A1863 n1863 c1863]]) (by kernel_rfl) (by decide) (g_law5_alike z1857 (z1857.le (Nat.le_trans L1561 (by decide))) (z1863.cast (by grind)) (z1863.le (Nat.le_trans Lx (by decide)))) ?_
            rintro _ v1864 ⟨xr1866, rfl, r1866, e1865⟩
            refine ret_intro ?_
            have hw28 : Ext w v1864 := hw27.trans e1865
            obtain rfl := r1866
            exact pi_done rfl e1865 rfl
          · -- 26
            intro v1867 e1868
            have hw27 : Ext w v1867 := hw26.trans e1868
            refine deps_cons rfl rfl fun x1869 y1870 h1871 e1872 f1873 => ?_
            obtain rfl := h1871
            refine deps_cons rfl rfl fun x1874 y1875 h1876 e1877 f1878 => ?_
            obtain rfl := h1876
            refine deps_nil ?_
            refine wl_pure rfl rfl (v := .bool true) (by decide) (by kernel_rfl) ?_
            exact pi_done rfl (Ext.refl _) rfl
          · -- all
            intro v1879 e1880
            have hw27 : Ext w v1879 := hw26.trans e1880
            refine deps_cons rfl rfl fun x1881 y1882 h1883 e1884 f1885 => ?_
            obtain rfl := h1883
            refine deps_cons rfl rfl fun x1886 y1887 h1888 e1889 f1890 => ?_
            obtain rfl := h1888
            refine deps_cons rfl rfl fun x1891 y1892 h1893 e1894 f1895 => ?_
            obtain rfl := h1893
            refine deps_cons rfl rfl fun x1896 y1897 h1898 e1899 f1900 => ?_
            obtain ⟨s1901, A1901, n1901, c1901, rfl, z1901⟩ := h1898
            have z1901 := z1901.ext f1900
            refine deps_cons rfl rfl fun x1902 y1903 h1904 e1905 f1906 => ?_
            obtain rfl := h1904
            refine deps_cons rfl rfl fun x1907 y1908 h1909 e1910 f1911 => ?_
            obtain rfl := h1909
            refine deps_cons rfl rfl fun x1912 y1913 h1914 e1915 f1916 => ?_
            obtain ⟨s1917, A1917, n1917, c1917, rfl, z1917⟩ := h1914
            have z1917 := z1917.ext f1916
            refine deps_cons rfl rfl fun x1918 y1919 h1920 e1921 f1922 => ?_
            obtain rfl := h1920
            refine deps_cons rfl rfl fun x1923 y1924 h1925 e1926 f1927 => ?_
            obtain rfl := h1925
            refine deps_cons rfl rfl fun x1928 y1929 h1930 e1931 f1932 => ?_
            obtain rfl := h1930
            refine deps_cons rfl rfl fun x1933 y1934 h1935 e1936 f1937 => ?_
            obtain rfl := h1935
            refine deps_cons rfl rfl fun x1938 y1939 h1940 e1941 f1942 => ?_
            obtain rfl := h1940
            refine deps_cons rfl rfl fun x1943 y1944 h1945 e1946 f1947 => ?_
            obtain ⟨gb1948, rfl, hbs1948⟩ := h1945
            have hbs1948 := hbs1948.ext f1947
            refine deps_cons rfl rfl fun x1949 y1950 h1951 e1952 f1953 => ?_
            obtain ⟨s1954, A1954, n1954, c1954, rfl, z1954⟩ := h1951
            have z1954 := z1954.ext f1953
            refine deps_cons rfl rfl fun x1955 y1956 h1957 e1958 f1959 => ?_
            obtain rfl := h1957
            refine deps_cons rfl rfl fun x1960 y1961 h1962 e1963 f1964 => ?_
            obtain rfl := h1962
            refine deps_cons rfl rfl fun x1965 y1966 h1967 e1968 f1969 => ?_
            obtain ⟨s1970, A1970, n1970, c1970, rfl, z1970⟩ := h1967
            have z1970 := z1970.ext f1969
            refine deps_cons rfl rfl fun x1971 y1972 h1973 e1974 f1975 => ?_
            obtain rfl := h1973
            refine deps_cons rfl rfl fun x1976 y1977 h1978 e1979 f1980 => ?_
            obtain rfl := h1978
            refine deps_cons rfl rfl fun x1981 y1982 h1983 e1984 f1985 => ?_
            obtain rfl := h1983
            refine deps_cons rfl rfl fun x1986 y1987 h1988 e1989 f1990 => ?_
            obtain rfl := h1988
            refine deps_cons rfl rfl fun x1991 y1992 h1993 e1994 f1995 => ?_
            obtain ⟨s1996, A1996, n1996, c1996, rfl, z1996⟩ := h1993
            have z1996 := z1996.ext f1995
            refine deps_cons rfl rfl fun x1997 y1998 h1999 e2000 f2001 => ?_
            obtain ⟨s2002, A2002, n2002, c2002, rfl, z2002⟩ := h1999
            have z2002 := z2002.ext f2001
            refine deps_cons rfl rfl fun x2003 y2004 h2005 e2006 f2007 => ?_
            obtain rfl := h2005
            refine deps_cons rfl rfl fun x2008 y2009 h2010 e2011 f2012 => ?_
            obtain ⟨s2013, A2013, n2013, c2013, rfl, z2013⟩ := h2010
            have z2013 := z2013.ext f2012
            refine deps_cons rfl rfl fun x2014 y2015 h2016 e2017 f2018 => ?_
            obtain rfl := h2016
            refine deps_cons rfl rfl fun x2019 y2020 h2021 e2022 f2023 => ?_
            obtain rfl := h2021
            refine deps_nil ?_
            refine wl_assign rfl rfl (by decide) ?_
            refine wl_nil ?_
            refine eo_np ?_
            refine eo_then ?_
            refine cw_ret ?_
            refine eo_ret [.bool true] rfl ⟨rfl, trivial⟩ ?_
            exact bool_of _ _ ⟨_, rfl, rfl, hw27⟩
end Go.Proofs.YtmaconeeonkdgaaDoor
