/- Parts Zh, Bz, joined. -/
import Derived.Test.YtmaconeeonkdgaaM3

namespace Go.Proofs.Ytmaconeeonkdgaa
open Go.RowKit
theorem ln_tdiv (x y : Int) : ln (x.tdiv y) ≤ ln x := ln_mono (by rw [Int.natAbs_tdiv]; exact Nat.div_le_self _ _)
theorem ln_tmod (x y : Int) : ln (x.tmod y) ≤ ln x := ln_mono (by rw [Int.natAbs_tmod]; exact Nat.mod_le _ _)
theorem ediv_pos {x y : Int} (h : 0 ≤ x.tmod y) : x.tdiv y = x / y ∧ x.tmod y = x % y := by
  have h1 := Int.tdiv_mul_add_tmod x y
  rcases Int.lt_trichotomy y 0 with hy | hy | hy
  · have h2 : x.tmod y < -y := by have := tmod_abs (x := x) (y := y) (by omega); omega
    have e : x.tmod y = x % y := by
      have : x % y = (x.tmod y + y * x.tdiv y) % y := by rw [Int.mul_comm y]; congr 1; omega
      rw [this, Int.add_mul_emod_self_left, ← Int.emod_neg, Int.emod_eq_of_lt h h2]
    refine ⟨?_, e⟩
    have h3 := Int.mul_ediv_add_emod x y
    rw [← e] at h3
    refine Int.eq_of_mul_eq_mul_left (a := y) (by omega) ?_
    rw [Int.mul_comm y (x.tdiv y)]; omega
  · subst hy; simp
  · have h2 := Int.tmod_lt_of_pos x hy
    have e : x.tmod y = x % y := by
      have : x % y = (x.tmod y + y * x.tdiv y) % y := by rw [Int.mul_comm y]; congr 1; omega
      rw [this, Int.add_mul_emod_self_left, Int.emod_eq_of_lt h h2]
    refine ⟨?_, e⟩
    have h3 := Int.mul_ediv_add_emod x y
    rw [← e] at h3
    refine Int.eq_of_mul_eq_mul_left (a := y) (by omega) ?_
    rw [Int.mul_comm y (x.tdiv y)]; omega
theorem ediv_neg' {x y : Int} (h : x.tmod y < 0) (hy : y < 0) : x.tdiv y + 1 = x / y ∧ x.tmod y - y = x % y := by
  have h1 := Int.tdiv_mul_add_tmod x y
  have h2 : -(x.tmod y) < -y := by have := tmod_abs (x := x) (y := y) (by omega); omega
  have e : x.tmod y - y = x % y := by
    have : x % y = ((x.tmod y - y) + y * (x.tdiv y + 1)) % y := by rw [Int.mul_add, Int.mul_comm y]; congr 1; omega
    rw [this, Int.add_mul_emod_self_left, ← Int.emod_neg, Int.emod_eq_of_lt (by omega) (by omega)]
  refine ⟨?_, e⟩
  have h3 := Int.mul_ediv_add_emod x y
  rw [← e] at h3
  refine Int.eq_of_mul_eq_mul_left (a := y) (by omega) ?_
  rw [Int.mul_add, Int.mul_comm y (x.tdiv y)]; omega
theorem ediv_pos' {x y : Int} (h : x.tmod y < 0) (hy : 0 < y) : x.tdiv y - 1 = x / y ∧ x.tmod y + y = x % y := by
  have h1 := Int.tdiv_mul_add_tmod x y
  have h2 : -(x.tmod y) < y := by have := tmod_abs (x := x) (y := y) (by omega); omega
  have e : x.tmod y + y = x % y := by
    have : x % y = ((x.tmod y + y) + y * (x.tdiv y - 1)) % y := by rw [Int.mul_sub, Int.mul_comm y]; congr 1; omega
    rw [this, Int.add_mul_emod_self_left, Int.emod_eq_of_lt (by omega) (by omega)]
  refine ⟨?_, e⟩
  have h3 := Int.mul_ediv_add_emod x y
  rw [← e] at h3
  refine Int.eq_of_mul_eq_mul_left (a := y) (by omega) ?_
  rw [Int.mul_sub, Int.mul_comm y (x.tdiv y)]; omega
set_option maxHeartbeats 4000000 in
theorem g_zint_EuclidI {w : World} {sa : Bool} {Aa : Option Addr} {na ca : Nat} {x : Int} {sb : Bool} {Ab : Option Addr} {nb cb : Nat} {y : Int} (hx : Zi w sa Aa na ca x) (la : na ≤ 68719476736) (hy : Zi w sb Ab nb cb y) (lb : nb ≤ 68719476736) (h0 : y ≠ 0) :
    Calls Try.prog 89 #[.agg #[.bool sa, .slice Aa na ca], .agg #[.bool sb, .slice Ab nb cb]] w (Gv w (T3 (ZR w.heap.size (x / y)) (ZR w.heap.size (x % y)) (Is (.int .i64 0)))) := by
  have Lx : ln x ≤ 68719476736 := Nat.le_trans hx.ln la
  have Ly : ln y ≤ 68719476736 := Nat.le_trans hy.ln lb
  refine sx_enter Try.func89 rfl (n := 41) rfl (Nat.le_of_ble_eq_true rfl) (args := [.agg #[.bool sa, .slice Aa na ca], .agg #[.bool sb, .slice Ab nb cb]]) ?_
  refine cw_keep [(0, .agg #[.bool sa, .slice Aa na ca]), (1, .agg #[.bool sb, .slice Ab nb cb])] ⟨rfl, rfl, trivial⟩ ?_
  refine cw_seq ?_
  refine cw_region ?_
  refine wl_box rfl rfl (vs := [.bool sa, .slice Aa na ca]) rfl (by decide) fun g1 v2 nb => ?_
  have hb4 := nb.bk
  have ge5 : w.heap.size ≤ g1 := by rw [← nb.at_]; exact (Ext.refl w).size
  have e3 := nb.ext
  clear nb
  have hw1 : Ext w v2 := (Ext.refl w).trans e3
  refine wl_box rfl rfl (vs := [.bool sb, .slice Ab nb cb]) rfl (by decide) fun g6 v7 nb => ?_
  have hb9 := nb.bk
  have ge10 : w.heap.size ≤ g6 := by rw [← nb.at_]; exact hw1.size
  have q11 : g1 < g6 := by rw [← nb.at_]; exact hb4.lt
  have e8 := nb.ext
  clear nb
  have hw2 : Ext w v7 := hw1.trans e8
  refine wl_alloc rfl (z := .agg #[.bool false, .slice none 0 0]) (vs := [.bool false, .slice none 0 0]) (fun _ => by kernel_rfl) rfl (by decide) fun g12 v13 nb => ?_
  have hb15 := nb.bk
  have ge16 : w.heap.size ≤ g12 := by rw [← nb.at_]; exact hw2.size
  have q17 : g6 < g12 := by rw [← nb.at_]; exact hb9.lt
  have e14 := nb.ext
  clear nb
  have hw3 : Ext w v13 := hw2.trans e14
  refine wl_alloc rfl (z := .agg #[.bool false, .slice none 0 0]) (vs := [.bool false, .slice none 0 0]) (fun _ => by kernel_rfl) rfl (by decide) fun g18 v19 nb => ?_
  have hb21 := nb.bk
  have ge22 : w.heap.size ≤ g18 := by rw [← nb.at_]; exact hw3.size
  have q23 : g12 < g18 := by rw [← nb.at_]; exact hb15.lt
  have e20 := nb.ext
  clear nb
  have hw4 : Ext w v19 := hw3.trans e20
  refine wl_assign rfl rfl (by decide) ?_
  refine wl_nil ?_
  refine eo_then ?_
  refine cw_seq ?_
  refine cw_region ?_
  refine wl_load rfl rfl (load_agg aggInt (hb4.ext (e8.trans (e14.trans e20))) [.bool sa, .slice Aa na ca] rfl (Nat.le_of_ble_eq_true rfl) rfl) (by decide) ?_
  refine wl_load rfl rfl (load_agg aggInt (hb9.ext (e14.trans e20)) [.bool sb, .slice Ab nb cb] rfl (Nat.le_of_ble_eq_true rfl) rfl) (by decide) ?_
  have L24 : ln ((x).tdiv y) ≤ 68719476736 := Nat.le_trans (ln_tdiv _ _) Lx
  have L25 : ln ((x).tmod y) ≤ 68719476736 := Nat.le_trans (ln_tmod _ _) Lx
  refine wl_call rfl rfl (vs := [.agg #[.bool sa, .slice Aa na ca], .agg #[.bool sb, .slice Ab nb cb]]) (by kernel_rfl) (by decide) (g_zint_Trunc hw4.size (hx.ext hw4) (Nat.le_trans la (by decide)) (hy.ext hw4) (Nat.le_trans lb (by decide)) h0) ?_
  rintro _ v26 ⟨xr28, rfl, r28, e27⟩
  refine ret_intro ?_
  have hw5 : Ext w v26 := hw4.trans e27
  obtain ⟨a29_0, a29_1, a29_2, rfl, r29_0, r29_1, r29_2⟩ := r28
  obtain ⟨s30, A30, n30, c30, rfl, z30⟩ := r29_0
  obtain ⟨s31, A31, n31, c31, rfl, z31⟩ := r29_1
  obtain rfl := r29_2
  refine wl_move rfl rfl (by decide) ?_
  refine wl_pure rfl rfl (v := .agg #[.bool s30, .slice A30 n30 c30]) (by decide) (by kernel_rfl) ?_
  refine wl_pure rfl rfl (v := .agg #[.bool s31, .slice A31 n31 c31]) (by decide) (by kernel_rfl) ?_
  refine wl_pure rfl rfl (v := .int .i64 0) (by decide) (by kernel_rfl) ?_
  refine wl_alloc rfl (z := .agg #[.bool false, .slice none 0 0]) (vs := [.bool false, .slice none 0 0]) (fun _ => by kernel_rfl) rfl (by decide) fun g32 v33 nb => ?_
  have hb35 := nb.bk
  have ge36 : w.heap.size ≤ g32 := by rw [← nb.at_]; exact hw5.size
  have q37 : g18 < g32 := by rw [← nb.at_]; exact (hb21.ext e27).lt
  have e34 := nb.ext
  clear nb
  have hw6 : Ext w v33 := hw5.trans e34
  refine wl_alloc rfl (z := .agg #[.bool false, .slice none 0 0]) (vs := [.bool false, .slice none 0 0]) (fun _ => by kernel_rfl) rfl (by decide) fun g38 v39 nb => ?_
  have hb41 := nb.bk
  have ge42 : w.heap.size ≤ g38 := by rw [← nb.at_]; exact hw6.size
  have q43 : g32 < g38 := by rw [← nb.at_]; exact hb35.lt
  have e40 := nb.ext
  clear nb
  have hw7 : Ext w v39 := hw6.trans e40
  have hb45 := (hb35.ext e40)
  refine wl_stored rfl rfl rfl aggInt rfl hb45 (Nat.le_of_ble_eq_true rfl) rfl [.bool s30, .slice A30 n30 c30] rfl fun v44 hb46 u47 hs48 => ?_
  have hw8 : Ext w v44 := u47.ext hw7 ge36
  have hb50 := (hb41.updN u47 (by omega))
  refine wl_stored rfl rfl rfl aggInt rfl hb50 (Nat.le_of_ble_eq_true rfl) rfl [.bool s31, .slice A31 n31 c31] rfl fun v49 hb51 u52 hs53 => ?_
  have hw9 : Ext w v49 := u52.ext hw8 ge42
  refine wl_assign rfl rfl (by decide) ?_
  refine wl_nil ?_
  refine eo_then ?_
  refine cw_seq ?_
  refine cw_seq ?_
  by_cases hr : x.tmod y < 0
  ·
    obtain rfl : s31 = true := by rw [z31.sgn]; exact decide_eq_true hr
    refine cw_region ?_
    refine wl_move rfl rfl (by decide) ?_
    refine wl_pure rfl rfl (v := .bool false) (by decide) (by kernel_rfl) ?_
    refine wl_move rfl rfl (by decide) ?_
    refine wl_pure rfl rfl (v := .pointer (some ⟨g38, 0, none⟩)) (by decide) (by kernel_rfl) ?_
    refine wl_load rfl rfl (load_cell cellBool hb51 rfl) (by decide) ?_
    refine wl_pure rfl rfl (v := .bool false) (by decide) (by kernel_rfl) ?_
    refine wl_pure rfl rfl (v := .bool false) (by decide) (by kernel_rfl) ?_
    refine wl_nil ?_
    refine eo_then ?_
    refine cw_false rfl ?_
    refine cw_skip ?_
    refine eo_then ?_
    refine cw_seq ?_
    refine cw_seq ?_
    by_cases hyn : y < 0
    ·
      obtain rfl : sb = true := by rw [hy.sgn h0]; exact decide_eq_true hyn
      have hq := ediv_neg' hr hyn
      refine cw_region ?_
      refine wl_pure rfl rfl (v := .pointer (some ⟨g6, 0, none⟩)) (by decide) (by kernel_rfl) ?_
      refine wl_load rfl rfl (load_cell cellBool (((hb9.ext (e14.trans (e20.trans (e27.trans (e34.trans e40))))).updN u47 (by omega)).updN u52 (by omega)) rfl) (by decide) ?_
      refine wl_nil ?_
      refine eo_then ?_
      refine cw_true rfl ?_
      refine cw_seq ?_
      have L55 : ln ((x.tdiv y) + 1) ≤ 68719476737 := Nat.le_trans (ln_add L24 (show ln (1) ≤ 1 by decide +kernel)) (by decide)
      have L57 : ln ((x.tmod y) - y) ≤ 68719476737 := Nat.le_trans (ln_sub L25 Ly) (by decide)
      refine cw_draw mix 6 [] [Is (.agg #[.bool s30, .slice A30 n30 c30]), ZR w.heap.size (1), ZR w.heap.size ((x.tdiv y) + 1), Is (.agg #[.bool true, .slice A31 n31 c31]), Is (.agg #[.bool true, .slice Ab nb cb]), ZR w.heap.size ((x.tmod y) - y)] [[], [], [0, 1], [], [], [3, 4]] [[], [], [0, 1], [], [], [0, 1, 2, 3, 4], [0, 1, 2, 3, 4, 5], [0, 1, 2, 3, 4, 5, 6], [0, 1, 2, 3, 4, 5, 6, 7]] rfl
        (obs_cons rfl rfl (hob rfl rfl ?_) (obs_cons rfl rfl (hob rfl rfl ?_) (obs_cons rfl rfl (hob rfl rfl ?_) (obs_cons rfl rfl (hob rfl rfl ?_) (obs_cons rfl rfl (hob rfl rfl ?_) (obs_cons rfl rfl (hob rfl rfl ?_) obs_nil)))))) ?_
      · -- 0
        intro v59 e60
        have hw10 : Ext w v59 := hw9.trans e60
        refine deps_nil ?_
        refine wl_load rfl rfl (load_agg aggInt ((hb46.updN u52 (by omega)).ext e60) [.bool s30, .slice A30 n30 c30] rfl (Nat.le_of_ble_eq_true rfl) rfl) (by decide) ?_
        exact pi_done rfl (Ext.refl _) rfl
      · -- 1
        intro v61 e62
        have hw10 : Ext w v61 := hw9.trans e62
        refine deps_nil ?_
        refine wl_call rfl rfl (vs := [.int .i64 1]) (by kernel_rfl) (by decide) (g_zint_Of hw10.size (by decide) (by decide)) ?_
        rintro _ v63 ⟨xr65, rfl, r65, e64⟩
        refine ret_intro ?_
        have hw11 : Ext w v63 := hw10.trans e64
        obtain ⟨s66, A66, n66, c66, rfl, z66⟩ := r65
        exact pi_done rfl e64 ⟨_, _, _, _, rfl, z66⟩
      · -- 2
        intro v67 e68
        have hw10 : Ext w v67 := hw9.trans e68
        refine deps_cons rfl rfl fun x69 y70 h71 e72 f73 => ?_
        obtain rfl := h71
        refine deps_cons rfl rfl fun x74 y75 h76 e77 f78 => ?_
        obtain ⟨s79, A79, n79, c79, rfl, z79⟩ := h76
        have z79 := z79.ext f78
        refine deps_nil ?_
        have L80 : ln ((x.tdiv y) + 1) ≤ 68719476737 := Nat.le_trans (ln_add L24 (show ln (1) ≤ 1 by decide +kernel)) (by decide)
        refine wl_call rfl rfl (vs := [.agg #[.bool s30, .slice A30 n30 c30], .agg #[.bool s79, .slice A79 n79 c79]]) (by kernel_rfl) (by decide) (g_zint_Add hw10.size ((((z30.ext (e34.trans e40)).updT hb45 u47).updT hb50 u52).ext e68).zi (z30.le (Nat.le_trans L24 (by decide))) z79.zi (z79.le (Nat.le_trans (show ln (1) ≤ 1 by decide +kernel) (by decide)))) ?_
        rintro _ v81 ⟨xr83, rfl, r83, e82⟩
        refine ret_intro ?_
        have hw11 : Ext w v81 := hw10.trans e82
        obtain ⟨s84, A84, n84, c84, rfl, z84⟩ := r83
        exact pi_done rfl e82 ⟨_, _, _, _, rfl, z84⟩
      · -- 3
        intro v85 e86
        have hw10 : Ext w v85 := hw9.trans e86
        refine deps_nil ?_
        refine wl_load rfl rfl (load_agg aggInt (hb51.ext e86) [.bool true, .slice A31 n31 c31] rfl (Nat.le_of_ble_eq_true rfl) rfl) (by decide) ?_
        exact pi_done rfl (Ext.refl _) rfl
      · -- 4
        intro v87 e88
        have hw10 : Ext w v87 := hw9.trans e88
        refine deps_nil ?_
        refine wl_load rfl rfl (load_agg aggInt ((((hb9.ext (e14.trans (e20.trans (e27.trans (e34.trans e40))))).updN u47 (by omega)).updN u52 (by omega)).ext e88) [.bool true, .slice Ab nb cb] rfl (Nat.le_of_ble_eq_true rfl) rfl) (by decide) ?_
        exact pi_done rfl (Ext.refl _) rfl
      · -- 5
        intro v89 e90
        have hw10 : Ext w v89 := hw9.trans e90
        refine deps_cons rfl rfl fun x91 y92 h93 e94 f95 => ?_
        obtain rfl := h93
        refine deps_cons rfl rfl fun x96 y97 h98 e99 f100 => ?_
        obtain rfl := h98
        refine deps_nil ?_
        have L101 : ln ((x.tmod y) - y) ≤ 68719476737 := Nat.le_trans (ln_sub L25 Ly) (by decide)
        refine wl_call rfl rfl (vs := [.agg #[.bool true, .slice A31 n31 c31], .agg #[.bool true, .slice Ab nb cb]]) (by kernel_rfl) (by decide) (g_zint_Sub hw10.size ((((z31.ext (e34.trans e40)).updT hb45 u47).updT hb50 u52).ext e90).zi (z31.le (Nat.le_trans L25 (by decide))) (hy.ext hw10) (Nat.le_trans lb (by decide))) ?_
        rintro _ v102 ⟨xr104, rfl, r104, e103⟩
        refine ret_intro ?_
        have hw11 : Ext w v102 := hw10.trans e103
        obtain ⟨s105, A105, n105, c105, rfl, z105⟩ := r104
        exact pi_done rfl e103 ⟨_, _, _, _, rfl, z105⟩
      · -- all
        intro v106 e107
        have hw10 : Ext w v106 := hw9.trans e107
        refine deps_cons rfl rfl fun x108 y109 h110 e111 f112 => ?_
        obtain rfl := h110
        refine deps_cons rfl rfl fun x113 y114 h115 e116 f117 => ?_
        obtain ⟨s118, A118, n118, c118, rfl, z118⟩ := h115
        have z118 := z118.ext f117
        refine deps_cons rfl rfl fun x119 y120 h121 e122 f123 => ?_
        obtain ⟨s124, A124, n124, c124, rfl, z124⟩ := h121
        have z124 := z124.ext f123
        refine deps_cons rfl rfl fun x125 y126 h127 e128 f129 => ?_
        obtain rfl := h127
        refine deps_cons rfl rfl fun x130 y131 h132 e133 f134 => ?_
        obtain rfl := h132
        refine deps_cons rfl rfl fun x135 y136 h137 e138 f139 => ?_
        obtain ⟨s140, A140, n140, c140, rfl, z140⟩ := h137
        have z140 := z140.ext f139
        refine deps_nil ?_
        have hb142 := ((((hb15.ext (e20.trans (e27.trans (e34.trans e40)))).updN u47 (by omega)).updN u52 (by omega)).ext e107)
        refine wl_stored rfl rfl rfl aggInt rfl hb142 (Nat.le_of_ble_eq_true rfl) rfl [.bool s124, .slice A124 n124 c124] rfl fun v141 hb143 u144 hs145 => ?_
        have hw11 : Ext w v141 := u144.ext hw10 ge16
        have hb147 := (((((hb21.ext (e27.trans (e34.trans e40))).updN u47 (by omega)).updN u52 (by omega)).ext e107).updN u144 (by omega))
        refine wl_stored rfl rfl rfl aggInt rfl hb147 (Nat.le_of_ble_eq_true rfl) rfl [.bool s140, .slice A140 n140 c140] rfl fun v146 hb148 u149 hs150 => ?_
        have hw12 : Ext w v146 := u149.ext hw11 ge22
        refine wl_assign rfl rfl (by decide) ?_
        refine wl_nil ?_
        refine eo_np ?_
        refine eo_then ?_
        refine cw_ret ?_
        refine eo_thenR ?_
        refine eo_ret [.agg #[.bool s124, .slice A124 n124 c124], .agg #[.bool s140, .slice A140 n140 c140], .int .i64 0] rfl ⟨⟨_, rfl, load_agg aggInt (hb143.updN u149 (by omega)) [.bool s124, .slice A124 n124 c124] rfl (Nat.le_of_ble_eq_true rfl) rfl⟩, ⟨_, rfl, load_agg aggInt hb148 [.bool s140, .slice A140 n140 c140] rfl (Nat.le_of_ble_eq_true rfl) rfl⟩, rfl, trivial⟩ ?_
        exact ⟨_, rfl, ⟨_, _, _, rfl, ⟨_, _, _, _, rfl, (((z124.updT hb142 u144).updT hb147 u149)).cast (hq.1)⟩, ⟨_, _, _, _, rfl, (((z140.updT hb142 u144).updT hb147 u149)).cast (hq.2)⟩, rfl⟩, hw12⟩
    ·
      obtain rfl : sb = false := by rw [hy.sgn h0]; exact decide_eq_false hyn
      have hq := ediv_pos' hr (by omega)
      refine cw_region ?_
      refine wl_pure rfl rfl (v := .pointer (some ⟨g6, 0, none⟩)) (by decide) (by kernel_rfl) ?_
      refine wl_load rfl rfl (load_cell cellBool (((hb9.ext (e14.trans (e20.trans (e27.trans (e34.trans e40))))).updN u47 (by omega)).updN u52 (by omega)) rfl) (by decide) ?_
      refine wl_nil ?_
      refine eo_then ?_
      refine cw_false rfl ?_
      refine cw_skip ?_
      refine eo_then ?_
      refine cw_seq ?_
      have L152 : ln ((x.tdiv y) - 1) ≤ 68719476737 := Nat.le_trans (ln_sub L24 (show ln (1) ≤ 1 by decide +kernel)) (by decide)
      have L154 : ln ((x.tmod y) + y) ≤ 68719476737 := Nat.le_trans (ln_add L25 Ly) (by decide)
      refine cw_draw mix 6 [] [Is (.agg #[.bool s30, .slice A30 n30 c30]), ZR w.heap.size (1), ZR w.heap.size ((x.tdiv y) - 1), Is (.agg #[.bool true, .slice A31 n31 c31]), Is (.agg #[.bool false, .slice Ab nb cb]), ZR w.heap.size ((x.tmod y) + y)] [[], [], [0, 1], [], [], [3, 4]] [[], [], [0, 1], [], [], [0, 1, 2, 3, 4], [0, 1, 2, 3, 4, 5], [0, 1, 2, 3, 4, 5, 6], [0, 1, 2, 3, 4, 5, 6, 7]] rfl
        (obs_cons rfl rfl (hob rfl rfl ?_) (obs_cons rfl rfl (hob rfl rfl ?_) (obs_cons rfl rfl (hob rfl rfl ?_) (obs_cons rfl rfl (hob rfl rfl ?_) (obs_cons rfl rfl (hob rfl rfl ?_) (obs_cons rfl rfl (hob rfl rfl ?_) obs_nil)))))) ?_
      · -- 0
        intro v156 e157
        have hw10 : Ext w v156 := hw9.trans e157
        refine deps_nil ?_
        refine wl_load rfl rfl (load_agg aggInt ((hb46.updN u52 (by omega)).ext e157) [.bool s30, .slice A30 n30 c30] rfl (Nat.le_of_ble_eq_true rfl) rfl) (by decide) ?_
        exact pi_done rfl (Ext.refl _) rfl
      · -- 1
        intro v158 e159
        have hw10 : Ext w v158 := hw9.trans e159
        refine deps_nil ?_
        refine wl_call rfl rfl (vs := [.int .i64 1]) (by kernel_rfl) (by decide) (g_zint_Of hw10.size (by decide) (by decide)) ?_
        rintro _ v160 ⟨xr162, rfl, r162, e161⟩
        refine ret_intro ?_
        have hw11 : Ext w v160 := hw10.trans e161
        obtain ⟨s163, A163, n163, c163, rfl, z163⟩ := r162
        exact pi_done rfl e161 ⟨_, _, _, _, rfl, z163⟩
      · -- 2
        intro v164 e165
        have hw10 : Ext w v164 := hw9.trans e165
        refine deps_cons rfl rfl fun x166 y167 h168 e169 f170 => ?_
        obtain rfl := h168
        refine deps_cons rfl rfl fun x171 y172 h173 e174 f175 => ?_
        obtain ⟨s176, A176, n176, c176, rfl, z176⟩ := h173
        have z176 := z176.ext f175
        refine deps_nil ?_
        have L177 : ln ((x.tdiv y) - 1) ≤ 68719476737 := Nat.le_trans (ln_sub L24 (show ln (1) ≤ 1 by decide +kernel)) (by decide)
        refine wl_call rfl rfl (vs := [.agg #[.bool s30, .slice A30 n30 c30], .agg #[.bool s176, .slice A176 n176 c176]]) (by kernel_rfl) (by decide) (g_zint_Sub hw10.size ((((z30.ext (e34.trans e40)).updT hb45 u47).updT hb50 u52).ext e165).zi (z30.le (Nat.le_trans L24 (by decide))) z176.zi (z176.le (Nat.le_trans (show ln (1) ≤ 1 by decide +kernel) (by decide)))) ?_
        rintro _ v178 ⟨xr180, rfl, r180, e179⟩
        refine ret_intro ?_
        have hw11 : Ext w v178 := hw10.trans e179
        obtain ⟨s181, A181, n181, c181, rfl, z181⟩ := r180
        exact pi_done rfl e179 ⟨_, _, _, _, rfl, z181⟩
      · -- 3
        intro v182 e183
        have hw10 : Ext w v182 := hw9.trans e183
        refine deps_nil ?_
        refine wl_load rfl rfl (load_agg aggInt (hb51.ext e183) [.bool true, .slice A31 n31 c31] rfl (Nat.le_of_ble_eq_true rfl) rfl) (by decide) ?_
        exact pi_done rfl (Ext.refl _) rfl
      · -- 4
        intro v184 e185
        have hw10 : Ext w v184 := hw9.trans e185
        refine deps_nil ?_
        refine wl_load rfl rfl (load_agg aggInt ((((hb9.ext (e14.trans (e20.trans (e27.trans (e34.trans e40))))).updN u47 (by omega)).updN u52 (by omega)).ext e185) [.bool false, .slice Ab nb cb] rfl (Nat.le_of_ble_eq_true rfl) rfl) (by decide) ?_
        exact pi_done rfl (Ext.refl _) rfl
      · -- 5
        intro v186 e187
        have hw10 : Ext w v186 := hw9.trans e187
        refine deps_cons rfl rfl fun x188 y189 h190 e191 f192 => ?_
        obtain rfl := h190
        refine deps_cons rfl rfl fun x193 y194 h195 e196 f197 => ?_
        obtain rfl := h195
        refine deps_nil ?_
        have L198 : ln ((x.tmod y) + y) ≤ 68719476737 := Nat.le_trans (ln_add L25 Ly) (by decide)
        refine wl_call rfl rfl (vs := [.agg #[.bool true, .slice A31 n31 c31], .agg #[.bool false, .slice Ab nb cb]]) (by kernel_rfl) (by decide) (g_zint_Add hw10.size ((((z31.ext (e34.trans e40)).updT hb45 u47).updT hb50 u52).ext e187).zi (z31.le (Nat.le_trans L25 (by decide))) (hy.ext hw10) (Nat.le_trans lb (by decide))) ?_
        rintro _ v199 ⟨xr201, rfl, r201, e200⟩
        refine ret_intro ?_
        have hw11 : Ext w v199 := hw10.trans e200
        obtain ⟨s202, A202, n202, c202, rfl, z202⟩ := r201
        exact pi_done rfl e200 ⟨_, _, _, _, rfl, z202⟩
      · -- all
        intro v203 e204
        have hw10 : Ext w v203 := hw9.trans e204
        refine deps_cons rfl rfl fun x205 y206 h207 e208 f209 => ?_
        obtain rfl := h207
        refine deps_cons rfl rfl fun x210 y211 h212 e213 f214 => ?_
        obtain ⟨s215, A215, n215, c215, rfl, z215⟩ := h212
        have z215 := z215.ext f214
        refine deps_cons rfl rfl fun x216 y217 h218 e219 f220 => ?_
        obtain ⟨s221, A221, n221, c221, rfl, z221⟩ := h218
        have z221 := z221.ext f220
        refine deps_cons rfl rfl fun x222 y223 h224 e225 f226 => ?_
        obtain rfl := h224
        refine deps_cons rfl rfl fun x227 y228 h229 e230 f231 => ?_
        obtain rfl := h229
        refine deps_cons rfl rfl fun x232 y233 h234 e235 f236 => ?_
        obtain ⟨s237, A237, n237, c237, rfl, z237⟩ := h234
        have z237 := z237.ext f236
        refine deps_nil ?_
        have hb239 := ((((hb15.ext (e20.trans (e27.trans (e34.trans e40)))).updN u47 (by omega)).updN u52 (by omega)).ext e204)
        refine wl_stored rfl rfl rfl aggInt rfl hb239 (Nat.le_of_ble_eq_true rfl) rfl [.bool s221, .slice A221 n221 c221] rfl fun v238 hb240 u241 hs242 => ?_
        have hw11 : Ext w v238 := u241.ext hw10 ge16
        have hb244 := (((((hb21.ext (e27.trans (e34.trans e40))).updN u47 (by omega)).updN u52 (by omega)).ext e204).updN u241 (by omega))
        refine wl_stored rfl rfl rfl aggInt rfl hb244 (Nat.le_of_ble_eq_true rfl) rfl [.bool s237, .slice A237 n237 c237] rfl fun v243 hb245 u246 hs247 => ?_
        have hw12 : Ext w v243 := u246.ext hw11 ge22
        refine wl_assign rfl rfl (by decide) ?_
        refine wl_nil ?_
        refine eo_np ?_
        refine eo_then ?_
        refine cw_ret ?_
        refine eo_ret [.agg #[.bool s221, .slice A221 n221 c221], .agg #[.bool s237, .slice A237 n237 c237], .int .i64 0] rfl ⟨⟨_, rfl, load_agg aggInt (hb240.updN u246 (by omega)) [.bool s221, .slice A221 n221 c221] rfl (Nat.le_of_ble_eq_true rfl) rfl⟩, ⟨_, rfl, load_agg aggInt hb245 [.bool s237, .slice A237 n237 c237] rfl (Nat.le_of_ble_eq_true rfl) rfl⟩, rfl, trivial⟩ ?_
        exact ⟨_, rfl, ⟨_, _, _, rfl, ⟨_, _, _, _, rfl, (((z221.updT hb239 u241).updT hb244 u246)).cast (hq.1)⟩, ⟨_, _, _, _, rfl, (((z237.updT hb239 u241).updT hb244 u246)).cast (hq.2)⟩, rfl⟩, hw12⟩
  ·
    obtain rfl : s31 = false := by rw [z31.sgn]; exact decide_eq_false hr
    refine cw_region ?_
    refine wl_move rfl rfl (by decide) ?_
    refine wl_pure rfl rfl (v := .bool false) (by decide) (by kernel_rfl) ?_
    refine wl_move rfl rfl (by decide) ?_
    refine wl_pure rfl rfl (v := .pointer (some ⟨g38, 0, none⟩)) (by decide) (by kernel_rfl) ?_
    refine wl_load rfl rfl (load_cell cellBool hb51 rfl) (by decide) ?_
    refine wl_pure rfl rfl (v := .bool true) (by decide) (by kernel_rfl) ?_
    refine wl_pure rfl rfl (v := .bool true) (by decide) (by kernel_rfl) ?_
    refine wl_nil ?_
    refine eo_then ?_
    refine cw_true rfl ?_
    refine cw_seq ?_
    refine cw_keep [(0, .agg #[.bool sa, .slice Aa na ca]), (1, .agg #[.bool sb, .slice Ab nb cb]), (2, .pointer (some ⟨g1, 0, none⟩)), (3, .pointer (some ⟨g6, 0, none⟩)), (4, .pointer (some ⟨g12, 0, none⟩)), (5, .pointer (some ⟨g18, 0, none⟩)), (11, .agg #[.bool sa, .slice Aa na ca]), (12, .agg #[.bool sb, .slice Ab nb cb]), (13, .tuple #[.agg #[.bool s30, .slice A30 n30 c30], .agg #[.bool false, .slice A31 n31 c31], .int .i64 0]), (10, .tuple #[.agg #[.bool s30, .slice A30 n30 c30], .agg #[.bool false, .slice A31 n31 c31], .int .i64 0]), (14, .agg #[.bool s30, .slice A30 n30 c30]), (15, .agg #[.bool false, .slice A31 n31 c31]), (16, .int .i64 0), (7, .pointer (some ⟨g32, 0, none⟩)), (8, .pointer (some ⟨g38, 0, none⟩)), (9, .int .i64 0), (17, .int .i64 0), (18, .bool false), (19, .bool false), (20, .pointer (some ⟨g38, 0, none⟩)), (21, .bool false), (22, .bool true), (23, .bool true)] ⟨rfl, rfl, rfl, rfl, rfl, rfl, rfl, rfl, rfl, rfl, rfl, rfl, rfl, rfl, rfl, rfl, rfl, rfl, rfl, rfl, rfl, rfl, rfl, trivial⟩ ?_
    obtain ⟨v248, hv, e249⟩ : ∃ v, v = v49.drew ∧ Ext v49 v := ⟨_, rfl, (Ext.refl _).drew⟩
    have hw10 : Ext w v248 := hw9.trans e249
    have hb251 := ((((hb15.ext (e20.trans (e27.trans (e34.trans e40)))).updN u47 (by omega)).updN u52 (by omega)).ext e249)
    obtain ⟨v250, hr255, hb252, u253, hs254⟩ := run_stored (P := Try.prog) (us := [.bool s30, .slice A30 n30 c30]) (off := 0) aggInt rfl hb251 (Nat.le_of_ble_eq_true rfl) rfl [.bool s30, .slice A30 n30 c30] rfl
    have hw11 : Ext w v250 := u253.ext hw10 ge16
    have hb257 := (((((hb21.ext (e27.trans (e34.trans e40))).updN u47 (by omega)).updN u52 (by omega)).ext e249).updN u253 (by omega))
    obtain ⟨v256, hr261, hb258, u259, hs260⟩ := run_stored (P := Try.prog) (us := [.bool false, .slice A31 n31 c31]) (off := 0) aggInt rfl hb257 (Nat.le_of_ble_eq_true rfl) rfl [.bool false, .slice A31 n31 c31] rfl
    have hw12 : Ext w v256 := u259.ext hw11 ge22
    refine cw_det mix (w := v248) [.agg #[.bool s30, .slice A30 n30 c30], .agg #[.bool false, .slice A31 n31 c31], .int .i64 0, undef, undef, .int .i64 0] [v248, v250, v256] [3, 4] [[], [], [], [0], [1], [2]] [[], [], [], [0], [0, 1, 3], [0, 1, 2, 3, 4]] [(0, 0), (1, 0), (1, 1), (2, 0), (2, 1), (2, 2), (3, 0), (4, 1), (5, 2)] rfl hv ?_ ?_
    ·
      refine dobs_val ([(0, .agg #[.bool sa, .slice Aa na ca]), (1, .agg #[.bool sb, .slice Ab nb cb]), (2, .pointer (some ⟨g1, 0, none⟩)), (3, .pointer (some ⟨g6, 0, none⟩)), (4, .pointer (some ⟨g12, 0, none⟩)), (5, .pointer (some ⟨g18, 0, none⟩)), (11, .agg #[.bool sa, .slice Aa na ca]), (12, .agg #[.bool sb, .slice Ab nb cb]), (13, .tuple #[.agg #[.bool s30, .slice A30 n30 c30], .agg #[.bool false, .slice A31 n31 c31], .int .i64 0]), (10, .tuple #[.agg #[.bool s30, .slice A30 n30 c30], .agg #[.bool false, .slice A31 n31 c31], .int .i64 0]), (14, .agg #[.bool s30, .slice A30 n30 c30]), (15, .agg #[.bool false, .slice A31 n31 c31]), (16, .int .i64 0), (7, .pointer (some ⟨g32, 0, none⟩)), (8, .pointer (some ⟨g38, 0, none⟩)), (9, .int .i64 0), (17, .int .i64 0), (18, .bool false), (19, .bool false), (20, .pointer (some ⟨g38, 0, none⟩)), (21, .bool false), (22, .bool true), (23, .bool true)]) rfl rfl rfl rfl rfl (rd_load rfl (load_agg aggInt ((hb46.updN u52 (by omega)).ext e249) [.bool s30, .slice A30 n30 c30] rfl (Nat.le_of_ble_eq_true rfl) rfl)) ?_
      refine dobs_val ([(0, .agg #[.bool sa, .slice Aa na ca]), (1, .agg #[.bool sb, .slice Ab nb cb]), (2, .pointer (some ⟨g1, 0, none⟩)), (3, .pointer (some ⟨g6, 0, none⟩)), (4, .pointer (some ⟨g12, 0, none⟩)), (5, .pointer (some ⟨g18, 0, none⟩)), (11, .agg #[.bool sa, .slice Aa na ca]), (12, .agg #[.bool sb, .slice Ab nb cb]), (13, .tuple #[.agg #[.bool s30, .slice A30 n30 c30], .agg #[.bool false, .slice A31 n31 c31], .int .i64 0]), (10, .tuple #[.agg #[.bool s30, .slice A30 n30 c30], .agg #[.bool false, .slice A31 n31 c31], .int .i64 0]), (14, .agg #[.bool s30, .slice A30 n30 c30]), (15, .agg #[.bool false, .slice A31 n31 c31]), (16, .int .i64 0), (7, .pointer (some ⟨g32, 0, none⟩)), (8, .pointer (some ⟨g38, 0, none⟩)), (9, .int .i64 0), (17, .int .i64 0), (18, .bool false), (19, .bool false), (20, .pointer (some ⟨g38, 0, none⟩)), (21, .bool false), (22, .bool true), (23, .bool true)]) rfl rfl rfl rfl rfl (rd_load rfl (load_agg aggInt (hb51.ext e249) [.bool false, .slice A31 n31 c31] rfl (Nat.le_of_ble_eq_true rfl) rfl)) ?_
      refine dobs_val ([(0, .agg #[.bool sa, .slice Aa na ca]), (1, .agg #[.bool sb, .slice Ab nb cb]), (2, .pointer (some ⟨g1, 0, none⟩)), (3, .pointer (some ⟨g6, 0, none⟩)), (4, .pointer (some ⟨g12, 0, none⟩)), (5, .pointer (some ⟨g18, 0, none⟩)), (11, .agg #[.bool sa, .slice Aa na ca]), (12, .agg #[.bool sb, .slice Ab nb cb]), (13, .tuple #[.agg #[.bool s30, .slice A30 n30 c30], .agg #[.bool false, .slice A31 n31 c31], .int .i64 0]), (10, .tuple #[.agg #[.bool s30, .slice A30 n30 c30], .agg #[.bool false, .slice A31 n31 c31], .int .i64 0]), (14, .agg #[.bool s30, .slice A30 n30 c30]), (15, .agg #[.bool false, .slice A31 n31 c31]), (16, .int .i64 0), (7, .pointer (some ⟨g32, 0, none⟩)), (8, .pointer (some ⟨g38, 0, none⟩)), (9, .int .i64 0), (17, .int .i64 0), (18, .bool false), (19, .bool false), (20, .pointer (some ⟨g38, 0, none⟩)), (21, .bool false), (22, .bool true), (23, .bool true)]) rfl rfl rfl rfl rfl (rd_load rfl (load_agg aggInt ((hb51.ext e249).updN u253 (by omega)) [.bool false, .slice A31 n31 c31] rfl (Nat.le_of_ble_eq_true rfl) rfl)) ?_
      refine dobs_val ([(0, .agg #[.bool sa, .slice Aa na ca]), (1, .agg #[.bool sb, .slice Ab nb cb]), (2, .pointer (some ⟨g1, 0, none⟩)), (3, .pointer (some ⟨g6, 0, none⟩)), (4, .pointer (some ⟨g12, 0, none⟩)), (5, .pointer (some ⟨g18, 0, none⟩)), (11, .agg #[.bool sa, .slice Aa na ca]), (12, .agg #[.bool sb, .slice Ab nb cb]), (13, .tuple #[.agg #[.bool s30, .slice A30 n30 c30], .agg #[.bool false, .slice A31 n31 c31], .int .i64 0]), (10, .tuple #[.agg #[.bool s30, .slice A30 n30 c30], .agg #[.bool false, .slice A31 n31 c31], .int .i64 0]), (14, .agg #[.bool s30, .slice A30 n30 c30]), (15, .agg #[.bool false, .slice A31 n31 c31]), (16, .int .i64 0), (7, .pointer (some ⟨g32, 0, none⟩)), (8, .pointer (some ⟨g38, 0, none⟩)), (9, .int .i64 0), (17, .int .i64 0), (18, .bool false), (19, .bool false), (20, .pointer (some ⟨g38, 0, none⟩)), (21, .bool false), (22, .bool true), (23, .bool true)]) rfl rfl rfl rfl rfl (rd_move rfl) ?_
      refine dobs_val ([(0, .agg #[.bool sa, .slice Aa na ca]), (1, .agg #[.bool sb, .slice Ab nb cb]), (2, .pointer (some ⟨g1, 0, none⟩)), (3, .pointer (some ⟨g6, 0, none⟩)), (4, .pointer (some ⟨g12, 0, none⟩)), (5, .pointer (some ⟨g18, 0, none⟩)), (11, .agg #[.bool sa, .slice Aa na ca]), (12, .agg #[.bool sb, .slice Ab nb cb]), (13, .tuple #[.agg #[.bool s30, .slice A30 n30 c30], .agg #[.bool false, .slice A31 n31 c31], .int .i64 0]), (10, .tuple #[.agg #[.bool s30, .slice A30 n30 c30], .agg #[.bool false, .slice A31 n31 c31], .int .i64 0]), (14, .agg #[.bool s30, .slice A30 n30 c30]), (15, .agg #[.bool false, .slice A31 n31 c31]), (16, .int .i64 0), (7, .pointer (some ⟨g32, 0, none⟩)), (8, .pointer (some ⟨g38, 0, none⟩)), (9, .int .i64 0), (17, .int .i64 0), (18, .bool false), (19, .bool false), (20, .pointer (some ⟨g38, 0, none⟩)), (21, .bool false), (22, .bool true), (23, .bool true)]) rfl rfl rfl rfl rfl (rd_move rfl) ?_
      refine dobs_val ([(0, .agg #[.bool sa, .slice Aa na ca]), (1, .agg #[.bool sb, .slice Ab nb cb]), (2, .pointer (some ⟨g1, 0, none⟩)), (3, .pointer (some ⟨g6, 0, none⟩)), (4, .pointer (some ⟨g12, 0, none⟩)), (5, .pointer (some ⟨g18, 0, none⟩)), (11, .agg #[.bool sa, .slice Aa na ca]), (12, .agg #[.bool sb, .slice Ab nb cb]), (13, .tuple #[.agg #[.bool s30, .slice A30 n30 c30], .agg #[.bool false, .slice A31 n31 c31], .int .i64 0]), (10, .tuple #[.agg #[.bool s30, .slice A30 n30 c30], .agg #[.bool false, .slice A31 n31 c31], .int .i64 0]), (14, .agg #[.bool s30, .slice A30 n30 c30]), (15, .agg #[.bool false, .slice A31 n31 c31]), (16, .int .i64 0), (7, .pointer (some ⟨g32, 0, none⟩)), (8, .pointer (some ⟨g38, 0, none⟩)), (9, .int .i64 0), (17, .int .i64 0), (18, .bool false), (19, .bool false), (20, .pointer (some ⟨g38, 0, none⟩)), (21, .bool false), (22, .bool true), (23, .bool true)]) rfl rfl rfl rfl rfl (rd_move rfl) ?_
      refine dobs_sto ((24, .agg #[.bool s30, .slice A30 n30 c30]) :: [(0, .agg #[.bool sa, .slice Aa na ca]), (1, .agg #[.bool sb, .slice Ab nb cb]), (2, .pointer (some ⟨g1, 0, none⟩)), (3, .pointer (some ⟨g6, 0, none⟩)), (4, .pointer (some ⟨g12, 0, none⟩)), (5, .pointer (some ⟨g18, 0, none⟩)), (11, .agg #[.bool sa, .slice Aa na ca]), (12, .agg #[.bool sb, .slice Ab nb cb]), (13, .tuple #[.agg #[.bool s30, .slice A30 n30 c30], .agg #[.bool false, .slice A31 n31 c31], .int .i64 0]), (10, .tuple #[.agg #[.bool s30, .slice A30 n30 c30], .agg #[.bool false, .slice A31 n31 c31], .int .i64 0]), (14, .agg #[.bool s30, .slice A30 n30 c30]), (15, .agg #[.bool false, .slice A31 n31 c31]), (16, .int .i64 0), (7, .pointer (some ⟨g32, 0, none⟩)), (8, .pointer (some ⟨g38, 0, none⟩)), (9, .int .i64 0), (17, .int .i64 0), (18, .bool false), (19, .bool false), (20, .pointer (some ⟨g38, 0, none⟩)), (21, .bool false), (22, .bool true), (23, .bool true)]) rfl rfl rfl rfl rfl (rd_store rfl rfl hr255) ?_
      refine dobs_sto ((25, .agg #[.bool false, .slice A31 n31 c31]) :: [(0, .agg #[.bool sa, .slice Aa na ca]), (1, .agg #[.bool sb, .slice Ab nb cb]), (2, .pointer (some ⟨g1, 0, none⟩)), (3, .pointer (some ⟨g6, 0, none⟩)), (4, .pointer (some ⟨g12, 0, none⟩)), (5, .pointer (some ⟨g18, 0, none⟩)), (11, .agg #[.bool sa, .slice Aa na ca]), (12, .agg #[.bool sb, .slice Ab nb cb]), (13, .tuple #[.agg #[.bool s30, .slice A30 n30 c30], .agg #[.bool false, .slice A31 n31 c31], .int .i64 0]), (10, .tuple #[.agg #[.bool s30, .slice A30 n30 c30], .agg #[.bool false, .slice A31 n31 c31], .int .i64 0]), (14, .agg #[.bool s30, .slice A30 n30 c30]), (15, .agg #[.bool false, .slice A31 n31 c31]), (16, .int .i64 0), (7, .pointer (some ⟨g32, 0, none⟩)), (8, .pointer (some ⟨g38, 0, none⟩)), (9, .int .i64 0), (17, .int .i64 0), (18, .bool false), (19, .bool false), (20, .pointer (some ⟨g38, 0, none⟩)), (21, .bool false), (22, .bool true), (23, .bool true)]) rfl rfl rfl rfl rfl (rd_store rfl rfl hr261) ?_
      refine dobs_val ((26, .int .i64 0) :: [(0, .agg #[.bool sa, .slice Aa na ca]), (1, .agg #[.bool sb, .slice Ab nb cb]), (2, .pointer (some ⟨g1, 0, none⟩)), (3, .pointer (some ⟨g6, 0, none⟩)), (4, .pointer (some ⟨g12, 0, none⟩)), (5, .pointer (some ⟨g18, 0, none⟩)), (11, .agg #[.bool sa, .slice Aa na ca]), (12, .agg #[.bool sb, .slice Ab nb cb]), (13, .tuple #[.agg #[.bool s30, .slice A30 n30 c30], .agg #[.bool false, .slice A31 n31 c31], .int .i64 0]), (10, .tuple #[.agg #[.bool s30, .slice A30 n30 c30], .agg #[.bool false, .slice A31 n31 c31], .int .i64 0]), (14, .agg #[.bool s30, .slice A30 n30 c30]), (15, .agg #[.bool false, .slice A31 n31 c31]), (16, .int .i64 0), (7, .pointer (some ⟨g32, 0, none⟩)), (8, .pointer (some ⟨g38, 0, none⟩)), (9, .int .i64 0), (17, .int .i64 0), (18, .bool false), (19, .bool false), (20, .pointer (some ⟨g38, 0, none⟩)), (21, .bool false), (22, .bool true), (23, .bool true)]) rfl rfl rfl rfl rfl (rd_assign rfl) ?_
      exact dobs_nil
    clear hv
    refine eo_keep [(0, .agg #[.bool sa, .slice Aa na ca]), (1, .agg #[.bool sb, .slice Ab nb cb]), (2, .pointer (some ⟨g1, 0, none⟩)), (3, .pointer (some ⟨g6, 0, none⟩)), (4, .pointer (some ⟨g12, 0, none⟩)), (5, .pointer (some ⟨g18, 0, none⟩)), (11, .agg #[.bool sa, .slice Aa na ca]), (12, .agg #[.bool sb, .slice Ab nb cb]), (13, .tuple #[.agg #[.bool s30, .slice A30 n30 c30], .agg #[.bool false, .slice A31 n31 c31], .int .i64 0]), (10, .tuple #[.agg #[.bool s30, .slice A30 n30 c30], .agg #[.bool false, .slice A31 n31 c31], .int .i64 0]), (14, .agg #[.bool s30, .slice A30 n30 c30]), (15, .agg #[.bool false, .slice A31 n31 c31]), (16, .int .i64 0), (7, .pointer (some ⟨g32, 0, none⟩)), (8, .pointer (some ⟨g38, 0, none⟩)), (9, .int .i64 0), (17, .int .i64 0), (18, .bool false), (19, .bool false), (20, .pointer (some ⟨g38, 0, none⟩)), (21, .bool false), (22, .bool true), (23, .bool true), (24, .agg #[.bool s30, .slice A30 n30 c30]), (25, .agg #[.bool false, .slice A31 n31 c31]), (26, .int .i64 0), (6, .int .i64 0)] ⟨rfl, rfl, rfl, rfl, rfl, rfl, rfl, rfl, rfl, rfl, rfl, rfl, rfl, rfl, rfl, rfl, rfl, rfl, rfl, rfl, rfl, rfl, rfl, rfl, rfl, rfl, rfl, trivial⟩ ?_
    refine eo_then ?_
    refine cw_ret ?_
    refine eo_thenR ?_
    refine eo_ret [.agg #[.bool s30, .slice A30 n30 c30], .agg #[.bool false, .slice A31 n31 c31], .int .i64 0] rfl ⟨⟨_, rfl, load_agg aggInt (hb252.updN u259 (by omega)) [.bool s30, .slice A30 n30 c30] rfl (Nat.le_of_ble_eq_true rfl) rfl⟩, ⟨_, rfl, load_agg aggInt hb258 [.bool false, .slice A31 n31 c31] rfl (Nat.le_of_ble_eq_true rfl) rfl⟩, rfl, trivial⟩ ?_
    exact ⟨_, rfl, ⟨_, _, _, rfl, ⟨_, _, _, _, rfl, (((((((z30.ext (e34.trans e40)).updT hb45 u47).updT hb50 u52).ext e249).updT hb251 u253).updT hb257 u259)).cast ((ediv_pos (by omega)).1)⟩, ⟨_, _, _, _, rfl, (((((((z31.ext (e34.trans e40)).updT hb45 u47).updT hb50 u52).ext e249).updT hb251 u253).updT hb257 u259)).cast ((ediv_pos (by omega)).2)⟩, rfl⟩, hw12⟩
theorem g_zint_Euclid {w : World} {sa : Bool} {Aa : Option Addr} {na ca : Nat} {x : Int} {sb : Bool} {Ab : Option Addr} {nb cb : Nat} {y : Int} {b : Nat} (hb : b ≤ w.heap.size)  (hx : Zi w sa Aa na ca x) (la : na ≤ 68719476736) (hy : Zi w sb Ab nb cb y) (lb : nb ≤ 68719476736) (h0 : y ≠ 0) :
    Calls Try.prog 89 #[.agg #[.bool sa, .slice Aa na ca], .agg #[.bool sb, .slice Ab nb cb]] w (Gv w (T3 (ZR b (x / y)) (ZR b (x % y)) (Is (.int .i64 0)))) := (g_zint_EuclidI hx la hy lb h0).mono (Gv.imp (T3.imp (ZR.imp hb) (ZR.imp hb) Is.imp))
theorem Zi.sg_ {w : World} {s : Bool} {A : Option Addr} {n c : Nat} {z : Int} (h : Zi w s A n c z) : sg s z.natAbs = z := by
  obtain ⟨xs, h1, rfl⟩ := h
  rw [sg_abs]
theorem ln_ediv (x y : Int) : ln (x / y) ≤ ln x + 1 := by
  by_cases h : x.tmod y < 0
  · rcases Int.lt_trichotomy y 0 with hy | hy | hy
    · rw [← (ediv_neg' h hy).1]
      exact Nat.le_trans (ln_add (ln_tdiv x y) (Nat.le_refl _)) (by
        have h1 : x ≠ 0 := fun e => by subst e; simp at h
        have h2 : ln 1 = 1 := ln_one
        have h3 : 0 < ln x := by
          refine Nat.pos_of_ne_zero fun e => h1 ?_
          have := len_wd_zero.1 (show (wd x.natAbs).length = 0 from e)
          omega
        omega)
    · subst hy; simp [ln_zero]
    · rw [← (ediv_pos' h hy).1]
      exact Nat.le_trans (ln_sub (ln_tdiv x y) (Nat.le_refl _)) (by
        have h1 : x ≠ 0 := fun e => by subst e; simp at h
        have h2 : ln 1 = 1 := ln_one
        have h3 : 0 < ln x := by
          refine Nat.pos_of_ne_zero fun e => h1 ?_
          have := len_wd_zero.1 (show (wd x.natAbs).length = 0 from e)
          omega
        omega)
  · rw [← (ediv_pos (by omega)).1]
    exact Nat.le_trans (ln_tdiv x y) (Nat.le_succ _)
theorem ln_emod {x y : Int} (h : y ≠ 0) : ln (x % y) ≤ ln y := by
  refine ln_mono ?_
  have h1 := Int.emod_nonneg x h
  have h2 := Int.emod_lt x h
  omega
set_option maxHeartbeats 4000000 in
theorem g_zint_ModI {w : World} {sa : Bool} {Aa : Option Addr} {na ca : Nat} {x : Int} {sb : Bool} {Ab : Option Addr} {nb cb : Nat} {y : Int} (hx : Zi w sa Aa na ca x) (la : na ≤ 68719476736) (hy : Zi w sb Ab nb cb y) (lb : nb ≤ 68719476736) (h0 : y ≠ 0) :
    Calls Try.prog 69 #[.agg #[.bool sa, .slice Aa na ca], .agg #[.bool sb, .slice Ab nb cb]] w (Gv w (T2 (ZR w.heap.size (x % y)) (Is (.int .i64 0)))) := by
  have Lx : ln x ≤ 68719476736 := Nat.le_trans hx.ln la
  have Ly : ln y ≤ 68719476736 := Nat.le_trans hy.ln lb
  refine sx_enter Try.func69 rfl (n := 18) rfl (Nat.le_of_ble_eq_true rfl) (args := [.agg #[.bool sa, .slice Aa na ca], .agg #[.bool sb, .slice Ab nb cb]]) ?_
  refine cw_keep [(0, .agg #[.bool sa, .slice Aa na ca]), (1, .agg #[.bool sb, .slice Ab nb cb])] ⟨rfl, rfl, trivial⟩ ?_
  refine cw_seq ?_
  refine cw_region ?_
  refine wl_box rfl rfl (vs := [.bool sa, .slice Aa na ca]) rfl (by decide) fun g1 v2 nb => ?_
  have hb4 := nb.bk
  have ge5 : w.heap.size ≤ g1 := by rw [← nb.at_]; exact (Ext.refl w).size
  have e3 := nb.ext
  clear nb
  have hw1 : Ext w v2 := (Ext.refl w).trans e3
  refine wl_box rfl rfl (vs := [.bool sb, .slice Ab nb cb]) rfl (by decide) fun g6 v7 nb => ?_
  have hb9 := nb.bk
  have ge10 : w.heap.size ≤ g6 := by rw [← nb.at_]; exact hw1.size
  have q11 : g1 < g6 := by rw [← nb.at_]; exact hb4.lt
  have e8 := nb.ext
  clear nb
  have hw2 : Ext w v7 := hw1.trans e8
  refine wl_alloc rfl (z := .agg #[.bool false, .slice none 0 0]) (vs := [.bool false, .slice none 0 0]) (fun _ => by kernel_rfl) rfl (by decide) fun g12 v13 nb => ?_
  have hb15 := nb.bk
  have ge16 : w.heap.size ≤ g12 := by rw [← nb.at_]; exact hw2.size
  have q17 : g6 < g12 := by rw [← nb.at_]; exact hb9.lt
  have e14 := nb.ext
  clear nb
  have hw3 : Ext w v13 := hw2.trans e14
  refine wl_assign rfl rfl (by decide) ?_
  refine wl_nil ?_
  refine eo_then ?_
  refine cw_seq ?_
  refine cw_region ?_
  refine wl_load rfl rfl (load_agg aggInt (hb4.ext (e8.trans e14)) [.bool sa, .slice Aa na ca] rfl (Nat.le_of_ble_eq_true rfl) rfl) (by decide) ?_
  refine wl_load rfl rfl (load_agg aggInt (hb9.ext e14) [.bool sb, .slice Ab nb cb] rfl (Nat.le_of_ble_eq_true rfl) rfl) (by decide) ?_
  have L18 : ln (x / y) ≤ 68719476737 := Nat.le_trans (ln_ediv _ _) (Nat.succ_le_succ Lx)
  have L19 : ln (x % y) ≤ 68719476736 := Nat.le_trans (ln_emod h0) Ly
  refine wl_call rfl rfl (vs := [.agg #[.bool sa, .slice Aa na ca], .agg #[.bool sb, .slice Ab nb cb]]) (by kernel_rfl) (by decide) (g_zint_Euclid hw3.size (hx.ext hw3) (Nat.le_trans la (by decide)) (hy.ext hw3) (Nat.le_trans lb (by decide)) h0) ?_
  rintro _ v20 ⟨xr22, rfl, r22, e21⟩
  refine ret_intro ?_
  have hw4 : Ext w v20 := hw3.trans e21
  obtain ⟨a23_0, a23_1, a23_2, rfl, r23_0, r23_1, r23_2⟩ := r22
  obtain ⟨s24, A24, n24, c24, rfl, z24⟩ := r23_0
  obtain ⟨s25, A25, n25, c25, rfl, z25⟩ := r23_1
  obtain rfl := r23_2
  refine wl_move rfl rfl (by decide) ?_
  refine wl_pure rfl rfl (v := .agg #[.bool s24, .slice A24 n24 c24]) (by decide) (by kernel_rfl) ?_
  refine wl_pure rfl rfl (v := .agg #[.bool s25, .slice A25 n25 c25]) (by decide) (by kernel_rfl) ?_
  refine wl_pure rfl rfl (v := .int .i64 0) (by decide) (by kernel_rfl) ?_
  refine wl_alloc rfl (z := .agg #[.bool false, .slice none 0 0]) (vs := [.bool false, .slice none 0 0]) (fun _ => by kernel_rfl) rfl (by decide) fun g26 v27 nb => ?_
  have hb29 := nb.bk
  have ge30 : w.heap.size ≤ g26 := by rw [← nb.at_]; exact hw4.size
  have q31 : g12 < g26 := by rw [← nb.at_]; exact (hb15.ext e21).lt
  have e28 := nb.ext
  clear nb
  have hw5 : Ext w v27 := hw4.trans e28
  refine wl_alloc rfl (z := .agg #[.bool false, .slice none 0 0]) (vs := [.bool false, .slice none 0 0]) (fun _ => by kernel_rfl) rfl (by decide) fun g32 v33 nb => ?_
  have hb35 := nb.bk
  have ge36 : w.heap.size ≤ g32 := by rw [← nb.at_]; exact hw5.size
  have q37 : g26 < g32 := by rw [← nb.at_]; exact hb29.lt
  have e34 := nb.ext
  clear nb
  have hw6 : Ext w v33 := hw5.trans e34
  have hb39 := (hb29.ext e34)
  refine wl_stored rfl rfl rfl aggInt rfl hb39 (Nat.le_of_ble_eq_true rfl) rfl [.bool s24, .slice A24 n24 c24] rfl fun v38 hb40 u41 hs42 => ?_
  have hw7 : Ext w v38 := u41.ext hw6 ge30
  have hb44 := (hb35.updN u41 (by omega))
  refine wl_stored rfl rfl rfl aggInt rfl hb44 (Nat.le_of_ble_eq_true rfl) rfl [.bool s25, .slice A25 n25 c25] rfl fun v43 hb45 u46 hs47 => ?_
  have hw8 : Ext w v43 := u46.ext hw7 ge36
  refine wl_assign rfl rfl (by decide) ?_
  refine wl_nil ?_
  refine eo_then ?_
  refine cw_seq ?_
  refine cw_region ?_
  refine wl_load rfl rfl (load_agg aggInt hb45 [.bool s25, .slice A25 n25 c25] rfl (Nat.le_of_ble_eq_true rfl) rfl) (by decide) ?_
  refine wl_move rfl rfl (by decide) ?_
  have hb49 := (((hb15.ext (e21.trans (e28.trans e34))).updN u41 (by omega)).updN u46 (by omega))
  refine wl_stored rfl rfl rfl aggInt rfl hb49 (Nat.le_of_ble_eq_true rfl) rfl [.bool s25, .slice A25 n25 c25] rfl fun v48 hb50 u51 hs52 => ?_
  have hw9 : Ext w v48 := u51.ext hw8 ge16
  refine wl_assign rfl rfl (by decide) ?_
  refine wl_nil ?_
  refine eo_then ?_
  refine cw_ret ?_
  refine eo_ret [.agg #[.bool s25, .slice A25 n25 c25], .int .i64 0] rfl ⟨⟨_, rfl, load_agg aggInt hb50 [.bool s25, .slice A25 n25 c25] rfl (Nat.le_of_ble_eq_true rfl) rfl⟩, rfl, trivial⟩ ?_
  exact ⟨_, rfl, ⟨_, _, rfl, ⟨_, _, _, _, rfl, ((((z25.ext (e28.trans e34)).updT hb39 u41).updT hb44 u46).updT hb49 u51)⟩, rfl⟩, hw9⟩
theorem g_zint_Mod {w : World} {sa : Bool} {Aa : Option Addr} {na ca : Nat} {x : Int} {sb : Bool} {Ab : Option Addr} {nb cb : Nat} {y : Int} {b : Nat} (hb : b ≤ w.heap.size)  (hx : Zi w sa Aa na ca x) (la : na ≤ 68719476736) (hy : Zi w sb Ab nb cb y) (lb : nb ≤ 68719476736) (h0 : y ≠ 0) :
    Calls Try.prog 69 #[.agg #[.bool sa, .slice Aa na ca], .agg #[.bool sb, .slice Ab nb cb]] w (Gv w (T2 (ZR b (x % y)) (Is (.int .i64 0)))) := (g_zint_ModI hx la hy lb h0).mono (Gv.imp (T2.imp (ZR.imp hb) Is.imp))
set_option maxHeartbeats 4000000 in
theorem g_zint_Exact_notI {w : World} {sa : Bool} {Aa : Option Addr} {na ca : Nat} {x : Int} {sb : Bool} {Ab : Option Addr} {nb cb : Nat} {y : Int} (hx : Zi w sa Aa na ca x) (la : na ≤ 68719476736) (hy : Zi w sb Ab nb cb y) (lb : nb ≤ 68719476736) (h0 : y ≠ 0) (hd : x.natAbs % y.natAbs ≠ 0) :
    Calls Try.prog 60 #[.agg #[.bool sa, .slice Aa na ca], .agg #[.bool sb, .slice Ab nb cb]] w (Gv w (T2 (ZR w.heap.size (0)) (Is (.int .i64 8)))) := by
  have Lx : ln x ≤ 68719476736 := Nat.le_trans hx.ln la
  have Ly : ln y ≤ 68719476736 := Nat.le_trans hy.ln lb
  refine sx_enter Try.func60 rfl (n := 27) rfl (Nat.le_of_ble_eq_true rfl) (args := [.agg #[.bool sa, .slice Aa na ca], .agg #[.bool sb, .slice Ab nb cb]]) ?_
  refine cw_keep [(0, .agg #[.bool sa, .slice Aa na ca]), (1, .agg #[.bool sb, .slice Ab nb cb])] ⟨rfl, rfl, trivial⟩ ?_
  refine cw_seq ?_
  refine cw_region ?_
  refine wl_box rfl rfl (vs := [.bool sa, .slice Aa na ca]) rfl (by decide) fun g1 v2 nb => ?_
  have hb4 := nb.bk
  have ge5 : w.heap.size ≤ g1 := by rw [← nb.at_]; exact (Ext.refl w).size
  have e3 := nb.ext
  clear nb
  have hw1 : Ext w v2 := (Ext.refl w).trans e3
  refine wl_box rfl rfl (vs := [.bool sb, .slice Ab nb cb]) rfl (by decide) fun g6 v7 nb => ?_
  have hb9 := nb.bk
  have ge10 : w.heap.size ≤ g6 := by rw [← nb.at_]; exact hw1.size
  have q11 : g1 < g6 := by rw [← nb.at_]; exact hb4.lt
  have e8 := nb.ext
  clear nb
  have hw2 : Ext w v7 := hw1.trans e8
  refine wl_alloc rfl (z := .agg #[.bool false, .slice none 0 0]) (vs := [.bool false, .slice none 0 0]) (fun _ => by kernel_rfl) rfl (by decide) fun g12 v13 nb => ?_
  have hb15 := nb.bk
  have ge16 : w.heap.size ≤ g12 := by rw [← nb.at_]; exact hw2.size
  have q17 : g6 < g12 := by rw [← nb.at_]; exact hb9.lt
  have e14 := nb.ext
  clear nb
  have hw3 : Ext w v13 := hw2.trans e14
  refine wl_assign rfl rfl (by decide) ?_
  refine wl_nil ?_
  refine eo_then ?_
  refine cw_seq ?_
  refine cw_region ?_
  refine wl_pure rfl rfl (v := .pointer (some ⟨g1, 1, none⟩)) (by decide) (by kernel_rfl) ?_
  refine wl_load rfl rfl (load_cell cellWords (hb4.ext (e8.trans e14)) rfl) (by decide) ?_
  refine wl_pure rfl rfl (v := .pointer (some ⟨g6, 1, none⟩)) (by decide) (by kernel_rfl) ?_
  refine wl_load rfl rfl (load_cell cellWords (hb9.ext e14) rfl) (by decide) ?_
  refine wl_call rfl rfl (vs := [.slice Aa na ca, .slice Ab nb cb]) (by kernel_rfl) (by decide) (g_divnat_Exact_not (hx.ext hw3).wi (Nat.le_trans la (by decide)) (hy.ext hw3).wi (Nat.le_trans lb (by decide)) (by omega) hd) ?_
  rintro _ v18 ⟨xr20, rfl, r20, e19⟩
  refine ret_intro ?_
  have hw4 : Ext w v18 := hw3.trans e19
  obtain rfl := r20
  refine wl_move rfl rfl (by decide) ?_
  refine wl_pure rfl rfl (v := .slice none 0 0) (by decide) (by kernel_rfl) ?_
  refine wl_pure rfl rfl (v := .int .i64 8) (by decide) (by kernel_rfl) ?_
  refine wl_assign rfl rfl (by decide) ?_
  refine wl_assign rfl rfl (by decide) ?_
  refine wl_nil ?_
  refine eo_then ?_
  refine cw_seq ?_
  refine cw_seq ?_
  refine cw_region ?_
  refine wl_move rfl rfl (by decide) ?_
  refine wl_pure rfl rfl (v := .bool true) (by decide) (by kernel_rfl) ?_
  refine wl_nil ?_
  refine eo_then ?_
  refine cw_true rfl ?_
  refine cw_seq ?_
  refine cw_region ?_
  refine wl_pure rfl rfl (v := .agg #[.bool false, .slice none 0 0]) (by decide) (by kernel_rfl) ?_
  refine wl_move rfl rfl (by decide) ?_
  have hb22 := (hb15.ext e19)
  refine wl_stored rfl rfl rfl aggInt rfl hb22 (Nat.le_of_ble_eq_true rfl) rfl [.bool false, .slice none 0 0] rfl fun v21 hb23 u24 hs25 => ?_
  have hw5 : Ext w v21 := u24.ext hw4 ge16
  refine wl_assign rfl rfl (by decide) ?_
  refine wl_nil ?_
  refine eo_then ?_
  refine cw_ret ?_
  refine eo_thenR ?_
  refine eo_ret [.agg #[.bool false, .slice none 0 0], .int .i64 8] rfl ⟨⟨_, rfl, load_agg aggInt hb23 [.bool false, .slice none 0 0] rfl (Nat.le_of_ble_eq_true rfl) rfl⟩, rfl, trivial⟩ ?_
  exact ⟨_, rfl, ⟨_, _, rfl, ⟨_, _, _, _, rfl, ((Zr.zero (w := v18) (base := w.heap.size)).updT hb22 u24)⟩, rfl⟩, hw5⟩
theorem g_zint_Exact_not {w : World} {sa : Bool} {Aa : Option Addr} {na ca : Nat} {x : Int} {sb : Bool} {Ab : Option Addr} {nb cb : Nat} {y : Int} {b : Nat} (hb : b ≤ w.heap.size)  (hx : Zi w sa Aa na ca x) (la : na ≤ 68719476736) (hy : Zi w sb Ab nb cb y) (lb : nb ≤ 68719476736) (h0 : y ≠ 0) (hd : x.natAbs % y.natAbs ≠ 0) :
    Calls Try.prog 60 #[.agg #[.bool sa, .slice Aa na ca], .agg #[.bool sb, .slice Ab nb cb]] w (Gv w (T2 (ZR b (0)) (Is (.int .i64 8)))) := (g_zint_Exact_notI hx la hy lb h0 hd).mono (Gv.imp (T2.imp (ZR.imp hb) Is.imp))
set_option maxHeartbeats 4000000 in
theorem g_zint_Exact_okI {w : World} {sa : Bool} {Aa : Option Addr} {na ca : Nat} {x : Int} {sb : Bool} {Ab : Option Addr} {nb cb : Nat} {y : Int} (hx : Zi w sa Aa na ca x) (la : na ≤ 68719476736) (hy : Zi w sb Ab nb cb y) (lb : nb ≤ 68719476736) (h0 : y ≠ 0) (hd : x.natAbs % y.natAbs = 0) :
    Calls Try.prog 60 #[.agg #[.bool sa, .slice Aa na ca], .agg #[.bool sb, .slice Ab nb cb]] w (Gv w (T2 (ZR w.heap.size (x.tdiv y)) (Is (.int .i64 0)))) := by
  have Lx : ln x ≤ 68719476736 := Nat.le_trans hx.ln la
  have Ly : ln y ≤ 68719476736 := Nat.le_trans hy.ln lb
  refine sx_enter Try.func60 rfl (n := 27) rfl (Nat.le_of_ble_eq_true rfl) (args := [.agg #[.bool sa, .slice Aa na ca], .agg #[.bool sb, .slice Ab nb cb]]) ?_
  refine cw_keep [(0, .agg #[.bool sa, .slice Aa na ca]), (1, .agg #[.bool sb, .slice Ab nb cb])] ⟨rfl, rfl, trivial⟩ ?_
  refine cw_seq ?_
  refine cw_region ?_
  refine wl_box rfl rfl (vs := [.bool sa, .slice Aa na ca]) rfl (by decide) fun g1 v2 nb => ?_
  have hb4 := nb.bk
  have ge5 : w.heap.size ≤ g1 := by rw [← nb.at_]; exact (Ext.refl w).size
  have e3 := nb.ext
  clear nb
  have hw1 : Ext w v2 := (Ext.refl w).trans e3
  refine wl_box rfl rfl (vs := [.bool sb, .slice Ab nb cb]) rfl (by decide) fun g6 v7 nb => ?_
  have hb9 := nb.bk
  have ge10 : w.heap.size ≤ g6 := by rw [← nb.at_]; exact hw1.size
  have q11 : g1 < g6 := by rw [← nb.at_]; exact hb4.lt
  have e8 := nb.ext
  clear nb
  have hw2 : Ext w v7 := hw1.trans e8
  refine wl_alloc rfl (z := .agg #[.bool false, .slice none 0 0]) (vs := [.bool false, .slice none 0 0]) (fun _ => by kernel_rfl) rfl (by decide) fun g12 v13 nb => ?_
  have hb15 := nb.bk
  have ge16 : w.heap.size ≤ g12 := by rw [← nb.at_]; exact hw2.size
  have q17 : g6 < g12 := by rw [← nb.at_]; exact hb9.lt
  have e14 := nb.ext
  clear nb
  have hw3 : Ext w v13 := hw2.trans e14
  refine wl_assign rfl rfl (by decide) ?_
  refine wl_nil ?_
  refine eo_then ?_
  refine cw_seq ?_
  refine cw_region ?_
  refine wl_pure rfl rfl (v := .pointer (some ⟨g1, 1, none⟩)) (by decide) (by kernel_rfl) ?_
  refine wl_load rfl rfl (load_cell cellWords (hb4.ext (e8.trans e14)) rfl) (by decide) ?_
  refine wl_pure rfl rfl (v := .pointer (some ⟨g6, 1, none⟩)) (by decide) (by kernel_rfl) ?_
  refine wl_load rfl rfl (load_cell cellWords (hb9.ext e14) rfl) (by decide) ?_
  have L1 : (wd (x.natAbs / y.natAbs)).length ≤ 68719476736 := Nat.le_trans (len_wd_mono (Nat.div_le_self _ _)) Lx
  refine wl_call rfl rfl (vs := [.slice Aa na ca, .slice Ab nb cb]) (by kernel_rfl) (by decide) (g_divnat_Exact hw3.size (hx.ext hw3).wi (Nat.le_trans la (by decide)) (hy.ext hw3).wi (Nat.le_trans lb (by decide)) (by omega) hd) ?_
  rintro _ v18 ⟨xr20, rfl, r20, e19⟩
  refine ret_intro ?_
  have hw4 : Ext w v18 := hw3.trans e19
  obtain ⟨a21_0, a21_1, rfl, r21_0, r21_1⟩ := r20
  obtain ⟨A22, n22, c22, rfl, j22, o22⟩ := r21_0
  obtain rfl := r21_1
  refine wl_move rfl rfl (by decide) ?_
  refine wl_pure rfl rfl (v := .slice A22 n22 c22) (by decide) (by kernel_rfl) ?_
  refine wl_pure rfl rfl (v := .int .i64 0) (by decide) (by kernel_rfl) ?_
  refine wl_assign rfl rfl (by decide) ?_
  refine wl_assign rfl rfl (by decide) ?_
  refine wl_nil ?_
  refine eo_then ?_
  refine cw_seq ?_
  refine cw_seq ?_
  refine cw_region ?_
  refine wl_move rfl rfl (by decide) ?_
  refine wl_pure rfl rfl (v := .bool false) (by decide) (by kernel_rfl) ?_
  refine wl_nil ?_
  refine eo_then ?_
  refine cw_false rfl ?_
  refine cw_skip ?_
  refine eo_then ?_
  refine cw_seq ?_
  refine cw_region ?_
  refine wl_pure rfl rfl (v := .pointer (some ⟨g1, 0, none⟩)) (by decide) (by kernel_rfl) ?_
  refine wl_load rfl rfl (load_cell cellBool (hb4.ext (e8.trans (e14.trans e19))) rfl) (by decide) ?_
  refine wl_pure rfl rfl (v := .pointer (some ⟨g6, 0, none⟩)) (by decide) (by kernel_rfl) ?_
  refine wl_load rfl rfl (load_cell cellBool (hb9.ext (e14.trans e19)) rfl) (by decide) ?_
  refine wl_pure rfl rfl (v := .bool (!(sa == sb))) (by decide) (by kernel_rfl) ?_
  refine wl_move rfl rfl (by decide) ?_
  have L23 : ln (sg (!(sa == sb)) (Int.natAbs x / Int.natAbs y)) ≤ 68719476736 := (show (wd (sg _ _).natAbs).length ≤ _ by rw [sg_abs]; exact L1)
  refine wl_call rfl rfl (vs := [.bool (!(sa == sb)), .slice A22 n22 c22]) (by kernel_rfl) (by decide) (g_zint_of j22 o22) ?_
  rintro _ v24 ⟨xr26, rfl, r26, e25⟩
  refine ret_intro ?_
  have hw5 : Ext w v24 := hw4.trans e25
  obtain ⟨s27, A27, n27, c27, rfl, z27⟩ := r26
  have hb29 := (hb15.ext (e19.trans e25))
  refine wl_stored rfl rfl rfl aggInt rfl hb29 (Nat.le_of_ble_eq_true rfl) rfl [.bool s27, .slice A27 n27 c27] rfl fun v28 hb30 u31 hs32 => ?_
  have hw6 : Ext w v28 := u31.ext hw5 ge16
  refine wl_assign rfl rfl (by decide) ?_
  refine wl_nil ?_
  refine eo_then ?_
  refine cw_ret ?_
  refine eo_ret [.agg #[.bool s27, .slice A27 n27 c27], .int .i64 0] rfl ⟨⟨_, rfl, load_agg aggInt hb30 [.bool s27, .slice A27 n27 c27] rfl (Nat.le_of_ble_eq_true rfl) rfl⟩, rfl, trivial⟩ ?_
  exact ⟨_, rfl, ⟨_, _, rfl, ⟨_, _, _, _, rfl, ((z27.updT hb29 u31)).cast (by rw [show (!(sa == sb)) = (sa != sb) from rfl, sg_tdiv, hx.sg_, hy.sg_])⟩, rfl⟩, hw6⟩
theorem g_zint_Exact_ok {w : World} {sa : Bool} {Aa : Option Addr} {na ca : Nat} {x : Int} {sb : Bool} {Ab : Option Addr} {nb cb : Nat} {y : Int} {b : Nat} (hb : b ≤ w.heap.size)  (hx : Zi w sa Aa na ca x) (la : na ≤ 68719476736) (hy : Zi w sb Ab nb cb y) (lb : nb ≤ 68719476736) (h0 : y ≠ 0) (hd : x.natAbs % y.natAbs = 0) :
    Calls Try.prog 60 #[.agg #[.bool sa, .slice Aa na ca], .agg #[.bool sb, .slice Ab nb cb]] w (Gv w (T2 (ZR b (x.tdiv y)) (Is (.int .i64 0)))) := (g_zint_Exact_okI hx la hy lb h0 hd).mono (Gv.imp (T2.imp (ZR.imp hb) Is.imp))
end Go.Proofs.Ytmaconeeonkdgaa

namespace Go.Proofs.Ytmaconeeonkdgaa
open Go.RowKit
structure ZC where
  s : Bool
  A : Option Addr
  n : Nat
  c : Nat
theorem ln_gcd (x y : Int) : ln (Int.gcd x y : Int) ≤ max (ln x) (ln y) := by
  by_cases h : x = 0
  · subst h
    rw [Int.gcd_zero_left]
    refine Nat.le_trans (ln_mono (x := (y.natAbs : Int)) (y := y) (by simp)) (Nat.le_max_right _ _)
  · refine Nat.le_trans (ln_mono (y := x) ?_) (Nat.le_max_left _ _)
    rw [Int.natAbs_natCast]
    exact Nat.le_of_dvd (by omega) (Int.gcd_dvd_natAbs_left x y)
theorem lcm_of {x y : Int} (h : (Int.gcd x y : Int) ≠ 0) : (Int.natAbs (x.tdiv (Int.gcd x y : Int) * y) : Int) = (Int.lcm x y : Int) := by
  have h1 : 0 < Int.gcd x y := by omega
  have e : (Int.natAbs (x.tdiv (Int.gcd x y : Int) * y)) = Int.lcm x y := by
    rw [Int.natAbs_mul, Int.natAbs_tdiv, Int.natAbs_natCast]
    unfold Int.lcm Nat.lcm Int.gcd
    show x.natAbs / _ * y.natAbs = _
    rw [Nat.mul_comm, ← Nat.mul_div_assoc _ (Nat.gcd_dvd_left _ _), Nat.mul_comm]
  rw [e]
theorem gcd_mod0 (x y : Int) : x.natAbs % (Int.gcd x y : Int).natAbs = 0 := by
  rw [Int.natAbs_natCast]
  exact Nat.mod_eq_zero_of_dvd (Int.gcd_dvd_natAbs_left x y)
set_option maxHeartbeats 4000000 in
theorem g_bezout_LcmI {w : World} {sa : Bool} {Aa : Option Addr} {na ca : Nat} {x : Int} {sb : Bool} {Ab : Option Addr} {nb cb : Nat} {y : Int} (hx : Zi w sa Aa na ca x) (la : na ≤ 17179869184) (hy : Zi w sb Ab nb cb y) (lb : nb ≤ 17179869184)  :
    Calls Try.prog 39 #[.agg #[.bool sa, .slice Aa na ca], .agg #[.bool sb, .slice Ab nb cb]] w (Gv w (ZR w.heap.size ((Int.lcm x y : Int)))) := by
  have Lx : ln x ≤ 17179869184 := Nat.le_trans hx.ln la
  have Ly : ln y ≤ 17179869184 := Nat.le_trans hy.ln lb
  refine sx_enter Try.func39 rfl (n := 25) rfl (Nat.le_of_ble_eq_true rfl) (args := [.agg #[.bool sa, .slice Aa na ca], .agg #[.bool sb, .slice Ab nb cb]]) ?_
  refine cw_keep [(0, .agg #[.bool sa, .slice Aa na ca]), (1, .agg #[.bool sb, .slice Ab nb cb])] ⟨rfl, rfl, trivial⟩ ?_
  refine cw_seq ?_
  refine cw_region ?_
  refine wl_box rfl rfl (vs := [.bool sa, .slice Aa na ca]) rfl (by decide) fun g1 v2 nb => ?_
  have hb4 := nb.bk
  have ge5 : w.heap.size ≤ g1 := by rw [← nb.at_]; exact (Ext.refl w).size
  have e3 := nb.ext
  clear nb
  have hw1 : Ext w v2 := (Ext.refl w).trans e3
  refine wl_box rfl rfl (vs := [.bool sb, .slice Ab nb cb]) rfl (by decide) fun g6 v7 nb => ?_
  have hb9 := nb.bk
  have ge10 : w.heap.size ≤ g6 := by rw [← nb.at_]; exact hw1.size
  have q11 : g1 < g6 := by rw [← nb.at_]; exact hb4.lt
  have e8 := nb.ext
  clear nb
  have hw2 : Ext w v7 := hw1.trans e8
  refine wl_alloc rfl (z := .agg #[.bool false, .slice none 0 0]) (vs := [.bool false, .slice none 0 0]) (fun _ => by kernel_rfl) rfl (by decide) fun g12 v13 nb => ?_
  have hb15 := nb.bk
  have ge16 : w.heap.size ≤ g12 := by rw [← nb.at_]; exact hw2.size
  have q17 : g6 < g12 := by rw [← nb.at_]; exact hb9.lt
  have e14 := nb.ext
  clear nb
  have hw3 : Ext w v13 := hw2.trans e14
  refine wl_nil ?_
  refine eo_then ?_
  refine cw_seq ?_
  refine cw_region ?_
  refine wl_load rfl rfl (load_agg aggInt (hb4.ext (e8.trans e14)) [.bool sa, .slice Aa na ca] rfl (Nat.le_of_ble_eq_true rfl) rfl) (by decide) ?_
  refine wl_load rfl rfl (load_agg aggInt (hb9.ext e14) [.bool sb, .slice Ab nb cb] rfl (Nat.le_of_ble_eq_true rfl) rfl) (by decide) ?_
  have L18 : ln ((Int.gcd x y : Int)) ≤ 17179869184 := Nat.le_trans (ln_gcd _ _) (Nat.max_le.2 ⟨Nat.le_trans Lx (by decide), Nat.le_trans Ly (by decide)⟩)
  refine wl_call rfl rfl (vs := [.agg #[.bool sa, .slice Aa na ca], .agg #[.bool sb, .slice Ab nb cb]]) (by kernel_rfl) (by decide) (g_bezout_Gcd hw3.size (hx.ext hw3) (Nat.le_trans la (by decide)) (hy.ext hw3) (Nat.le_trans lb (by decide))) ?_
  rintro _ v19 ⟨xr21, rfl, r21, e20⟩
  refine ret_intro ?_
  have hw4 : Ext w v19 := hw3.trans e20
  obtain ⟨s22, A22, n22, c22, rfl, z22⟩ := r21
  refine wl_alloc rfl (z := .agg #[.bool false, .slice none 0 0]) (vs := [.bool false, .slice none 0 0]) (fun _ => by kernel_rfl) rfl (by decide) fun g23 v24 nb => ?_
  have hb26 := nb.bk
  have ge27 : w.heap.size ≤ g23 := by rw [← nb.at_]; exact hw4.size
  have q28 : g12 < g23 := by rw [← nb.at_]; exact (hb15.ext e20).lt
  have e25 := nb.ext
  clear nb
  have hw5 : Ext w v24 := hw4.trans e25
  have hb30 := hb26
  refine wl_stored rfl rfl rfl aggInt rfl hb30 (Nat.le_of_ble_eq_true rfl) rfl [.bool s22, .slice A22 n22 c22] rfl fun v29 hb31 u32 hs33 => ?_
  have hw6 : Ext w v29 := u32.ext hw5 ge27
  refine wl_nil ?_
  refine eo_then ?_
  refine cw_seq ?_
  refine cw_seq ?_
  by_cases hg : (Int.gcd x y : Int) = 0
  ·
    have hl : (0 : Int) = (Int.lcm x y : Int) := by unfold Int.lcm Nat.lcm; have h1 : Nat.gcd x.natAbs y.natAbs = 0 := (by exact_mod_cast hg); rw [h1]; simp
    refine cw_region ?_
    refine wl_load rfl rfl (load_agg aggInt hb31 [.bool s22, .slice A22 n22 c22] rfl (Nat.le_of_ble_eq_true rfl) rfl) (by decide) ?_
    refine wl_call rfl rfl (vs := [.agg #[.bool s22, .slice A22 n22 c22]]) (by kernel_rfl) (by decide) (g_zint_Sign ((z22.ext e25).updT hb30 u32).zi (z22.le (Nat.le_trans L18 (by decide)))) ?_
    rintro _ v34 ⟨xr36, rfl, r36, e35⟩
    refine ret_intro ?_
    have hw7 : Ext w v34 := hw6.trans e35
    obtain rfl := r36
    refine wl_cmp rfl rfl rfl true (scmp_eq_t hg) (by decide) ?_
    refine wl_nil ?_
    refine eo_then ?_
    refine cw_true rfl ?_
    refine cw_seq ?_
    refine cw_region ?_
    refine wl_pure rfl rfl (v := .agg #[.bool false, .slice none 0 0]) (by decide) (by kernel_rfl) ?_
    have hb38 := (((hb15.ext (e20.trans e25)).updN u32 (by omega)).ext e35)
    refine wl_stored rfl rfl rfl aggInt rfl hb38 (Nat.le_of_ble_eq_true rfl) rfl [.bool false, .slice none 0 0] rfl fun v37 hb39 u40 hs41 => ?_
    have hw8 : Ext w v37 := u40.ext hw7 ge16
    refine wl_nil ?_
    refine eo_then ?_
    refine cw_ret ?_
    refine eo_thenR ?_
    refine eo_ret [.agg #[.bool false, .slice none 0 0]] rfl ⟨⟨_, rfl, load_agg aggInt hb39 [.bool false, .slice none 0 0] rfl (Nat.le_of_ble_eq_true rfl) rfl⟩, trivial⟩ ?_
    exact ⟨_, rfl, ⟨_, _, _, _, rfl, (((Zr.zero (w := v34) (base := w.heap.size)).updT hb38 u40)).cast (hl)⟩, hw8⟩
  ·
    refine cw_region ?_
    refine wl_load rfl rfl (load_agg aggInt hb31 [.bool s22, .slice A22 n22 c22] rfl (Nat.le_of_ble_eq_true rfl) rfl) (by decide) ?_
    refine wl_call rfl rfl (vs := [.agg #[.bool s22, .slice A22 n22 c22]]) (by kernel_rfl) (by decide) (g_zint_Sign ((z22.ext e25).updT hb30 u32).zi (z22.le (Nat.le_trans L18 (by decide)))) ?_
    rintro _ v42 ⟨xr44, rfl, r44, e43⟩
    refine ret_intro ?_
    have hw7 : Ext w v42 := hw6.trans e43
    obtain rfl := r44
    refine wl_cmp rfl rfl rfl false (scmp_eq_f hg) (by decide) ?_
    refine wl_nil ?_
    refine eo_then ?_
    refine cw_false rfl ?_
    refine cw_skip ?_
    refine eo_then ?_
    refine cw_seq ?_
    refine cw_region ?_
    refine wl_load rfl rfl (load_agg aggInt (((hb4.ext (e8.trans (e14.trans (e20.trans e25)))).updN u32 (by omega)).ext e43) [.bool sa, .slice Aa na ca] rfl (Nat.le_of_ble_eq_true rfl) rfl) (by decide) ?_
    refine wl_load rfl rfl (load_agg aggInt (hb31.ext e43) [.bool s22, .slice A22 n22 c22] rfl (Nat.le_of_ble_eq_true rfl) rfl) (by decide) ?_
    have L45 : ln (x.tdiv (Int.gcd x y : Int)) ≤ 17179869184 := Nat.le_trans (ln_tdiv _ _) Lx
    refine wl_call rfl rfl (vs := [.agg #[.bool sa, .slice Aa na ca], .agg #[.bool s22, .slice A22 n22 c22]]) (by kernel_rfl) (by decide) (g_zint_Exact_ok hw7.size (hx.ext hw7) (Nat.le_trans la (by decide)) (((z22.ext e25).updT hb30 u32).ext e43).zi (z22.le (Nat.le_trans L18 (by decide))) hg (gcd_mod0 x y)) ?_
    rintro _ v46 ⟨xr48, rfl, r48, e47⟩
    refine ret_intro ?_
    have hw8 : Ext w v46 := hw7.trans e47
    obtain ⟨a49_0, a49_1, rfl, r49_0, r49_1⟩ := r48
    obtain ⟨s50, A50, n50, c50, rfl, z50⟩ := r49_0
    obtain rfl := r49_1
    refine wl_move rfl rfl (by decide) ?_
    refine wl_pure rfl rfl (v := .agg #[.bool s50, .slice A50 n50 c50]) (by decide) (by kernel_rfl) ?_
    refine wl_pure rfl rfl (v := .int .i64 0) (by decide) (by kernel_rfl) ?_
    refine wl_alloc rfl (z := .agg #[.bool false, .slice none 0 0]) (vs := [.bool false, .slice none 0 0]) (fun _ => by kernel_rfl) rfl (by decide) fun g51 v52 nb => ?_
    have hb54 := nb.bk
    have ge55 : w.heap.size ≤ g51 := by rw [← nb.at_]; exact hw8.size
    have q56 : g23 < g51 := by rw [← nb.at_]; exact (hb31.ext (e43.trans e47)).lt
    have e53 := nb.ext
    clear nb
    have hw9 : Ext w v52 := hw8.trans e53
    have hb58 := hb54
    refine wl_stored rfl rfl rfl aggInt rfl hb58 (Nat.le_of_ble_eq_true rfl) rfl [.bool s50, .slice A50 n50 c50] rfl fun v57 hb59 u60 hs61 => ?_
    have hw10 : Ext w v57 := u60.ext hw9 ge55
    refine wl_assign rfl rfl (by decide) ?_
    refine wl_nil ?_
    refine eo_then ?_
    refine cw_seq ?_
    refine cw_region ?_
    refine wl_load rfl rfl (load_agg aggInt hb59 [.bool s50, .slice A50 n50 c50] rfl (Nat.le_of_ble_eq_true rfl) rfl) (by decide) ?_
    refine wl_load rfl rfl (load_agg aggInt ((((hb9.ext (e14.trans (e20.trans e25))).updN u32 (by omega)).ext (e43.trans (e47.trans e53))).updN u60 (by omega)) [.bool sb, .slice Ab nb cb] rfl (Nat.le_of_ble_eq_true rfl) rfl) (by decide) ?_
    have L62 : ln ((x.tdiv (Int.gcd x y : Int)) * y) ≤ 34359738368 := Nat.le_trans (ln_mul L45 Ly) (by decide)
    refine wl_call rfl rfl (vs := [.agg #[.bool s50, .slice A50 n50 c50], .agg #[.bool sb, .slice Ab nb cb]]) (by kernel_rfl) (by decide) (g_zint_Mul hw10.size ((z50.ext e53).updT hb58 u60).zi (z50.le (Nat.le_trans L45 (by decide))) (hy.ext hw10) (Nat.le_trans lb (by decide))) ?_
    rintro _ v63 ⟨xr65, rfl, r65, e64⟩
    refine ret_intro ?_
    have hw11 : Ext w v63 := hw10.trans e64
    obtain ⟨s66, A66, n66, c66, rfl, z66⟩ := r65
    have L67 : ln ((Int.natAbs ((x.tdiv (Int.gcd x y : Int)) * y) : Int)) ≤ 34359738368 := (by rw [ln_abs]; exact L62)
    refine wl_call rfl rfl (vs := [.agg #[.bool s66, .slice A66 n66 c66]]) (by kernel_rfl) (by decide) (g_zint_Abs hw11.size z66.zi (z66.le (Nat.le_trans L62 (by decide)))) ?_
    rintro _ v68 ⟨xr70, rfl, r70, e69⟩
    refine ret_intro ?_
    have hw12 : Ext w v68 := hw11.trans e69
    obtain ⟨s71, A71, n71, c71, rfl, z71⟩ := r70
    have hb73 := (((((hb15.ext (e20.trans e25)).updN u32 (by omega)).ext (e43.trans (e47.trans e53))).updN u60 (by omega)).ext (e64.trans e69))
    refine wl_stored rfl rfl rfl aggInt rfl hb73 (Nat.le_of_ble_eq_true rfl) rfl [.bool s71, .slice A71 n71 c71] rfl fun v72 hb74 u75 hs76 => ?_
    have hw13 : Ext w v72 := u75.ext hw12 ge16
    refine wl_nil ?_
    refine eo_then ?_
    refine cw_ret ?_
    refine eo_ret [.agg #[.bool s71, .slice A71 n71 c71]] rfl ⟨⟨_, rfl, load_agg aggInt hb74 [.bool s71, .slice A71 n71 c71] rfl (Nat.le_of_ble_eq_true rfl) rfl⟩, trivial⟩ ?_
    exact ⟨_, rfl, ⟨_, _, _, _, rfl, ((z71.updT hb73 u75)).cast (lcm_of hg)⟩, hw13⟩
theorem g_bezout_Lcm {w : World} {sa : Bool} {Aa : Option Addr} {na ca : Nat} {x : Int} {sb : Bool} {Ab : Option Addr} {nb cb : Nat} {y : Int} {b : Nat} (hb : b ≤ w.heap.size)  (hx : Zi w sa Aa na ca x) (la : na ≤ 17179869184) (hy : Zi w sb Ab nb cb y) (lb : nb ≤ 17179869184)  :
    Calls Try.prog 39 #[.agg #[.bool sa, .slice Aa na ca], .agg #[.bool sb, .slice Ab nb cb]] w (Gv w (ZR b ((Int.lcm x y : Int)))) := (g_bezout_LcmI hx la hy lb).mono (Gv.imp (ZR.imp hb))
/-- what the steps of Ext keep -/
structure ExtI (x y r0 r1 m0 m1 : Int) : Prop where
  nn0 : 0 ≤ r0
  nn1 : 0 ≤ r1
  gcd : Int.gcd r0 r1 = Int.gcd x y
  d0 : y ∣ r0 - m0 * x.natAbs
  d1 : y ∣ r1 - m1 * x.natAbs
  bal : m1.natAbs * r0.natAbs + m0.natAbs * r1.natAbs = y.natAbs
  sgn : m0 * m1 ≤ 0
  b0 : r0.natAbs ≤ max x.natAbs y.natAbs
  b1 : r1.natAbs ≤ y.natAbs
  mb0 : m0.natAbs ≤ y.natAbs
  mb1 : m1.natAbs ≤ y.natAbs
theorem ExtI.init {x y : Int} (h : y ≠ 0) : ExtI x y x.natAbs y.natAbs 1 0 where
  nn0 := by omega
  nn1 := by omega
  gcd := by simp [Int.gcd]
  d0 := by simp
  d1 := by
    rw [Int.zero_mul, Int.sub_zero]
    exact Int.dvd_natAbs.2 (Int.dvd_refl y)
  bal := by simp
  sgn := by decide
  b0 := by rw [Int.natAbs_natCast]; exact Nat.le_max_left _ _
  b1 := by simp
  mb0 := by show 1 ≤ _; omega
  mb1 := by simp
theorem natAbs_opp {a b c : Int} (h : a * b ≤ 0) (hc : 0 ≤ c) : (a - c * b).natAbs = a.natAbs + c.natAbs * b.natAbs := by
  rw [← Int.natAbs_mul]
  have h2 : a * (c * b) ≤ 0 := by
    have : a * (c * b) = c * (a * b) := by grind
    rw [this]
    exact Int.mul_nonpos_of_nonneg_of_nonpos hc h
  rcases Int.lt_trichotomy a 0 with ha | ha | ha
  · have : 0 ≤ c * b := by
      refine Int.le_of_not_gt fun hl => ?_
      have := Int.mul_pos_of_neg_of_neg ha hl
      omega
    omega
  · subst ha; simp
  · have : c * b ≤ 0 := by
      refine Int.le_of_not_gt fun hl => ?_
      have := Int.mul_pos ha hl
      omega
    omega
theorem ExtI.step {x y r0 r1 m0 m1 : Int} (h : ExtI x y r0 r1 m0 m1) (hr : r1 ≠ 0) : ExtI x y r1 (r0.tmod r1) m1 (m0 - r0.tdiv r1 * m1) := by
  have e := Int.tdiv_mul_add_tmod r0 r1
  have nn := Int.tmod_nonneg r1 h.nn0
  have hq : 0 ≤ r0.tdiv r1 := Int.tdiv_nonneg h.nn0 h.nn1
  have hlt : r0.tmod r1 < r1 := Int.tmod_lt_of_pos _ (by have := h.nn1; omega)
  have hab := natAbs_opp h.sgn hq
  have hbal : (m0 - r0.tdiv r1 * m1).natAbs * r1.natAbs + m1.natAbs * (r0.tmod r1).natAbs = y.natAbs := by
    rw [hab, ← h.bal]
    have e2 : r0.natAbs = (r0.tdiv r1).natAbs * r1.natAbs + (r0.tmod r1).natAbs := by
      rw [← Int.natAbs_mul, ← Int.natAbs_add_of_nonneg (Int.mul_nonneg hq h.nn1) nn, e]
    rw [e2]
    grind
  refine ⟨h.nn1, nn, ?_, h.d1, ?_, hbal, ?_, Nat.le_trans h.b1 (Nat.le_max_right _ _), ?_, h.mb1, ?_⟩
  · rw [← h.gcd]
    have : Int.gcd r0 r1 = Int.gcd (r0.tmod r1 + r1 * r0.tdiv r1) r1 := by
      congr 1
      rw [Int.mul_comm]; omega
    rw [this, Int.gcd_add_mul_left_left, Int.gcd_comm]
  · have e3 : r0.tmod r1 - (m0 - r0.tdiv r1 * m1) * x.natAbs = (r0 - m0 * x.natAbs) - r0.tdiv r1 * (r1 - m1 * x.natAbs) := by
      have : r0.tmod r1 = r0 - r0.tdiv r1 * r1 := by omega
      rw [this]; grind
    rw [e3]
    exact Int.dvd_sub h.d0 (Int.dvd_mul_of_dvd_right h.d1)
  · have e4 : m1 * (m0 - r0.tdiv r1 * m1) = m0 * m1 - r0.tdiv r1 * (m1 * m1) := by grind
    rw [e4]
    have h1 : 0 ≤ m1 * m1 := by
      rcases Int.le_total 0 m1 with h | h
      · exact Int.mul_nonneg h h
      · exact Int.mul_nonneg_of_nonpos_of_nonpos h h
    have := Int.mul_nonneg hq h1
    have := h.sgn
    omega
  · have := h.b1
    have h2 : (r0.tmod r1).natAbs ≤ r1.natAbs := by omega
    omega
  · have h1 : 1 ≤ r1.natAbs := by omega
    have h2 : (m0 - r0.tdiv r1 * m1).natAbs ≤ (m0 - r0.tdiv r1 * m1).natAbs * r1.natAbs := Nat.le_mul_of_pos_right _ h1
    omega
/-- the numbers of Bezout's identity, as they are chosen -/
structure Bez (x y u v : Int) : Prop where
  zero : y = 0 → u = x.sign ∧ v = 0
  eq : x * u + y * v = Int.gcd x y
  lo : y ≠ 0 → 0 ≤ u
  hi : y ≠ 0 → u * Int.gcd x y < y.natAbs
/-- behind the steps -/
theorem ExtI.done {x y r0 m0 m1 z : Int} (h : ExtI x y r0 0 m0 m1) (hy : y ≠ 0) (hz : z = if x < 0 then -m0 else m0) :
    r0 = (Int.gcd x y : Int) ∧ r0 ≠ 0 ∧ y.tdiv r0 ≠ 0 ∧ y.natAbs % r0.natAbs = 0 ∧ (r0 - x * (z % y.tdiv r0)).natAbs % y.natAbs = 0 ∧ Bez x y (z % y.tdiv r0) ((r0 - x * (z % y.tdiv r0)).tdiv y) := by
  have hg := h.gcd
  rw [Int.gcd_zero_right] at hg
  have e0 : r0 = (Int.gcd x y : Int) := by have := h.nn0; omega
  have hpos : 0 < Int.gcd x y := Int.gcd_pos_of_ne_zero_right x hy
  have hr0 : r0 ≠ 0 := by omega
  obtain ⟨p, hp⟩ := Int.gcd_dvd_right x y
  obtain ⟨q, hq⟩ := Int.gcd_dvd_left x y
  rw [← e0] at hp hq
  have hpd : y.tdiv r0 = p := by rw [hp]; exact Int.mul_tdiv_cancel_left _ hr0
  have hp0 : p ≠ 0 := fun e => hy (by rw [hp, e, Int.mul_zero])
  have hz1 : y ∣ r0 - x * z := by
    have hd := h.d0
    have hx : x * z = m0 * x.natAbs := by
      rw [hz]
      by_cases hn : x < 0
      · rw [if_pos hn]
        have : (x.natAbs : Int) = -x := by omega
        rw [this]; grind
      · rw [if_neg hn]
        have : (x.natAbs : Int) = x := by omega
        rw [this]; grind
    rw [hx]; exact hd
  have hm := Int.mul_ediv_add_emod z p
  have hdvd : y ∣ r0 - x * (z % p) := by
    have e1 : r0 - x * (z % p) = (r0 - x * z) + y * (q * (z / p)) := by
      have e2 : z % p = z - p * (z / p) := by omega
      have e3 : x * (p * (z / p)) = y * (q * (z / p)) := by
        calc x * (p * (z / p)) = (r0 * q) * (p * (z / p)) := by rw [← hq]
          _ = (r0 * p) * (q * (z / p)) := by grind
          _ = y * (q * (z / p)) := by rw [← hp]
      rw [e2, Int.mul_sub, e3]
      omega
    rw [e1]
    exact Int.dvd_add hz1 (Int.dvd_mul_right _ _)
  refine ⟨e0, hr0, by rw [hpd]; exact hp0, ?_, ?_, ?_⟩
  · refine Nat.mod_eq_zero_of_dvd (Int.natAbs_dvd_natAbs.2 ⟨p, hp⟩)
  · rw [hpd]
    exact Nat.mod_eq_zero_of_dvd (Int.natAbs_dvd_natAbs.2 hdvd)
  · rw [hpd]
    refine ⟨fun e => absurd e hy, ?_, fun _ => Int.emod_nonneg _ hp0, fun _ => ?_⟩
    · have := Int.mul_tdiv_cancel' hdvd
      rw [← e0]
      omega
    · rw [← e0]
      have h1 := Int.emod_lt z hp0
      have h2 : (z % p) * r0 < p.natAbs * r0 := Int.mul_lt_mul_of_pos_right h1 (by omega)
      have h3 : (y.natAbs : Int) = p.natAbs * r0 := by
        rw [hp, Int.natAbs_mul]
        have : (r0.natAbs : Int) = r0 := by omega
        rw [Int.natCast_mul, this, Int.mul_comm]
      omega
theorem scmp_sign (x : Int) : scmp x 0 = x.sign := by
  unfold scmp
  rcases Int.lt_trichotomy x 0 with h | h | h
  · rw [if_pos h, Int.sign_eq_neg_one_of_neg h]
  · subst h; rfl
  · rw [if_neg (by omega), if_neg (by omega), Int.sign_eq_one_of_pos h]
theorem ln_w1 {x : Int} (h1 : -18446744073709551615 ≤ x) (h2 : x ≤ 18446744073709551615) : ln x ≤ 1 := len_wd_le (by rw [WB_def, Nat.pow_one]; omega)
theorem scmp_i64 (x y : Int) : -9223372036854775808 ≤ scmp x y ∧ scmp x y ≤ 9223372036854775807 := by have := scmp_bd x y; omega
theorem ln_max {a b c : Int} {N : Nat} (h : a.natAbs ≤ max b.natAbs c.natAbs) (hb : ln b ≤ N) (hc : ln c ≤ N) : ln a ≤ N := by
  rcases Nat.le_total b.natAbs c.natAbs with h1 | h1
  · exact Nat.le_trans (ln_mono (by omega)) hc
  · exact Nat.le_trans (ln_mono (by omega)) hb
theorem Bez.ofZero {x y : Int} (h : y = 0) : Bez x y x.sign 0 := by
  subst h
  refine ⟨fun _ => ⟨rfl, rfl⟩, ?_, fun h => absurd rfl h, fun h => absurd rfl h⟩
  rw [Int.mul_zero, Int.add_zero, Int.gcd_zero_right]
  rcases Int.lt_trichotomy x 0 with h | h | h
  · rw [Int.sign_eq_neg_one_of_neg h]; omega
  · subst h; rfl
  · rw [Int.sign_eq_one_of_pos h]; omega
set_option maxHeartbeats 4000000 in
theorem g_bezout_ExtI {w : World} {sa : Bool} {Aa : Option Addr} {na ca : Nat} {x : Int} {sb : Bool} {Ab : Option Addr} {nb cb : Nat} {y : Int} (hx : Zi w sa Aa na ca x) (la : na ≤ 17179869184) (hy : Zi w sb Ab nb cb y) (lb : nb ≤ 17179869184)  :
    Calls Try.prog 37 #[.agg #[.bool sa, .slice Aa na ca], .agg #[.bool sb, .slice Ab nb cb]] w (fun e w' => ∃ u v, Bez x y u v ∧ Gv w (T3 (ZR w.heap.size (Int.gcd x y : Int)) (ZR w.heap.size u) (ZR w.heap.size v)) e w') := by
  have Lx : ln x ≤ 17179869184 := Nat.le_trans hx.ln la
  have Ly : ln y ≤ 17179869184 := Nat.le_trans hy.ln lb
  refine sx_enter Try.func37 rfl (n := 94) rfl (Nat.le_of_ble_eq_true rfl) (args := [.agg #[.bool sa, .slice Aa na ca], .agg #[.bool sb, .slice Ab nb cb]]) ?_
  refine cw_keep [(0, .agg #[.bool sa, .slice Aa na ca]), (1, .agg #[.bool sb, .slice Ab nb cb])] ⟨rfl, rfl, trivial⟩ ?_
  refine cw_seq ?_
  refine cw_region ?_
  refine wl_box rfl rfl (vs := [.bool sa, .slice Aa na ca]) rfl (by decide) fun g1 v2 nb => ?_
  have hb4 := nb.bk
  have ge5 : w.heap.size ≤ g1 := by rw [← nb.at_]; exact (Ext.refl w).size
  have e3 := nb.ext
  clear nb
  have hw1 : Ext w v2 := (Ext.refl w).trans e3
  refine wl_box rfl rfl (vs := [.bool sb, .slice Ab nb cb]) rfl (by decide) fun g6 v7 nb => ?_
  have hb9 := nb.bk
  have ge10 : w.heap.size ≤ g6 := by rw [← nb.at_]; exact hw1.size
  have q11 : g1 < g6 := by rw [← nb.at_]; exact hb4.lt
  have e8 := nb.ext
  clear nb
  have hw2 : Ext w v7 := hw1.trans e8
  refine wl_alloc rfl (z := .agg #[.bool false, .slice none 0 0]) (vs := [.bool false, .slice none 0 0]) (fun _ => by kernel_rfl) rfl (by decide) fun g12 v13 nb => ?_
  have hb15 := nb.bk
  have ge16 : w.heap.size ≤ g12 := by rw [← nb.at_]; exact hw2.size
  have q17 : g6 < g12 := by rw [← nb.at_]; exact hb9.lt
  have e14 := nb.ext
  clear nb
  have hw3 : Ext w v13 := hw2.trans e14
  refine wl_alloc rfl (z := .agg #[.bool false, .slice none 0 0]) (vs := [.bool false, .slice none 0 0]) (fun _ => by kernel_rfl) rfl (by decide) fun g18 v19 nb => ?_
  have hb21 := nb.bk
  have ge22 : w.heap.size ≤ g18 := by rw [← nb.at_]; exact hw3.size
  have q23 : g12 < g18 := by rw [← nb.at_]; exact hb15.lt
  have e20 := nb.ext
  clear nb
  have hw4 : Ext w v19 := hw3.trans e20
  refine wl_alloc rfl (z := .agg #[.bool false, .slice none 0 0]) (vs := [.bool false, .slice none 0 0]) (fun _ => by kernel_rfl) rfl (by decide) fun g24 v25 nb => ?_
  have hb27 := nb.bk
  have ge28 : w.heap.size ≤ g24 := by rw [← nb.at_]; exact hw4.size
  have q29 : g18 < g24 := by rw [← nb.at_]; exact hb21.lt
  have e26 := nb.ext
  clear nb
  have hw5 : Ext w v25 := hw4.trans e26
  refine wl_nil ?_
  refine eo_then ?_
  refine cw_seq ?_
  refine cw_seq ?_
  by_cases h0 : y = 0
  ·
    refine cw_region ?_
    refine wl_load rfl rfl (load_agg aggInt (hb9.ext (e14.trans (e20.trans e26))) [.bool sb, .slice Ab nb cb] rfl (Nat.le_of_ble_eq_true rfl) rfl) (by decide) ?_
    refine wl_call rfl rfl (vs := [.agg #[.bool sb, .slice Ab nb cb]]) (by kernel_rfl) (by decide) (g_zint_Sign (hy.ext hw5) (Nat.le_trans lb (by decide))) ?_
    rintro _ v30 ⟨xr32, rfl, r32, e31⟩
    refine ret_intro ?_
    have hw6 : Ext w v30 := hw5.trans e31
    obtain rfl := r32
    refine wl_cmp rfl rfl rfl true (scmp_eq_t h0) (by decide) ?_
    refine wl_nil ?_
    refine eo_then ?_
    refine cw_true rfl ?_
    refine cw_seq ?_
    have L33 : ln ((Int.natAbs x : Int)) ≤ 17179869184 := (by rw [ln_abs]; exact Lx)
    refine cw_draw mix 6 [5] [Is (.agg #[.bool sa, .slice Aa na ca]), ZR w.heap.size ((Int.natAbs x : Int)), Is (.agg #[.bool sa, .slice Aa na ca]), Is (.int .i64 (scmp x 0)), ZR w.heap.size (scmp x 0), Is (.agg #[.bool false, .slice none 0 0])] [[], [0], [], [2], [3], []] [[], [0], [], [0, 1, 2], [0, 1, 2, 3], [], [0, 1, 2, 3, 4], [0, 1, 2, 3, 4, 6], [0, 1, 2, 3, 4, 5, 6, 7]] rfl
      (obs_cons rfl rfl (hob rfl rfl ?_) (obs_cons rfl rfl (hob rfl rfl ?_) (obs_cons rfl rfl (hob rfl rfl ?_) (obs_cons rfl rfl (hob rfl rfl ?_) (obs_cons rfl rfl (hob rfl rfl ?_) (obs_float rfl rfl (fob rfl ?_) obs_nil)))))) ?_
    · -- 0
      intro v36 e37
      have hw7 : Ext w v36 := hw6.trans e37
      refine deps_nil ?_
      refine wl_load rfl rfl (load_agg aggInt (hb4.ext (e8.trans (e14.trans (e20.trans (e26.trans (e31.trans e37)))))) [.bool sa, .slice Aa na ca] rfl (Nat.le_of_ble_eq_true rfl) rfl) (by decide) ?_
      exact pi_done rfl (Ext.refl _) rfl
    · -- 1
      intro v38 e39
      have hw7 : Ext w v38 := hw6.trans e39
      refine deps_cons rfl rfl fun x40 y41 h42 e43 f44 => ?_
      obtain rfl := h42
      refine deps_nil ?_
      have L45 : ln ((Int.natAbs x : Int)) ≤ 17179869184 := (by rw [ln_abs]; exact Lx)
      refine wl_call rfl rfl (vs := [.agg #[.bool sa, .slice Aa na ca]]) (by kernel_rfl) (by decide) (g_zint_Abs hw7.size (hx.ext hw7) (Nat.le_trans la (by decide))) ?_
      rintro _ v46 ⟨xr48, rfl, r48, e47⟩
      refine ret_intro ?_
      have hw8 : Ext w v46 := hw7.trans e47
      obtain ⟨s49, A49, n49, c49, rfl, z49⟩ := r48
      exact pi_done rfl e47 ⟨_, _, _, _, rfl, z49⟩
    · -- 2
      intro v50 e51
      have hw7 : Ext w v50 := hw6.trans e51
      refine deps_nil ?_
      refine wl_load rfl rfl (load_agg aggInt (hb4.ext (e8.trans (e14.trans (e20.trans (e26.trans (e31.trans e51)))))) [.bool sa, .slice Aa na ca] rfl (Nat.le_of_ble_eq_true rfl) rfl) (by decide) ?_
      exact pi_done rfl (Ext.refl _) rfl
    · -- 3
      intro v52 e53
      have hw7 : Ext w v52 := hw6.trans e53
      refine deps_cons rfl rfl fun x54 y55 h56 e57 f58 => ?_
      obtain rfl := h56
      refine deps_nil ?_
      refine wl_call rfl rfl (vs := [.agg #[.bool sa, .slice Aa na ca]]) (by kernel_rfl) (by decide) (g_zint_Sign (hx.ext hw7) (Nat.le_trans la (by decide))) ?_
      rintro _ v59 ⟨xr61, rfl, r61, e60⟩
      refine ret_intro ?_
      have hw8 : Ext w v59 := hw7.trans e60
      obtain rfl := r61
      exact pi_done rfl e60 rfl
    · -- 4
      intro v62 e63
      have hw7 : Ext w v62 := hw6.trans e63
      refine deps_cons rfl rfl fun x64 y65 h66 e67 f68 => ?_
      obtain rfl := h66
      refine deps_nil ?_
      refine wl_call rfl rfl (vs := [.int .i64 (scmp x 0)]) (by kernel_rfl) (by decide) (g_zint_Of hw7.size (scmp_i64 _ _).1 (scmp_i64 _ _).2) ?_
      rintro _ v69 ⟨xr71, rfl, r71, e70⟩
      refine ret_intro ?_
      have hw8 : Ext w v69 := hw7.trans e70
      obtain ⟨s72, A72, n72, c72, rfl, z72⟩ := r71
      exact pi_done rfl e70 ⟨_, _, _, _, rfl, z72⟩
    · -- 5
      intro v73 e74
      have hw7 : Ext w v73 := hw6.trans e74
      refine deps_nil ?_
      exact ⟨.agg #[.bool false, .slice none 0 0], rfl, rfl, fun _ => by kernel_rfl, rfl⟩
    · -- all
      intro v75 e76
      have hw7 : Ext w v75 := hw6.trans e76
      refine deps_cons rfl rfl fun x77 y78 h79 e80 f81 => ?_
      obtain rfl := h79
      refine deps_cons rfl rfl fun x82 y83 h84 e85 f86 => ?_
      obtain ⟨s87, A87, n87, c87, rfl, z87⟩ := h84
      have z87 := z87.ext f86
      refine deps_cons rfl rfl fun x88 y89 h90 e91 f92 => ?_
      obtain rfl := h90
      refine deps_cons rfl rfl fun x93 y94 h95 e96 f97 => ?_
      obtain rfl := h95
      refine deps_cons rfl rfl fun x98 y99 h100 e101 f102 => ?_
      obtain ⟨s103, A103, n103, c103, rfl, z103⟩ := h100
      have z103 := z103.ext f102
      refine deps_cons rfl rfl fun x104 y105 h106 e107 f108 => ?_
      obtain rfl := h106
      refine deps_nil ?_
      have hb110 := (hb15.ext (e20.trans (e26.trans (e31.trans e76))))
      refine wl_stored rfl rfl rfl aggInt rfl hb110 (Nat.le_of_ble_eq_true rfl) rfl [.bool s87, .slice A87 n87 c87] rfl fun v109 hb111 u112 hs113 => ?_
      have hw8 : Ext w v109 := u112.ext hw7 ge16
      have hb115 := ((hb21.ext (e26.trans (e31.trans e76))).updN u112 (by omega))
      refine wl_stored rfl rfl rfl aggInt rfl hb115 (Nat.le_of_ble_eq_true rfl) rfl [.bool s103, .slice A103 n103 c103] rfl fun v114 hb116 u117 hs118 => ?_
      have hw9 : Ext w v114 := u117.ext hw8 ge22
      have hb120 := (((hb27.ext (e31.trans e76)).updN u112 (by omega)).updN u117 (by omega))
      refine wl_stored rfl rfl rfl aggInt rfl hb120 (Nat.le_of_ble_eq_true rfl) rfl [.bool false, .slice none 0 0] rfl fun v119 hb121 u122 hs123 => ?_
      have hw10 : Ext w v119 := u122.ext hw9 ge28
      refine wl_nil ?_
      refine eo_np ?_
      refine eo_then ?_
      refine cw_ret ?_
      refine eo_thenR ?_
      refine eo_ret [.agg #[.bool s87, .slice A87 n87 c87], .agg #[.bool s103, .slice A103 n103 c103], .agg #[.bool false, .slice none 0 0]] rfl ⟨⟨_, rfl, load_agg aggInt ((hb111.updN u117 (by omega)).updN u122 (by omega)) [.bool s87, .slice A87 n87 c87] rfl (Nat.le_of_ble_eq_true rfl) rfl⟩, ⟨_, rfl, load_agg aggInt (hb116.updN u122 (by omega)) [.bool s103, .slice A103 n103 c103] rfl (Nat.le_of_ble_eq_true rfl) rfl⟩, ⟨_, rfl, load_agg aggInt hb121 [.bool false, .slice none 0 0] rfl (Nat.le_of_ble_eq_true rfl) rfl⟩, trivial⟩ ?_
      exact ⟨_, _, Bez.ofZero h0, _, rfl, ⟨_, _, _, rfl, ⟨_, _, _, _, rfl, ((((z87.updT hb110 u112).updT hb115 u117).updT hb120 u122)).cast (by subst h0; simp)⟩, ⟨_, _, _, _, rfl, ((((z103.updT hb110 u112).updT hb115 u117).updT hb120 u122)).cast (scmp_sign x)⟩, ⟨_, _, _, _, rfl, (((((Zr.zero (w := v30) (base := w.heap.size)).ext e76).updT hb110 u112).updT hb115 u117).updT hb120 u122)⟩⟩, hw10⟩
  ·
    refine cw_region ?_
    refine wl_load rfl rfl (load_agg aggInt (hb9.ext (e14.trans (e20.trans e26))) [.bool sb, .slice Ab nb cb] rfl (Nat.le_of_ble_eq_true rfl) rfl) (by decide) ?_
    refine wl_call rfl rfl (vs := [.agg #[.bool sb, .slice Ab nb cb]]) (by kernel_rfl) (by decide) (g_zint_Sign (hy.ext hw5) (Nat.le_trans lb (by decide))) ?_
    rintro _ v124 ⟨xr126, rfl, r126, e125⟩
    refine ret_intro ?_
    have hw6 : Ext w v124 := hw5.trans e125
    obtain rfl := r126
    refine wl_cmp rfl rfl rfl false (scmp_eq_f h0) (by decide) ?_
    refine wl_nil ?_
    refine eo_then ?_
    refine cw_false rfl ?_
    refine cw_skip ?_
    refine eo_then ?_
    refine cw_seq ?_
    have L127 : ln ((Int.natAbs x : Int)) ≤ 17179869184 := (by rw [ln_abs]; exact Lx)
    have L129 : ln ((Int.natAbs y : Int)) ≤ 17179869184 := (by rw [ln_abs]; exact Ly)
    refine cw_draw mix 6 [] [Is (.agg #[.bool sa, .slice Aa na ca]), ZR w.heap.size ((Int.natAbs x : Int)), Is (.agg #[.bool sb, .slice Ab nb cb]), ZR w.heap.size ((Int.natAbs y : Int)), fun v' w' => ∃ s0 A0 n0 c0 s1 A1 n1 c1, v' = .agg #[.bool s0, .slice A0 n0 c0, .bool s1, .slice A1 n1 c1] ∧ Zr w' w.heap.size s0 A0 n0 c0 ((Int.natAbs x : Int)) ∧ Zr w' w.heap.size s1 A1 n1 c1 ((Int.natAbs y : Int)), PR v124.heap.size 77 [.bool false, .slice none 0 0, .bool false, .slice none 0 0]] [[], [0], [], [2], [1, 3], []] [[], [0], [], [0, 1, 2], [0, 1, 2, 3], [], [0, 1, 2, 3, 4, 5]] rfl
      (obs_cons rfl rfl (hob rfl rfl ?_) (obs_cons rfl rfl (hob rfl rfl ?_) (obs_cons rfl rfl (hob rfl rfl ?_) (obs_cons rfl rfl (hob rfl rfl ?_) (obs_cons rfl rfl (hob rfl rfl ?_) (obs_cons rfl rfl (hob rfl rfl ?_) obs_nil)))))) ?_
    · -- 0
      intro v133 e134
      have hw7 : Ext w v133 := hw6.trans e134
      refine deps_nil ?_
      refine wl_load rfl rfl (load_agg aggInt (hb4.ext (e8.trans (e14.trans (e20.trans (e26.trans (e125.trans e134)))))) [.bool sa, .slice Aa na ca] rfl (Nat.le_of_ble_eq_true rfl) rfl) (by decide) ?_
      exact pi_done rfl (Ext.refl _) rfl
    · -- 1
      intro v135 e136
      have hw7 : Ext w v135 := hw6.trans e136
      refine deps_cons rfl rfl fun x137 y138 h139 e140 f141 => ?_
      obtain rfl := h139
      refine deps_nil ?_
      have L142 : ln ((Int.natAbs x : Int)) ≤ 17179869184 := (by rw [ln_abs]; exact Lx)
      refine wl_call rfl rfl (vs := [.agg #[.bool sa, .slice Aa na ca]]) (by kernel_rfl) (by decide) (g_zint_Abs hw7.size (hx.ext hw7) (Nat.le_trans la (by decide))) ?_
      rintro _ v143 ⟨xr145, rfl, r145, e144⟩
      refine ret_intro ?_
      have hw8 : Ext w v143 := hw7.trans e144
      obtain ⟨s146, A146, n146, c146, rfl, z146⟩ := r145
      exact pi_done rfl e144 ⟨_, _, _, _, rfl, z146⟩
    · -- 2
      intro v147 e148
      have hw7 : Ext w v147 := hw6.trans e148
      refine deps_nil ?_
      refine wl_load rfl rfl (load_agg aggInt (hb9.ext (e14.trans (e20.trans (e26.trans (e125.trans e148))))) [.bool sb, .slice Ab nb cb] rfl (Nat.le_of_ble_eq_true rfl) rfl) (by decide) ?_
      exact pi_done rfl (Ext.refl _) rfl
    · -- 3
      intro v149 e150
      have hw7 : Ext w v149 := hw6.trans e150
      refine deps_cons rfl rfl fun x151 y152 h153 e154 f155 => ?_
      obtain rfl := h153
      refine deps_nil ?_
      have L156 : ln ((Int.natAbs y : Int)) ≤ 17179869184 := (by rw [ln_abs]; exact Ly)
      refine wl_call rfl rfl (vs := [.agg #[.bool sb, .slice Ab nb cb]]) (by kernel_rfl) (by decide) (g_zint_Abs hw7.size (hy.ext hw7) (Nat.le_trans lb (by decide))) ?_
      rintro _ v157 ⟨xr159, rfl, r159, e158⟩
      refine ret_intro ?_
      have hw8 : Ext w v157 := hw7.trans e158
      obtain ⟨s160, A160, n160, c160, rfl, z160⟩ := r159
      exact pi_done rfl e158 ⟨_, _, _, _, rfl, z160⟩
    · -- 4
      intro v161 e162
      have hw7 : Ext w v161 := hw6.trans e162
      refine deps_cons rfl rfl fun x163 y164 h165 e166 f167 => ?_
      obtain ⟨s168, A168, n168, c168, rfl, z168⟩ := h165
      have z168 := z168.ext f167
      refine deps_cons rfl rfl fun x169 y170 h171 e172 f173 => ?_
      obtain ⟨s174, A174, n174, c174, rfl, z174⟩ := h171
      have z174 := z174.ext f173
      refine deps_nil ?_
      refine wl_pure rfl rfl (v := .agg #[.bool s168, .slice A168 n168 c168, .bool s174, .slice A174 n174 c174]) (by decide) (by kernel_rfl) ?_
      exact pi_done rfl (Ext.refl _) ⟨_, _, _, _, _, _, _, _, rfl, z168, z174⟩
    · -- 5
      intro v175 e176
      have hw7 : Ext w v175 := hw6.trans e176
      refine deps_nil ?_
      refine wl_alloc rfl (z := .agg #[.bool false, .slice none 0 0, .bool false, .slice none 0 0]) (vs := [.bool false, .slice none 0 0, .bool false, .slice none 0 0]) (fun _ => by kernel_rfl) rfl (by decide) fun g177 v178 nb => ?_
      exact pi_done rfl nb.ext ⟨_, rfl, by rw [← nb.at_]; exact e176.size, nb.bk⟩
    · -- all
      intro v179 e180
      have hw7 : Ext w v179 := hw6.trans e180
      refine deps_cons rfl rfl fun x181 y182 h183 e184 f185 => ?_
      obtain rfl := h183
      refine deps_cons rfl rfl fun x186 y187 h188 e189 f190 => ?_
      obtain ⟨s191, A191, n191, c191, rfl, z191⟩ := h188
      have z191 := z191.ext f190
      refine deps_cons rfl rfl fun x192 y193 h194 e195 f196 => ?_
      obtain rfl := h194
      refine deps_cons rfl rfl fun x197 y198 h199 e200 f201 => ?_
      obtain ⟨s202, A202, n202, c202, rfl, z202⟩ := h199
      have z202 := z202.ext f201
      refine deps_cons rfl rfl fun x203 y204 h205 e206 f207 => ?_
      obtain ⟨s208, A208, n208, c208, s209, A209, n209, c209, rfl, z208, z209⟩ := h205
      have z208 := z208.ext f207
      have z209 := z209.ext f207
      refine deps_cons rfl rfl fun x210 y211 h212 e213 f214 => ?_
      obtain ⟨g215, rfl, ge217, hb216⟩ := h212
      have hb216 := hb216.ext f214
      have q218 : g24 < g215 := Nat.lt_of_lt_of_le (hb27.ext e125).lt ge217
      have ge217 : w.heap.size ≤ g215 := Nat.le_trans hw6.size ge217
      refine deps_nil ?_
      have hb220 := hb216
      refine wl_stored rfl rfl rfl aggTwo rfl hb220 (Nat.le_of_ble_eq_true rfl) rfl [.bool s208, .slice A208 n208 c208, .bool s209, .slice A209 n209 c209] rfl fun v219 hb221 u222 hs223 => ?_
      have hw8 : Ext w v219 := u222.ext hw7 ge217
      refine wl_nil ?_
      refine eo_np ?_
      refine eo_then ?_
      refine cw_seq ?_
      refine cw_region ?_
      refine wl_call rfl rfl (vs := [.int .i64 1]) (by kernel_rfl) (by decide) (g_zint_Of hw8.size (by decide) (by decide)) ?_
      rintro _ v224 ⟨xr226, rfl, r226, e225⟩
      refine ret_intro ?_
      have hw9 : Ext w v224 := hw8.trans e225
      obtain ⟨s227, A227, n227, c227, rfl, z227⟩ := r226
      refine wl_call rfl rfl (vs := [.int .i64 0]) (by kernel_rfl) (by decide) (g_zint_Of hw9.size (by decide) (by decide)) ?_
      rintro _ v228 ⟨xr230, rfl, r230, e229⟩
      refine ret_intro ?_
      have hw10 : Ext w v228 := hw9.trans e229
      obtain ⟨s231, A231, n231, c231, rfl, z231⟩ := r230
      refine wl_pure rfl rfl (v := .agg #[.bool s227, .slice A227 n227 c227, .bool s231, .slice A231 n231 c231]) (by decide) (by kernel_rfl) ?_
      refine wl_alloc rfl (z := .agg #[.bool false, .slice none 0 0, .bool false, .slice none 0 0]) (vs := [.bool false, .slice none 0 0, .bool false, .slice none 0 0]) (fun _ => by kernel_rfl) rfl (by decide) fun g232 v233 nb => ?_
      have hb235 := nb.bk
      have ge236 : w.heap.size ≤ g232 := by rw [← nb.at_]; exact hw10.size
      have q237 : g215 < g232 := by rw [← nb.at_]; exact (hb221.ext (e225.trans e229)).lt
      have e234 := nb.ext
      clear nb
      have hw11 : Ext w v233 := hw10.trans e234
      have hb239 := hb235
      refine wl_stored rfl rfl rfl aggTwo rfl hb239 (Nat.le_of_ble_eq_true rfl) rfl [.bool s227, .slice A227 n227 c227, .bool s231, .slice A231 n231 c231] rfl fun v238 hb240 u241 hs242 => ?_
      have hw12 : Ext w v238 := u241.ext hw11 ge236
      refine wl_nil ?_
      refine eo_then ?_
      refine cw_seq ?_
      refine cw_block ?_
      refine cw_loop (T := World × Int × Int × Int × Int × ZC × ZC × ZC × ZC)
        (fun ⟨wr, r0, r1, m0, m1, k0, k1, k2, k3⟩ => [(2, .pointer (some ⟨g1, 0, none⟩)), (3, .pointer (some ⟨g6, 0, none⟩)), (4, .pointer (some ⟨g12, 0, none⟩)), (5, .pointer (some ⟨g18, 0, none⟩)), (6, .pointer (some ⟨g24, 0, none⟩)), (7, .pointer (some ⟨g215, 0, none⟩)), (8, .pointer (some ⟨g232, 0, none⟩))])
        (fun ⟨wr, r0, r1, m0, m1, k0, k1, k2, k3⟩ => wr)
        (fun ⟨wr, r0, r1, m0, m1, k0, k1, k2, k3⟩ => (Ext w wr) ∧ (ExtI x y r0 r1 m0 m1) ∧ (Bk wr g1 27 [.bool sa, .slice Aa na ca]) ∧ (Bk wr g6 27 [.bool sb, .slice Ab nb cb]) ∧ (Bk wr g12 27 [.bool false, .slice none 0 0]) ∧ (Bk wr g18 27 [.bool false, .slice none 0 0]) ∧ (Bk wr g24 27 [.bool false, .slice none 0 0]) ∧ (Bk wr g215 77 [.bool k0.s, .slice k0.A k0.n k0.c, .bool k1.s, .slice k1.A k1.n k1.c]) ∧ (Bk wr g232 77 [.bool k2.s, .slice k2.A k2.n k2.c, .bool k3.s, .slice k3.A k3.n k3.c]) ∧ (Zr wr w.heap.size k0.s k0.A k0.n k0.c r0) ∧ (Zr wr w.heap.size k1.s k1.A k1.n k1.c r1) ∧ (Zr wr w.heap.size k2.s k2.A k2.n k2.c m0) ∧ (Zr wr w.heap.size k3.s k3.A k3.n k3.c m1))
        (fun ⟨wr, r0, r1, m0, m1, k0, k1, k2, k3⟩ => r1.natAbs)
        (⟨v238, _, _, _, _, ⟨s208, A208, n208, c208⟩, ⟨s209, A209, n209, c209⟩, ⟨s227, A227, n227, c227⟩, ⟨s231, A231, n231, c231⟩⟩ : World × Int × Int × Int × Int × ZC × ZC × ZC × ZC) ⟨hw12, ExtI.init h0, ((((hb4.ext (e8.trans (e14.trans (e20.trans (e26.trans (e125.trans e180)))))).updN u222 (by omega)).ext (e225.trans (e229.trans e234))).updN u241 (by omega)), ((((hb9.ext (e14.trans (e20.trans (e26.trans (e125.trans e180))))).updN u222 (by omega)).ext (e225.trans (e229.trans e234))).updN u241 (by omega)), ((((hb15.ext (e20.trans (e26.trans (e125.trans e180)))).updN u222 (by omega)).ext (e225.trans (e229.trans e234))).updN u241 (by omega)), ((((hb21.ext (e26.trans (e125.trans e180))).updN u222 (by omega)).ext (e225.trans (e229.trans e234))).updN u241 (by omega)), ((((hb27.ext (e125.trans e180)).updN u222 (by omega)).ext (e225.trans (e229.trans e234))).updN u241 (by omega)), ((hb221.ext (e225.trans (e229.trans e234))).updN u241 (by omega)), hb240, (((z208.updT hb220 u222).ext (e225.trans (e229.trans e234))).updT hb239 u241), (((z209.updT hb220 u222).ext (e225.trans (e229.trans e234))).updT hb239 u241), ((z227.ext (e229.trans e234)).updT hb239 u241), ((z231.ext e234).updT hb239 u241)⟩ rfl ⟨rfl, rfl, rfl, rfl, rfl, rfl, rfl, trivial⟩ ?_
      rintro ⟨wr, r0, r1, m0, m1, k0, k1, k2, k3⟩ ⟨hw1, hI, b_2, b_3, b_4, b_5, b_6, b_7, b_8, zk0, zk1, zk2, zk3⟩
      refine cw_re [(2, .pointer (some ⟨g1, 0, none⟩)), (3, .pointer (some ⟨g6, 0, none⟩)), (4, .pointer (some ⟨g12, 0, none⟩)), (5, .pointer (some ⟨g18, 0, none⟩)), (6, .pointer (some ⟨g24, 0, none⟩)), (7, .pointer (some ⟨g215, 0, none⟩)), (8, .pointer (some ⟨g232, 0, none⟩))] wr rfl ⟨rfl, rfl, rfl, rfl, rfl, rfl, rfl, trivial⟩ ?_
      have Lr0 : ln r0 ≤ 17179869184 := ln_max hI.b0 Lx Ly
      have Lr1 : ln r1 ≤ 17179869184 := Nat.le_trans (ln_mono hI.b1) Ly
      have Lm0 : ln m0 ≤ 17179869184 := Nat.le_trans (ln_mono hI.mb0) Ly
      have Lm1 : ln m1 ≤ 17179869184 := Nat.le_trans (ln_mono hI.mb1) Ly
      refine cw_seq ?_
      refine cw_seq ?_
      by_cases hr : r1 = 0
      ·
        have hI0 : ExtI x y r0 0 m0 m1 := hr ▸ hI
        refine cw_region ?_
        refine wl_pure rfl rfl (v := .pointer (some ⟨g215, 2, none⟩)) (by decide) (by kernel_rfl) ?_
        refine wl_load rfl rfl (load_agg aggInt b_7 [.bool k1.s, .slice k1.A k1.n k1.c] rfl (Nat.le_of_ble_eq_true rfl) rfl) (by decide) ?_
        refine wl_call rfl rfl (vs := [.agg #[.bool k1.s, .slice k1.A k1.n k1.c]]) (by kernel_rfl) (by decide) (g_zint_Sign zk1.zi (zk1.le (Nat.le_trans Lr1 (by decide)))) ?_
        rintro _ v243 ⟨xr245, rfl, r245, e244⟩
        refine ret_intro ?_
        have hw2 : Ext w v243 := hw1.trans e244
        obtain rfl := r245
        refine wl_cmp rfl rfl rfl false (scmp_ne_f hr) (by decide) ?_
        refine wl_nil ?_
        refine eo_then ?_
        refine cw_false rfl ?_
        refine cw_exit ?_
        refine eo_thenX ?_
        refine eo_loopX ?_
        refine eo_block_here ?_
        refine eo_then ?_
        refine cw_seq ?_
        refine cw_keep [(2, .pointer (some ⟨g1, 0, none⟩)), (3, .pointer (some ⟨g6, 0, none⟩)), (4, .pointer (some ⟨g12, 0, none⟩)), (5, .pointer (some ⟨g18, 0, none⟩)), (6, .pointer (some ⟨g24, 0, none⟩)), (7, .pointer (some ⟨g215, 0, none⟩)), (8, .pointer (some ⟨g232, 0, none⟩)), (32, .pointer (some ⟨g215, 2, none⟩)), (33, .agg #[.bool k1.s, .slice k1.A k1.n k1.c]), (34, .int .i64 (scmp r1 0)), (35, .bool false)] ⟨rfl, rfl, rfl, rfl, rfl, rfl, rfl, rfl, rfl, rfl, rfl, trivial⟩ ?_
        obtain ⟨v246, hv, e247⟩ : ∃ v, v = v243.drew ∧ Ext v243 v := ⟨_, rfl, (Ext.refl _).drew⟩
        have hw3 : Ext w v246 := hw2.trans e247
        have hb249 := (b_4.ext (e244.trans e247))
        obtain ⟨v248, hr253, hb250, u251, hs252⟩ := run_stored (P := Try.prog) (us := [.bool k0.s, .slice k0.A k0.n k0.c]) (off := 0) aggInt rfl hb249 (Nat.le_of_ble_eq_true rfl) rfl [.bool k0.s, .slice k0.A k0.n k0.c] rfl
        have hw4 : Ext w v248 := u251.ext hw3 ge16
        have hb255 := ((b_5.ext (e244.trans e247)).updN u251 (by omega))
        obtain ⟨v254, hr259, hb256, u257, hs258⟩ := run_stored (P := Try.prog) (us := [.bool k2.s, .slice k2.A k2.n k2.c]) (off := 0) aggInt rfl hb255 (Nat.le_of_ble_eq_true rfl) rfl [.bool k2.s, .slice k2.A k2.n k2.c] rfl
        have hw5 : Ext w v254 := u257.ext hw4 ge22
        refine cw_det mix (w := v246) [.pointer (some ⟨g215, 0, none⟩), .agg #[.bool k0.s, .slice k0.A k0.n k0.c], .pointer (some ⟨g232, 0, none⟩), .agg #[.bool k2.s, .slice k2.A k2.n k2.c], undef, undef] [v246, v248, v254] [4, 5] [[], [0], [], [2], [1], [3]] [[], [0], [], [2], [0, 1], [0, 1, 2, 3, 4]] [(0, 0), (1, 0), (2, 0), (2, 1), (3, 0), (3, 1), (4, 0), (5, 1)] rfl hv ?_ ?_
        ·
          refine dobs_val ([(2, .pointer (some ⟨g1, 0, none⟩)), (3, .pointer (some ⟨g6, 0, none⟩)), (4, .pointer (some ⟨g12, 0, none⟩)), (5, .pointer (some ⟨g18, 0, none⟩)), (6, .pointer (some ⟨g24, 0, none⟩)), (7, .pointer (some ⟨g215, 0, none⟩)), (8, .pointer (some ⟨g232, 0, none⟩)), (32, .pointer (some ⟨g215, 2, none⟩)), (33, .agg #[.bool k1.s, .slice k1.A k1.n k1.c]), (34, .int .i64 (scmp r1 0)), (35, .bool false)]) rfl rfl rfl rfl rfl (rd_pure rfl (by kernel_rfl)) ?_
          refine dobs_val ((60, .pointer (some ⟨g215, 0, none⟩)) :: [(2, .pointer (some ⟨g1, 0, none⟩)), (3, .pointer (some ⟨g6, 0, none⟩)), (4, .pointer (some ⟨g12, 0, none⟩)), (5, .pointer (some ⟨g18, 0, none⟩)), (6, .pointer (some ⟨g24, 0, none⟩)), (7, .pointer (some ⟨g215, 0, none⟩)), (8, .pointer (some ⟨g232, 0, none⟩)), (32, .pointer (some ⟨g215, 2, none⟩)), (33, .agg #[.bool k1.s, .slice k1.A k1.n k1.c]), (34, .int .i64 (scmp r1 0)), (35, .bool false)]) rfl rfl rfl rfl rfl (rd_load rfl (load_agg aggInt (b_7.ext (e244.trans e247)) [.bool k0.s, .slice k0.A k0.n k0.c] rfl (Nat.le_of_ble_eq_true rfl) rfl)) ?_
          refine dobs_val ([(2, .pointer (some ⟨g1, 0, none⟩)), (3, .pointer (some ⟨g6, 0, none⟩)), (4, .pointer (some ⟨g12, 0, none⟩)), (5, .pointer (some ⟨g18, 0, none⟩)), (6, .pointer (some ⟨g24, 0, none⟩)), (7, .pointer (some ⟨g215, 0, none⟩)), (8, .pointer (some ⟨g232, 0, none⟩)), (32, .pointer (some ⟨g215, 2, none⟩)), (33, .agg #[.bool k1.s, .slice k1.A k1.n k1.c]), (34, .int .i64 (scmp r1 0)), (35, .bool false)]) rfl rfl rfl rfl rfl (rd_pure rfl (by kernel_rfl)) ?_
          refine dobs_val ([(2, .pointer (some ⟨g1, 0, none⟩)), (3, .pointer (some ⟨g6, 0, none⟩)), (4, .pointer (some ⟨g12, 0, none⟩)), (5, .pointer (some ⟨g18, 0, none⟩)), (6, .pointer (some ⟨g24, 0, none⟩)), (7, .pointer (some ⟨g215, 0, none⟩)), (8, .pointer (some ⟨g232, 0, none⟩)), (32, .pointer (some ⟨g215, 2, none⟩)), (33, .agg #[.bool k1.s, .slice k1.A k1.n k1.c]), (34, .int .i64 (scmp r1 0)), (35, .bool false)]) rfl rfl rfl rfl rfl (rd_pure rfl (by kernel_rfl)) ?_
          refine dobs_val ((62, .pointer (some ⟨g232, 0, none⟩)) :: [(2, .pointer (some ⟨g1, 0, none⟩)), (3, .pointer (some ⟨g6, 0, none⟩)), (4, .pointer (some ⟨g12, 0, none⟩)), (5, .pointer (some ⟨g18, 0, none⟩)), (6, .pointer (some ⟨g24, 0, none⟩)), (7, .pointer (some ⟨g215, 0, none⟩)), (8, .pointer (some ⟨g232, 0, none⟩)), (32, .pointer (some ⟨g215, 2, none⟩)), (33, .agg #[.bool k1.s, .slice k1.A k1.n k1.c]), (34, .int .i64 (scmp r1 0)), (35, .bool false)]) rfl rfl rfl rfl rfl (rd_load rfl (load_agg aggInt (b_8.ext (e244.trans e247)) [.bool k2.s, .slice k2.A k2.n k2.c] rfl (Nat.le_of_ble_eq_true rfl) rfl)) ?_
          refine dobs_val ((62, .pointer (some ⟨g232, 0, none⟩)) :: [(2, .pointer (some ⟨g1, 0, none⟩)), (3, .pointer (some ⟨g6, 0, none⟩)), (4, .pointer (some ⟨g12, 0, none⟩)), (5, .pointer (some ⟨g18, 0, none⟩)), (6, .pointer (some ⟨g24, 0, none⟩)), (7, .pointer (some ⟨g215, 0, none⟩)), (8, .pointer (some ⟨g232, 0, none⟩)), (32, .pointer (some ⟨g215, 2, none⟩)), (33, .agg #[.bool k1.s, .slice k1.A k1.n k1.c]), (34, .int .i64 (scmp r1 0)), (35, .bool false)]) rfl rfl rfl rfl rfl (rd_load rfl (load_agg aggInt ((b_8.ext (e244.trans e247)).updN u251 (by omega)) [.bool k2.s, .slice k2.A k2.n k2.c] rfl (Nat.le_of_ble_eq_true rfl) rfl)) ?_
          refine dobs_sto ((61, .agg #[.bool k0.s, .slice k0.A k0.n k0.c]) :: [(2, .pointer (some ⟨g1, 0, none⟩)), (3, .pointer (some ⟨g6, 0, none⟩)), (4, .pointer (some ⟨g12, 0, none⟩)), (5, .pointer (some ⟨g18, 0, none⟩)), (6, .pointer (some ⟨g24, 0, none⟩)), (7, .pointer (some ⟨g215, 0, none⟩)), (8, .pointer (some ⟨g232, 0, none⟩)), (32, .pointer (some ⟨g215, 2, none⟩)), (33, .agg #[.bool k1.s, .slice k1.A k1.n k1.c]), (34, .int .i64 (scmp r1 0)), (35, .bool false)]) rfl rfl rfl rfl rfl (rd_store rfl rfl hr253) ?_
          refine dobs_sto ((63, .agg #[.bool k2.s, .slice k2.A k2.n k2.c]) :: [(2, .pointer (some ⟨g1, 0, none⟩)), (3, .pointer (some ⟨g6, 0, none⟩)), (4, .pointer (some ⟨g12, 0, none⟩)), (5, .pointer (some ⟨g18, 0, none⟩)), (6, .pointer (some ⟨g24, 0, none⟩)), (7, .pointer (some ⟨g215, 0, none⟩)), (8, .pointer (some ⟨g232, 0, none⟩)), (32, .pointer (some ⟨g215, 2, none⟩)), (33, .agg #[.bool k1.s, .slice k1.A k1.n k1.c]), (34, .int .i64 (scmp r1 0)), (35, .bool false)]) rfl rfl rfl rfl rfl (rd_store rfl rfl hr259) ?_
          exact dobs_nil
        clear hv
        refine eo_keep [(2, .pointer (some ⟨g1, 0, none⟩)), (3, .pointer (some ⟨g6, 0, none⟩)), (4, .pointer (some ⟨g12, 0, none⟩)), (5, .pointer (some ⟨g18, 0, none⟩)), (6, .pointer (some ⟨g24, 0, none⟩)), (7, .pointer (some ⟨g215, 0, none⟩)), (8, .pointer (some ⟨g232, 0, none⟩)), (32, .pointer (some ⟨g215, 2, none⟩)), (33, .agg #[.bool k1.s, .slice k1.A k1.n k1.c]), (34, .int .i64 (scmp r1 0)), (35, .bool false), (60, .pointer (some ⟨g215, 0, none⟩)), (61, .agg #[.bool k0.s, .slice k0.A k0.n k0.c]), (62, .pointer (some ⟨g232, 0, none⟩)), (63, .agg #[.bool k2.s, .slice k2.A k2.n k2.c])] ⟨rfl, rfl, rfl, rfl, rfl, rfl, rfl, rfl, rfl, rfl, rfl, rfl, rfl, rfl, rfl, trivial⟩ ?_
        refine eo_then ?_
        refine cw_seq ?_
        refine cw_seq ?_
        by_cases hx0 : x < 0
        ·
          have HD := hI0.done h0 (z := -m0) (by rw [if_pos hx0])
          refine cw_region ?_
          refine wl_load rfl rfl (load_agg aggInt (((b_2.ext (e244.trans e247)).updN u251 (by omega)).updN u257 (by omega)) [.bool sa, .slice Aa na ca] rfl (Nat.le_of_ble_eq_true rfl) rfl) (by decide) ?_
          refine wl_call rfl rfl (vs := [.agg #[.bool sa, .slice Aa na ca]]) (by kernel_rfl) (by decide) (g_zint_Sign (hx.ext hw5) (Nat.le_trans la (by decide))) ?_
          rintro _ v260 ⟨xr262, rfl, r262, e261⟩
          refine ret_intro ?_
          have hw6 : Ext w v260 := hw5.trans e261
          obtain rfl := r262
          refine wl_cmp rfl rfl rfl true (scmp_lt_t hx0) (by decide) ?_
          refine wl_nil ?_
          refine eo_then ?_
          refine cw_true rfl ?_
          refine cw_region ?_
          refine wl_load rfl rfl (load_agg aggInt (hb256.ext e261) [.bool k2.s, .slice k2.A k2.n k2.c] rfl (Nat.le_of_ble_eq_true rfl) rfl) (by decide) ?_
          have L263 : ln (-m0) ≤ 17179869184 := (by rw [ln_neg]; exact Lm0)
          refine wl_call rfl rfl (vs := [.agg #[.bool k2.s, .slice k2.A k2.n k2.c]]) (by kernel_rfl) (by decide) (g_zint_Neg hw6.size ((((zk2.ext (e244.trans e247)).updT hb249 u251).updT hb255 u257).ext e261).zi (zk2.le (Nat.le_trans Lm0 (by decide)))) ?_
          rintro _ v264 ⟨xr266, rfl, r266, e265⟩
          refine ret_intro ?_
          have hw7 : Ext w v264 := hw6.trans e265
          obtain ⟨s267, A267, n267, c267, rfl, z267⟩ := r266
          have hb269 := (hb256.ext (e261.trans e265))
          refine wl_stored rfl rfl rfl aggInt rfl hb269 (Nat.le_of_ble_eq_true rfl) rfl [.bool s267, .slice A267 n267 c267] rfl fun v268 hb270 u271 hs272 => ?_
          have hw8 : Ext w v268 := u271.ext hw7 ge22
          refine wl_nil ?_
          refine eo_then ?_
          refine cw_seq ?_
          refine cw_region ?_
          refine wl_load rfl rfl (load_agg aggInt (((((b_3.ext (e244.trans e247)).updN u251 (by omega)).updN u257 (by omega)).ext (e261.trans e265)).updN u271 (by omega)) [.bool sb, .slice Ab nb cb] rfl (Nat.le_of_ble_eq_true rfl) rfl) (by decide) ?_
          refine wl_load rfl rfl (load_agg aggInt (((hb250.updN u257 (by omega)).ext (e261.trans e265)).updN u271 (by omega)) [.bool k0.s, .slice k0.A k0.n k0.c] rfl (Nat.le_of_ble_eq_true rfl) rfl) (by decide) ?_
          have L273 : ln (y.tdiv r0) ≤ 17179869184 := Nat.le_trans (ln_tdiv _ _) Ly
          refine wl_call rfl rfl (vs := [.agg #[.bool sb, .slice Ab nb cb], .agg #[.bool k0.s, .slice k0.A k0.n k0.c]]) (by kernel_rfl) (by decide) (g_zint_Exact_ok hw8.size (hy.ext hw8) (Nat.le_trans lb (by decide)) (((((zk0.ext (e244.trans e247)).updT hb249 u251).updT hb255 u257).ext (e261.trans e265)).updT hb269 u271).zi (zk0.le (Nat.le_trans Lr0 (by decide))) HD.2.1 HD.2.2.2.1) ?_
          rintro _ v274 ⟨xr276, rfl, r276, e275⟩
          refine ret_intro ?_
          have hw9 : Ext w v274 := hw8.trans e275
          obtain ⟨a277_0, a277_1, rfl, r277_0, r277_1⟩ := r276
          obtain ⟨s278, A278, n278, c278, rfl, z278⟩ := r277_0
          obtain rfl := r277_1
          refine wl_move rfl rfl (by decide) ?_
          refine wl_pure rfl rfl (v := .agg #[.bool s278, .slice A278 n278 c278]) (by decide) (by kernel_rfl) ?_
          refine wl_pure rfl rfl (v := .int .i64 0) (by decide) (by kernel_rfl) ?_
          refine wl_alloc rfl (z := .agg #[.bool false, .slice none 0 0]) (vs := [.bool false, .slice none 0 0]) (fun _ => by kernel_rfl) rfl (by decide) fun g279 v280 nb => ?_
          have hb282 := nb.bk
          have ge283 : w.heap.size ≤ g279 := by rw [← nb.at_]; exact hw9.size
          have q284 : g232 < g279 := by rw [← nb.at_]; exact ((((((b_8.ext (e244.trans e247)).updN u251 (by omega)).updN u257 (by omega)).ext (e261.trans e265)).updN u271 (by omega)).ext e275).lt
          have e281 := nb.ext
          clear nb
          have hw10 : Ext w v280 := hw9.trans e281
          have hb286 := hb282
          refine wl_stored rfl rfl rfl aggInt rfl hb286 (Nat.le_of_ble_eq_true rfl) rfl [.bool s278, .slice A278 n278 c278] rfl fun v285 hb287 u288 hs289 => ?_
          have hw11 : Ext w v285 := u288.ext hw10 ge283
          refine wl_assign rfl rfl (by decide) ?_
          refine wl_nil ?_
          refine eo_then ?_
          refine cw_seq ?_
          refine cw_region ?_
          refine wl_load rfl rfl (load_agg aggInt ((hb270.ext (e275.trans e281)).updN u288 (by omega)) [.bool s267, .slice A267 n267 c267] rfl (Nat.le_of_ble_eq_true rfl) rfl) (by decide) ?_
          refine wl_load rfl rfl (load_agg aggInt hb287 [.bool s278, .slice A278 n278 c278] rfl (Nat.le_of_ble_eq_true rfl) rfl) (by decide) ?_
          have L290 : ln ((-m0) % (y.tdiv r0)) ≤ 17179869184 := Nat.le_trans (ln_emod HD.2.2.1) L273
          refine wl_call rfl rfl (vs := [.agg #[.bool s267, .slice A267 n267 c267], .agg #[.bool s278, .slice A278 n278 c278]]) (by kernel_rfl) (by decide) (g_zint_Mod hw11.size (((z267.updT hb269 u271).ext (e275.trans e281)).updT hb286 u288).zi (z267.le (Nat.le_trans L263 (by decide))) ((z278.ext e281).updT hb286 u288).zi (z278.le (Nat.le_trans L273 (by decide))) HD.2.2.1) ?_
          rintro _ v291 ⟨xr293, rfl, r293, e292⟩
          refine ret_intro ?_
          have hw12 : Ext w v291 := hw11.trans e292
          obtain ⟨a294_0, a294_1, rfl, r294_0, r294_1⟩ := r293
          obtain ⟨s295, A295, n295, c295, rfl, z295⟩ := r294_0
          obtain rfl := r294_1
          refine wl_move rfl rfl (by decide) ?_
          refine wl_pure rfl rfl (v := .agg #[.bool s295, .slice A295 n295 c295]) (by decide) (by kernel_rfl) ?_
          refine wl_pure rfl rfl (v := .int .i64 0) (by decide) (by kernel_rfl) ?_
          have hb297 := (((hb270.ext (e275.trans e281)).updN u288 (by omega)).ext e292)
          refine wl_stored rfl rfl rfl aggInt rfl hb297 (Nat.le_of_ble_eq_true rfl) rfl [.bool s295, .slice A295 n295 c295] rfl fun v296 hb298 u299 hs300 => ?_
          have hw13 : Ext w v296 := u299.ext hw12 ge22
          refine wl_nil ?_
          refine eo_then ?_
          refine cw_seq ?_
          have L301 : ln (x * ((-m0) % (y.tdiv r0))) ≤ 34359738368 := Nat.le_trans (ln_mul Lx L290) (by decide)
          have L303 : ln (r0 - (x * ((-m0) % (y.tdiv r0)))) ≤ 34359738369 := Nat.le_trans (ln_sub Lr0 L301) (by decide)
          have L305 : ln ((r0 - (x * ((-m0) % (y.tdiv r0)))).tdiv y) ≤ 34359738369 := Nat.le_trans (ln_tdiv _ _) L303
          refine cw_draw mix 10 [8, 9] [Is (.agg #[.bool k0.s, .slice k0.A k0.n k0.c]), Is (.agg #[.bool sa, .slice Aa na ca]), Is (.agg #[.bool s295, .slice A295 n295 c295]), ZR w.heap.size (x * ((-m0) % (y.tdiv r0))), ZR w.heap.size (r0 - (x * ((-m0) % (y.tdiv r0)))), Is (.agg #[.bool sb, .slice Ab nb cb]), T2 (ZR w.heap.size ((r0 - (x * ((-m0) % (y.tdiv r0)))).tdiv y)) (Is (.int .i64 0)), T2 (ZR w.heap.size ((r0 - (x * ((-m0) % (y.tdiv r0)))).tdiv y)) (Is (.int .i64 0)), ZR w.heap.size ((r0 - (x * ((-m0) % (y.tdiv r0)))).tdiv y), Is (.int .i64 0)] [[], [], [], [1, 2], [0, 3], [], [4, 5], [6], [7], [7]] [[], [], [], [1, 2], [0, 1, 2, 3], [], [0, 1, 2, 3, 4, 5], [0, 1, 2, 3, 4, 5, 6], [0, 1, 2, 3, 4, 5, 6, 7], [0, 1, 2, 3, 4, 5, 6, 7], [0, 1, 2, 3, 4, 5, 6, 7, 8]] rfl
            (obs_cons rfl rfl (hob rfl rfl ?_) (obs_cons rfl rfl (hob rfl rfl ?_) (obs_cons rfl rfl (hob rfl rfl ?_) (obs_cons rfl rfl (hob rfl rfl ?_) (obs_cons rfl rfl (hob rfl rfl ?_) (obs_cons rfl rfl (hob rfl rfl ?_) (obs_cons rfl rfl (hob rfl rfl ?_) (obs_cons rfl rfl (hob rfl rfl ?_) (obs_float rfl rfl (fob rfl ?_) (obs_float rfl rfl (fob rfl ?_) obs_nil)))))))))) ?_
          · -- 0
            intro v311 e312
            have hw14 : Ext w v311 := hw13.trans e312
            refine deps_nil ?_
            refine wl_load rfl rfl (load_agg aggInt ((((((((hb250.updN u257 (by omega)).ext (e261.trans e265)).updN u271 (by omega)).ext (e275.trans e281)).updN u288 (by omega)).ext e292).updN u299 (by omega)).ext e312) [.bool k0.s, .slice k0.A k0.n k0.c] rfl (Nat.le_of_ble_eq_true rfl) rfl) (by decide) ?_
            exact pi_done rfl (Ext.refl _) rfl
          · -- 1
            intro v313 e314
            have hw14 : Ext w v313 := hw13.trans e314
            refine deps_nil ?_
            refine wl_load rfl rfl (load_agg aggInt ((((((((((b_2.ext (e244.trans e247)).updN u251 (by omega)).updN u257 (by omega)).ext (e261.trans e265)).updN u271 (by omega)).ext (e275.trans e281)).updN u288 (by omega)).ext e292).updN u299 (by omega)).ext e314) [.bool sa, .slice Aa na ca] rfl (Nat.le_of_ble_eq_true rfl) rfl) (by decide) ?_
            exact pi_done rfl (Ext.refl _) rfl
          · -- 2
            intro v315 e316
            have hw14 : Ext w v315 := hw13.trans e316
            refine deps_nil ?_
            refine wl_load rfl rfl (load_agg aggInt (hb298.ext e316) [.bool s295, .slice A295 n295 c295] rfl (Nat.le_of_ble_eq_true rfl) rfl) (by decide) ?_
            exact pi_done rfl (Ext.refl _) rfl
          · -- 3
            intro v317 e318
            have hw14 : Ext w v317 := hw13.trans e318
            refine deps_cons rfl rfl fun x319 y320 h321 e322 f323 => ?_
            obtain rfl := h321
            refine deps_cons rfl rfl fun x324 y325 h326 e327 f328 => ?_
            obtain rfl := h326
            refine deps_nil ?_
            have L329 : ln (x * ((-m0) % (y.tdiv r0))) ≤ 34359738368 := Nat.le_trans (ln_mul Lx L290) (by decide)
            refine wl_call rfl rfl (vs := [.agg #[.bool sa, .slice Aa na ca], .agg #[.bool s295, .slice A295 n295 c295]]) (by kernel_rfl) (by decide) (g_zint_Mul hw14.size (hx.ext hw14) (Nat.le_trans la (by decide)) ((z295.updT hb297 u299).ext e318).zi (z295.le (Nat.le_trans L290 (by decide)))) ?_
            rintro _ v330 ⟨xr332, rfl, r332, e331⟩
            refine ret_intro ?_
            have hw15 : Ext w v330 := hw14.trans e331
            obtain ⟨s333, A333, n333, c333, rfl, z333⟩ := r332
            exact pi_done rfl e331 ⟨_, _, _, _, rfl, z333⟩
          · -- 4
            intro v334 e335
            have hw14 : Ext w v334 := hw13.trans e335
            refine deps_cons rfl rfl fun x336 y337 h338 e339 f340 => ?_
            obtain rfl := h338
            refine deps_cons rfl rfl fun x341 y342 h343 e344 f345 => ?_
            obtain ⟨s346, A346, n346, c346, rfl, z346⟩ := h343
            have z346 := z346.ext f345
            refine deps_nil ?_
            have L347 : ln (r0 - (x * ((-m0) % (y.tdiv r0)))) ≤ 34359738369 := Nat.le_trans (ln_sub Lr0 L301) (by decide)
            refine wl_call rfl rfl (vs := [.agg #[.bool k0.s, .slice k0.A k0.n k0.c], .agg #[.bool s346, .slice A346 n346 c346]]) (by kernel_rfl) (by decide) (g_zint_Sub hw14.size ((((((((((zk0.ext (e244.trans e247)).updT hb249 u251).updT hb255 u257).ext (e261.trans e265)).updT hb269 u271).ext (e275.trans e281)).updT hb286 u288).ext e292).updT hb297 u299).ext e335).zi (zk0.le (Nat.le_trans Lr0 (by decide))) z346.zi (z346.le (Nat.le_trans L301 (by decide)))) ?_
            rintro _ v348 ⟨xr350, rfl, r350, e349⟩
            refine ret_intro ?_
            have hw15 : Ext w v348 := hw14.trans e349
            obtain ⟨s351, A351, n351, c351, rfl, z351⟩ := r350
            exact pi_done rfl e349 ⟨_, _, _, _, rfl, z351⟩
          · -- 5
            intro v352 e353
            have hw14 : Ext w v352 := hw13.trans e353
            refine deps_nil ?_
            refine wl_load rfl rfl (load_agg aggInt ((((((((((b_3.ext (e244.trans e247)).updN u251 (by omega)).updN u257 (by omega)).ext (e261.trans e265)).updN u271 (by omega)).ext (e275.trans e281)).updN u288 (by omega)).ext e292).updN u299 (by omega)).ext e353) [.bool sb, .slice Ab nb cb] rfl (Nat.le_of_ble_eq_true rfl) rfl) (by decide) ?_
            exact pi_done rfl (Ext.refl _) rfl
          · -- 6
            intro v354 e355
            have hw14 : Ext w v354 := hw13.trans e355
            refine deps_cons rfl rfl fun x356 y357 h358 e359 f360 => ?_
            obtain ⟨s361, A361, n361, c361, rfl, z361⟩ := h358
            have z361 := z361.ext f360
            refine deps_cons rfl rfl fun x362 y363 h364 e365 f366 => ?_
            obtain rfl := h364
            refine deps_nil ?_
            have L367 : ln ((r0 - (x * ((-m0) % (y.tdiv r0)))).tdiv y) ≤ 34359738369 := Nat.le_trans (ln_tdiv _ _) L303
            refine wl_call rfl rfl (vs := [.agg #[.bool s361, .slice A361 n361 c361], .agg #[.bool sb, .slice Ab nb cb]]) (by kernel_rfl) (by decide) (g_zint_Exact_ok hw14.size z361.zi (z361.le (Nat.le_trans L303 (by decide))) (hy.ext hw14) (Nat.le_trans lb (by decide)) h0 HD.2.2.2.2.1) ?_
            rintro _ v368 ⟨xr370, rfl, r370, e369⟩
            refine ret_intro ?_
            have hw15 : Ext w v368 := hw14.trans e369
            obtain ⟨a371_0, a371_1, rfl, r371_0, r371_1⟩ := r370
            obtain ⟨s372, A372, n372, c372, rfl, z372⟩ := r371_0
            obtain rfl := r371_1
            exact pi_done rfl e369 ⟨_, _, rfl, ⟨_, _, _, _, rfl, z372⟩, rfl⟩
          · -- 7
            intro v373 e374
            have hw14 : Ext w v373 := hw13.trans e374
            refine deps_cons rfl rfl fun x375 y376 h377 e378 f379 => ?_
            obtain ⟨a380_0, a380_1, rfl, r380_0, r380_1⟩ := h377
            obtain ⟨s381, A381, n381, c381, rfl, z381⟩ := r380_0
            obtain rfl := r380_1
            have z381 := z381.ext f379
            refine deps_nil ?_
            refine wl_move rfl rfl (by decide) ?_
            exact pi_done rfl (Ext.refl _) ⟨_, _, rfl, ⟨_, _, _, _, rfl, z381⟩, rfl⟩
          · -- 8
            intro v382 e383
            have hw14 : Ext w v382 := hw13.trans e383
            refine deps_cons rfl rfl fun x384 y385 h386 e387 f388 => ?_
            obtain ⟨a389_0, a389_1, rfl, r389_0, r389_1⟩ := h386
            obtain ⟨s390, A390, n390, c390, rfl, z390⟩ := r389_0
            obtain rfl := r389_1
            have z390 := z390.ext f388
            refine deps_nil ?_
            exact ⟨.agg #[.bool s390, .slice A390 n390 c390], rfl, rfl, fun _ => by kernel_rfl, ⟨_, _, _, _, rfl, z390⟩⟩
          · -- 9
            intro v391 e392
            have hw14 : Ext w v391 := hw13.trans e392
            refine deps_cons rfl rfl fun x393 y394 h395 e396 f397 => ?_
            obtain ⟨a398_0, a398_1, rfl, r398_0, r398_1⟩ := h395
            obtain ⟨s399, A399, n399, c399, rfl, z399⟩ := r398_0
            obtain rfl := r398_1
            have z399 := z399.ext f397
            refine deps_nil ?_
            exact ⟨.int .i64 0, rfl, rfl, fun _ => by kernel_rfl, rfl⟩
          · -- all
            intro v400 e401
            have hw14 : Ext w v400 := hw13.trans e401
            refine deps_cons rfl rfl fun x402 y403 h404 e405 f406 => ?_
            obtain rfl := h404
            refine deps_cons rfl rfl fun x407 y408 h409 e410 f411 => ?_
            obtain rfl := h409
            refine deps_cons rfl rfl fun x412 y413 h414 e415 f416 => ?_
            obtain rfl := h414
            refine deps_cons rfl rfl fun x417 y418 h419 e420 f421 => ?_
            obtain ⟨s422, A422, n422, c422, rfl, z422⟩ := h419
            have z422 := z422.ext f421
            refine deps_cons rfl rfl fun x423 y424 h425 e426 f427 => ?_
            obtain ⟨s428, A428, n428, c428, rfl, z428⟩ := h425
            have z428 := z428.ext f427
            refine deps_cons rfl rfl fun x429 y430 h431 e432 f433 => ?_
            obtain rfl := h431
            refine deps_cons rfl rfl fun x434 y435 h436 e437 f438 => ?_
            obtain ⟨a439_0, a439_1, rfl, r439_0, r439_1⟩ := h436
            obtain ⟨s440, A440, n440, c440, rfl, z440⟩ := r439_0
            obtain rfl := r439_1
            have z440 := z440.ext f438
            refine deps_cons rfl rfl fun x441 y442 h443 e444 f445 => ?_
            obtain ⟨a446_0, a446_1, rfl, r446_0, r446_1⟩ := h443
            obtain ⟨s447, A447, n447, c447, rfl, z447⟩ := r446_0
            obtain rfl := r446_1
            have z447 := z447.ext f445
            refine deps_cons rfl rfl fun x448 y449 h450 e451 f452 => ?_
            obtain ⟨s453, A453, n453, c453, rfl, z453⟩ := h450
            have z453 := z453.ext f452
            refine deps_cons rfl rfl fun x454 y455 h456 e457 f458 => ?_
            obtain rfl := h456
            refine deps_nil ?_
            have hb460 := ((((((((((b_6.ext (e244.trans e247)).updN u251 (by omega)).updN u257 (by omega)).ext (e261.trans e265)).updN u271 (by omega)).ext (e275.trans e281)).updN u288 (by omega)).ext e292).updN u299 (by omega)).ext e401)
            refine wl_stored rfl rfl rfl aggInt rfl hb460 (Nat.le_of_ble_eq_true rfl) rfl [.bool s453, .slice A453 n453 c453] rfl fun v459 hb461 u462 hs463 => ?_
            have hw15 : Ext w v459 := u462.ext hw14 ge28
            refine wl_nil ?_
            refine eo_np ?_
            refine eo_then ?_
            refine cw_seq ?_
            refine cw_keep [(2, .pointer (some ⟨g1, 0, none⟩)), (3, .pointer (some ⟨g6, 0, none⟩)), (4, .pointer (some ⟨g12, 0, none⟩)), (5, .pointer (some ⟨g18, 0, none⟩)), (6, .pointer (some ⟨g24, 0, none⟩)), (7, .pointer (some ⟨g215, 0, none⟩)), (8, .pointer (some ⟨g232, 0, none⟩)), (32, .pointer (some ⟨g215, 2, none⟩)), (33, .agg #[.bool k1.s, .slice k1.A k1.n k1.c]), (34, .int .i64 (scmp r1 0)), (35, .bool false), (60, .pointer (some ⟨g215, 0, none⟩)), (61, .agg #[.bool k0.s, .slice k0.A k0.n k0.c]), (62, .pointer (some ⟨g232, 0, none⟩)), (63, .agg #[.bool k2.s, .slice k2.A k2.n k2.c]), (64, .agg #[.bool sa, .slice Aa na ca]), (65, .int .i64 (scmp x 0)), (66, .bool true), (67, .agg #[.bool k2.s, .slice k2.A k2.n k2.c]), (68, .agg #[.bool s267, .slice A267 n267 c267]), (70, .agg #[.bool sb, .slice Ab nb cb]), (71, .agg #[.bool k0.s, .slice k0.A k0.n k0.c]), (72, .tuple #[.agg #[.bool s278, .slice A278 n278 c278], .int .i64 0]), (69, .tuple #[.agg #[.bool s278, .slice A278 n278 c278], .int .i64 0]), (73, .agg #[.bool s278, .slice A278 n278 c278]), (74, .int .i64 0), (13, .pointer (some ⟨g279, 0, none⟩)), (14, .int .i64 0), (76, .agg #[.bool s267, .slice A267 n267 c267]), (77, .agg #[.bool s278, .slice A278 n278 c278]), (78, .tuple #[.agg #[.bool s295, .slice A295 n295 c295], .int .i64 0]), (75, .tuple #[.agg #[.bool s295, .slice A295 n295 c295], .int .i64 0]), (79, .agg #[.bool s295, .slice A295 n295 c295]), (80, .int .i64 0), (82, .agg #[.bool k0.s, .slice k0.A k0.n k0.c]), (83, .agg #[.bool sa, .slice Aa na ca]), (84, .agg #[.bool s295, .slice A295 n295 c295]), (85, .agg #[.bool s422, .slice A422 n422 c422]), (86, .agg #[.bool s428, .slice A428 n428 c428]), (87, .agg #[.bool sb, .slice Ab nb cb]), (88, .tuple #[.agg #[.bool s440, .slice A440 n440 c440], .int .i64 0]), (81, .tuple #[.agg #[.bool s447, .slice A447 n447 c447], .int .i64 0]), (89, .agg #[.bool s453, .slice A453 n453 c453]), (90, .int .i64 0)] ⟨rfl, rfl, rfl, rfl, rfl, rfl, rfl, rfl, rfl, rfl, rfl, rfl, rfl, rfl, rfl, rfl, rfl, rfl, rfl, rfl, rfl, rfl, rfl, rfl, rfl, rfl, rfl, rfl, rfl, rfl, rfl, rfl, rfl, rfl, rfl, rfl, rfl, rfl, rfl, rfl, rfl, rfl, rfl, rfl, trivial⟩ ?_
            obtain ⟨v464, hv, e465⟩ : ∃ v, v = v459.drew ∧ Ext v459 v := ⟨_, rfl, (Ext.refl _).drew⟩
            have hw16 : Ext w v464 := hw15.trans e465
            have hb467 := ((((((((((hb250.updN u257 (by omega)).ext (e261.trans e265)).updN u271 (by omega)).ext (e275.trans e281)).updN u288 (by omega)).ext e292).updN u299 (by omega)).ext e401).updN u462 (by omega)).ext e465)
            obtain ⟨v466, hr471, hb468, u469, hs470⟩ := run_stored (P := Try.prog) (us := [.bool k0.s, .slice k0.A k0.n k0.c]) (off := 0) aggInt rfl hb467 (Nat.le_of_ble_eq_true rfl) rfl [.bool k0.s, .slice k0.A k0.n k0.c] rfl
            have hw17 : Ext w v466 := u469.ext hw16 ge16
            have hb473 := ((((hb298.ext e401).updN u462 (by omega)).ext e465).updN u469 (by omega))
            obtain ⟨v472, hr477, hb474, u475, hs476⟩ := run_stored (P := Try.prog) (us := [.bool s295, .slice A295 n295 c295]) (off := 0) aggInt rfl hb473 (Nat.le_of_ble_eq_true rfl) rfl [.bool s295, .slice A295 n295 c295] rfl
            have hw18 : Ext w v472 := u475.ext hw17 ge22
            have hb479 := (((hb461.ext e465).updN u469 (by omega)).updN u475 (by omega))
            obtain ⟨v478, hr483, hb480, u481, hs482⟩ := run_stored (P := Try.prog) (us := [.bool s453, .slice A453 n453 c453]) (off := 0) aggInt rfl hb479 (Nat.le_of_ble_eq_true rfl) rfl [.bool s453, .slice A453 n453 c453] rfl
            have hw19 : Ext w v478 := u481.ext hw18 ge28
            refine cw_det mix (w := v464) [.agg #[.bool k0.s, .slice k0.A k0.n k0.c], .agg #[.bool s295, .slice A295 n295 c295], .agg #[.bool s453, .slice A453 n453 c453], undef, undef, undef] [v464, v466, v472, v478] [3, 4, 5] [[], [], [], [0], [1], [2]] [[], [], [], [0], [0, 1, 3], [0, 1, 2, 3, 4]] [(0, 0), (1, 0), (1, 1), (2, 0), (2, 1), (2, 2), (3, 0), (4, 1), (5, 2)] rfl hv ?_ ?_
            ·
              refine dobs_val ([(2, .pointer (some ⟨g1, 0, none⟩)), (3, .pointer (some ⟨g6, 0, none⟩)), (4, .pointer (some ⟨g12, 0, none⟩)), (5, .pointer (some ⟨g18, 0, none⟩)), (6, .pointer (some ⟨g24, 0, none⟩)), (7, .pointer (some ⟨g215, 0, none⟩)), (8, .pointer (some ⟨g232, 0, none⟩)), (32, .pointer (some ⟨g215, 2, none⟩)), (33, .agg #[.bool k1.s, .slice k1.A k1.n k1.c]), (34, .int .i64 (scmp r1 0)), (35, .bool false), (60, .pointer (some ⟨g215, 0, none⟩)), (61, .agg #[.bool k0.s, .slice k0.A k0.n k0.c]), (62, .pointer (some ⟨g232, 0, none⟩)), (63, .agg #[.bool k2.s, .slice k2.A k2.n k2.c]), (64, .agg #[.bool sa, .slice Aa na ca]), (65, .int .i64 (scmp x 0)), (66, .bool true), (67, .agg #[.bool k2.s, .slice k2.A k2.n k2.c]), (68, .agg #[.bool s267, .slice A267 n267 c267]), (70, .agg #[.bool sb, .slice Ab nb cb]), (71, .agg #[.bool k0.s, .slice k0.A k0.n k0.c]), (72, .tuple #[.agg #[.bool s278, .slice A278 n278 c278], .int .i64 0]), (69, .tuple #[.agg #[.bool s278, .slice A278 n278 c278], .int .i64 0]), (73, .agg #[.bool s278, .slice A278 n278 c278]), (74, .int .i64 0), (13, .pointer (some ⟨g279, 0, none⟩)), (14, .int .i64 0), (76, .agg #[.bool s267, .slice A267 n267 c267]), (77, .agg #[.bool s278, .slice A278 n278 c278]), (78, .tuple #[.agg #[.bool s295, .slice A295 n295 c295], .int .i64 0]), (75, .tuple #[.agg #[.bool s295, .slice A295 n295 c295], .int .i64 0]), (79, .agg #[.bool s295, .slice A295 n295 c295]), (80, .int .i64 0), (82, .agg #[.bool k0.s, .slice k0.A k0.n k0.c]), (83, .agg #[.bool sa, .slice Aa na ca]), (84, .agg #[.bool s295, .slice A295 n295 c295]), (85, .agg #[.bool s422, .slice A422 n422 c422]), (86, .agg #[.bool s428, .slice A428 n428 c428]), (87, .agg #[.bool sb, .slice Ab nb cb]), (88, .tuple #[.agg #[.bool s440, .slice A440 n440 c440], .int .i64 0]), (81, .tuple #[.agg #[.bool s447, .slice A447 n447 c447], .int .i64 0]), (89, .agg #[.bool s453, .slice A453 n453 c453]), (90, .int .i64 0)]) rfl rfl rfl rfl rfl (rd_load rfl (load_agg aggInt ((((((((((hb250.updN u257 (by omega)).ext (e261.trans e265)).updN u271 (by omega)).ext (e275.trans e281)).updN u288 (by omega)).ext e292).updN u299 (by omega)).ext e401).updN u462 (by omega)).ext e465) [.bool k0.s, .slice k0.A k0.n k0.c] rfl (Nat.le_of_ble_eq_true rfl) rfl)) ?_
              refine dobs_val ([(2, .pointer (some ⟨g1, 0, none⟩)), (3, .pointer (some ⟨g6, 0, none⟩)), (4, .pointer (some ⟨g12, 0, none⟩)), (5, .pointer (some ⟨g18, 0, none⟩)), (6, .pointer (some ⟨g24, 0, none⟩)), (7, .pointer (some ⟨g215, 0, none⟩)), (8, .pointer (some ⟨g232, 0, none⟩)), (32, .pointer (some ⟨g215, 2, none⟩)), (33, .agg #[.bool k1.s, .slice k1.A k1.n k1.c]), (34, .int .i64 (scmp r1 0)), (35, .bool false), (60, .pointer (some ⟨g215, 0, none⟩)), (61, .agg #[.bool k0.s, .slice k0.A k0.n k0.c]), (62, .pointer (some ⟨g232, 0, none⟩)), (63, .agg #[.bool k2.s, .slice k2.A k2.n k2.c]), (64, .agg #[.bool sa, .slice Aa na ca]), (65, .int .i64 (scmp x 0)), (66, .bool true), (67, .agg #[.bool k2.s, .slice k2.A k2.n k2.c]), (68, .agg #[.bool s267, .slice A267 n267 c267]), (70, .agg #[.bool sb, .slice Ab nb cb]), (71, .agg #[.bool k0.s, .slice k0.A k0.n k0.c]), (72, .tuple #[.agg #[.bool s278, .slice A278 n278 c278], .int .i64 0]), (69, .tuple #[.agg #[.bool s278, .slice A278 n278 c278], .int .i64 0]), (73, .agg #[.bool s278, .slice A278 n278 c278]), (74, .int .i64 0), (13, .pointer (some ⟨g279, 0, none⟩)), (14, .int .i64 0), (76, .agg #[.bool s267, .slice A267 n267 c267]), (77, .agg #[.bool s278, .slice A278 n278 c278]), (78, .tuple #[.agg #[.bool s295, .slice A295 n295 c295], .int .i64 0]), (75, .tuple #[.agg #[.bool s295, .slice A295 n295 c295], .int .i64 0]), (79, .agg #[.bool s295, .slice A295 n295 c295]), (80, .int .i64 0), (82, .agg #[.bool k0.s, .slice k0.A k0.n k0.c]), (83, .agg #[.bool sa, .slice Aa na ca]), (84, .agg #[.bool s295, .slice A295 n295 c295]), (85, .agg #[.bool s422, .slice A422 n422 c422]), (86, .agg #[.bool s428, .slice A428 n428 c428]), (87, .agg #[.bool sb, .slice Ab nb cb]), (88, .tuple #[.agg #[.bool s440, .slice A440 n440 c440], .int .i64 0]), (81, .tuple #[.agg #[.bool s447, .slice A447 n447 c447], .int .i64 0]), (89, .agg #[.bool s453, .slice A453 n453 c453]), (90, .int .i64 0)]) rfl rfl rfl rfl rfl (rd_load rfl (load_agg aggInt (((hb298.ext e401).updN u462 (by omega)).ext e465) [.bool s295, .slice A295 n295 c295] rfl (Nat.le_of_ble_eq_true rfl) rfl)) ?_
              refine dobs_val ([(2, .pointer (some ⟨g1, 0, none⟩)), (3, .pointer (some ⟨g6, 0, none⟩)), (4, .pointer (some ⟨g12, 0, none⟩)), (5, .pointer (some ⟨g18, 0, none⟩)), (6, .pointer (some ⟨g24, 0, none⟩)), (7, .pointer (some ⟨g215, 0, none⟩)), (8, .pointer (some ⟨g232, 0, none⟩)), (32, .pointer (some ⟨g215, 2, none⟩)), (33, .agg #[.bool k1.s, .slice k1.A k1.n k1.c]), (34, .int .i64 (scmp r1 0)), (35, .bool false), (60, .pointer (some ⟨g215, 0, none⟩)), (61, .agg #[.bool k0.s, .slice k0.A k0.n k0.c]), (62, .pointer (some ⟨g232, 0, none⟩)), (63, .agg #[.bool k2.s, .slice k2.A k2.n k2.c]), (64, .agg #[.bool sa, .slice Aa na ca]), (65, .int .i64 (scmp x 0)), (66, .bool true), (67, .agg #[.bool k2.s, .slice k2.A k2.n k2.c]), (68, .agg #[.bool s267, .slice A267 n267 c267]), (70, .agg #[.bool sb, .slice Ab nb cb]), (71, .agg #[.bool k0.s, .slice k0.A k0.n k0.c]), (72, .tuple #[.agg #[.bool s278, .slice A278 n278 c278], .int .i64 0]), (69, .tuple #[.agg #[.bool s278, .slice A278 n278 c278], .int .i64 0]), (73, .agg #[.bool s278, .slice A278 n278 c278]), (74, .int .i64 0), (13, .pointer (some ⟨g279, 0, none⟩)), (14, .int .i64 0), (76, .agg #[.bool s267, .slice A267 n267 c267]), (77, .agg #[.bool s278, .slice A278 n278 c278]), (78, .tuple #[.agg #[.bool s295, .slice A295 n295 c295], .int .i64 0]), (75, .tuple #[.agg #[.bool s295, .slice A295 n295 c295], .int .i64 0]), (79, .agg #[.bool s295, .slice A295 n295 c295]), (80, .int .i64 0), (82, .agg #[.bool k0.s, .slice k0.A k0.n k0.c]), (83, .agg #[.bool sa, .slice Aa na ca]), (84, .agg #[.bool s295, .slice A295 n295 c295]), (85, .agg #[.bool s422, .slice A422 n422 c422]), (86, .agg #[.bool s428, .slice A428 n428 c428]), (87, .agg #[.bool sb, .slice Ab nb cb]), (88, .tuple #[.agg #[.bool s440, .slice A440 n440 c440], .int .i64 0]), (81, .tuple #[.agg #[.bool s447, .slice A447 n447 c447], .int .i64 0]), (89, .agg #[.bool s453, .slice A453 n453 c453]), (90, .int .i64 0)]) rfl rfl rfl rfl rfl (rd_load rfl (load_agg aggInt ((((hb298.ext e401).updN u462 (by omega)).ext e465).updN u469 (by omega)) [.bool s295, .slice A295 n295 c295] rfl (Nat.le_of_ble_eq_true rfl) rfl)) ?_
              refine dobs_val ([(2, .pointer (some ⟨g1, 0, none⟩)), (3, .pointer (some ⟨g6, 0, none⟩)), (4, .pointer (some ⟨g12, 0, none⟩)), (5, .pointer (some ⟨g18, 0, none⟩)), (6, .pointer (some ⟨g24, 0, none⟩)), (7, .pointer (some ⟨g215, 0, none⟩)), (8, .pointer (some ⟨g232, 0, none⟩)), (32, .pointer (some ⟨g215, 2, none⟩)), (33, .agg #[.bool k1.s, .slice k1.A k1.n k1.c]), (34, .int .i64 (scmp r1 0)), (35, .bool false), (60, .pointer (some ⟨g215, 0, none⟩)), (61, .agg #[.bool k0.s, .slice k0.A k0.n k0.c]), (62, .pointer (some ⟨g232, 0, none⟩)), (63, .agg #[.bool k2.s, .slice k2.A k2.n k2.c]), (64, .agg #[.bool sa, .slice Aa na ca]), (65, .int .i64 (scmp x 0)), (66, .bool true), (67, .agg #[.bool k2.s, .slice k2.A k2.n k2.c]), (68, .agg #[.bool s267, .slice A267 n267 c267]), (70, .agg #[.bool sb, .slice Ab nb cb]), (71, .agg #[.bool k0.s, .slice k0.A k0.n k0.c]), (72, .tuple #[.agg #[.bool s278, .slice A278 n278 c278], .int .i64 0]), (69, .tuple #[.agg #[.bool s278, .slice A278 n278 c278], .int .i64 0]), (73, .agg #[.bool s278, .slice A278 n278 c278]), (74, .int .i64 0), (13, .pointer (some ⟨g279, 0, none⟩)), (14, .int .i64 0), (76, .agg #[.bool s267, .slice A267 n267 c267]), (77, .agg #[.bool s278, .slice A278 n278 c278]), (78, .tuple #[.agg #[.bool s295, .slice A295 n295 c295], .int .i64 0]), (75, .tuple #[.agg #[.bool s295, .slice A295 n295 c295], .int .i64 0]), (79, .agg #[.bool s295, .slice A295 n295 c295]), (80, .int .i64 0), (82, .agg #[.bool k0.s, .slice k0.A k0.n k0.c]), (83, .agg #[.bool sa, .slice Aa na ca]), (84, .agg #[.bool s295, .slice A295 n295 c295]), (85, .agg #[.bool s422, .slice A422 n422 c422]), (86, .agg #[.bool s428, .slice A428 n428 c428]), (87, .agg #[.bool sb, .slice Ab nb cb]), (88, .tuple #[.agg #[.bool s440, .slice A440 n440 c440], .int .i64 0]), (81, .tuple #[.agg #[.bool s447, .slice A447 n447 c447], .int .i64 0]), (89, .agg #[.bool s453, .slice A453 n453 c453]), (90, .int .i64 0)]) rfl rfl rfl rfl rfl (rd_load rfl (load_agg aggInt (hb461.ext e465) [.bool s453, .slice A453 n453 c453] rfl (Nat.le_of_ble_eq_true rfl) rfl)) ?_
              refine dobs_val ([(2, .pointer (some ⟨g1, 0, none⟩)), (3, .pointer (some ⟨g6, 0, none⟩)), (4, .pointer (some ⟨g12, 0, none⟩)), (5, .pointer (some ⟨g18, 0, none⟩)), (6, .pointer (some ⟨g24, 0, none⟩)), (7, .pointer (some ⟨g215, 0, none⟩)), (8, .pointer (some ⟨g232, 0, none⟩)), (32, .pointer (some ⟨g215, 2, none⟩)), (33, .agg #[.bool k1.s, .slice k1.A k1.n k1.c]), (34, .int .i64 (scmp r1 0)), (35, .bool false), (60, .pointer (some ⟨g215, 0, none⟩)), (61, .agg #[.bool k0.s, .slice k0.A k0.n k0.c]), (62, .pointer (some ⟨g232, 0, none⟩)), (63, .agg #[.bool k2.s, .slice k2.A k2.n k2.c]), (64, .agg #[.bool sa, .slice Aa na ca]), (65, .int .i64 (scmp x 0)), (66, .bool true), (67, .agg #[.bool k2.s, .slice k2.A k2.n k2.c]), (68, .agg #[.bool s267, .slice A267 n267 c267]), (70, .agg #[.bool sb, .slice Ab nb cb]), (71, .agg #[.bool k0.s, .slice k0.A k0.n k0.c]), (72, .tuple #[.agg #[.bool s278, .slice A278 n278 c278], .int .i64 0]), (69, .tuple #[.agg #[.bool s278, .slice A278 n278 c278], .int .i64 0]), (73, .agg #[.bool s278, .slice A278 n278 c278]), (74, .int .i64 0), (13, .pointer (some ⟨g279, 0, none⟩)), (14, .int .i64 0), (76, .agg #[.bool s267, .slice A267 n267 c267]), (77, .agg #[.bool s278, .slice A278 n278 c278]), (78, .tuple #[.agg #[.bool s295, .slice A295 n295 c295], .int .i64 0]), (75, .tuple #[.agg #[.bool s295, .slice A295 n295 c295], .int .i64 0]), (79, .agg #[.bool s295, .slice A295 n295 c295]), (80, .int .i64 0), (82, .agg #[.bool k0.s, .slice k0.A k0.n k0.c]), (83, .agg #[.bool sa, .slice Aa na ca]), (84, .agg #[.bool s295, .slice A295 n295 c295]), (85, .agg #[.bool s422, .slice A422 n422 c422]), (86, .agg #[.bool s428, .slice A428 n428 c428]), (87, .agg #[.bool sb, .slice Ab nb cb]), (88, .tuple #[.agg #[.bool s440, .slice A440 n440 c440], .int .i64 0]), (81, .tuple #[.agg #[.bool s447, .slice A447 n447 c447], .int .i64 0]), (89, .agg #[.bool s453, .slice A453 n453 c453]), (90, .int .i64 0)]) rfl rfl rfl rfl rfl (rd_load rfl (load_agg aggInt ((hb461.ext e465).updN u469 (by omega)) [.bool s453, .slice A453 n453 c453] rfl (Nat.le_of_ble_eq_true rfl) rfl)) ?_
              refine dobs_val ([(2, .pointer (some ⟨g1, 0, none⟩)), (3, .pointer (some ⟨g6, 0, none⟩)), (4, .pointer (some ⟨g12, 0, none⟩)), (5, .pointer (some ⟨g18, 0, none⟩)), (6, .pointer (some ⟨g24, 0, none⟩)), (7, .pointer (some ⟨g215, 0, none⟩)), (8, .pointer (some ⟨g232, 0, none⟩)), (32, .pointer (some ⟨g215, 2, none⟩)), (33, .agg #[.bool k1.s, .slice k1.A k1.n k1.c]), (34, .int .i64 (scmp r1 0)), (35, .bool false), (60, .pointer (some ⟨g215, 0, none⟩)), (61, .agg #[.bool k0.s, .slice k0.A k0.n k0.c]), (62, .pointer (some ⟨g232, 0, none⟩)), (63, .agg #[.bool k2.s, .slice k2.A k2.n k2.c]), (64, .agg #[.bool sa, .slice Aa na ca]), (65, .int .i64 (scmp x 0)), (66, .bool true), (67, .agg #[.bool k2.s, .slice k2.A k2.n k2.c]), (68, .agg #[.bool s267, .slice A267 n267 c267]), (70, .agg #[.bool sb, .slice Ab nb cb]), (71, .agg #[.bool k0.s, .slice k0.A k0.n k0.c]), (72, .tuple #[.agg #[.bool s278, .slice A278 n278 c278], .int .i64 0]), (69, .tuple #[.agg #[.bool s278, .slice A278 n278 c278], .int .i64 0]), (73, .agg #[.bool s278, .slice A278 n278 c278]), (74, .int .i64 0), (13, .pointer (some ⟨g279, 0, none⟩)), (14, .int .i64 0), (76, .agg #[.bool s267, .slice A267 n267 c267]), (77, .agg #[.bool s278, .slice A278 n278 c278]), (78, .tuple #[.agg #[.bool s295, .slice A295 n295 c295], .int .i64 0]), (75, .tuple #[.agg #[.bool s295, .slice A295 n295 c295], .int .i64 0]), (79, .agg #[.bool s295, .slice A295 n295 c295]), (80, .int .i64 0), (82, .agg #[.bool k0.s, .slice k0.A k0.n k0.c]), (83, .agg #[.bool sa, .slice Aa na ca]), (84, .agg #[.bool s295, .slice A295 n295 c295]), (85, .agg #[.bool s422, .slice A422 n422 c422]), (86, .agg #[.bool s428, .slice A428 n428 c428]), (87, .agg #[.bool sb, .slice Ab nb cb]), (88, .tuple #[.agg #[.bool s440, .slice A440 n440 c440], .int .i64 0]), (81, .tuple #[.agg #[.bool s447, .slice A447 n447 c447], .int .i64 0]), (89, .agg #[.bool s453, .slice A453 n453 c453]), (90, .int .i64 0)]) rfl rfl rfl rfl rfl (rd_load rfl (load_agg aggInt (((hb461.ext e465).updN u469 (by omega)).updN u475 (by omega)) [.bool s453, .slice A453 n453 c453] rfl (Nat.le_of_ble_eq_true rfl) rfl)) ?_
              refine dobs_sto ((91, .agg #[.bool k0.s, .slice k0.A k0.n k0.c]) :: [(2, .pointer (some ⟨g1, 0, none⟩)), (3, .pointer (some ⟨g6, 0, none⟩)), (4, .pointer (some ⟨g12, 0, none⟩)), (5, .pointer (some ⟨g18, 0, none⟩)), (6, .pointer (some ⟨g24, 0, none⟩)), (7, .pointer (some ⟨g215, 0, none⟩)), (8, .pointer (some ⟨g232, 0, none⟩)), (32, .pointer (some ⟨g215, 2, none⟩)), (33, .agg #[.bool k1.s, .slice k1.A k1.n k1.c]), (34, .int .i64 (scmp r1 0)), (35, .bool false), (60, .pointer (some ⟨g215, 0, none⟩)), (61, .agg #[.bool k0.s, .slice k0.A k0.n k0.c]), (62, .pointer (some ⟨g232, 0, none⟩)), (63, .agg #[.bool k2.s, .slice k2.A k2.n k2.c]), (64, .agg #[.bool sa, .slice Aa na ca]), (65, .int .i64 (scmp x 0)), (66, .bool true), (67, .agg #[.bool k2.s, .slice k2.A k2.n k2.c]), (68, .agg #[.bool s267, .slice A267 n267 c267]), (70, .agg #[.bool sb, .slice Ab nb cb]), (71, .agg #[.bool k0.s, .slice k0.A k0.n k0.c]), (72, .tuple #[.agg #[.bool s278, .slice A278 n278 c278], .int .i64 0]), (69, .tuple #[.agg #[.bool s278, .slice A278 n278 c278], .int .i64 0]), (73, .agg #[.bool s278, .slice A278 n278 c278]), (74, .int .i64 0), (13, .pointer (some ⟨g279, 0, none⟩)), (14, .int .i64 0), (76, .agg #[.bool s267, .slice A267 n267 c267]), (77, .agg #[.bool s278, .slice A278 n278 c278]), (78, .tuple #[.agg #[.bool s295, .slice A295 n295 c295], .int .i64 0]), (75, .tuple #[.agg #[.bool s295, .slice A295 n295 c295], .int .i64 0]), (79, .agg #[.bool s295, .slice A295 n295 c295]), (80, .int .i64 0), (82, .agg #[.bool k0.s, .slice k0.A k0.n k0.c]), (83, .agg #[.bool sa, .slice Aa na ca]), (84, .agg #[.bool s295, .slice A295 n295 c295]), (85, .agg #[.bool s422, .slice A422 n422 c422]), (86, .agg #[.bool s428, .slice A428 n428 c428]), (87, .agg #[.bool sb, .slice Ab nb cb]), (88, .tuple #[.agg #[.bool s440, .slice A440 n440 c440], .int .i64 0]), (81, .tuple #[.agg #[.bool s447, .slice A447 n447 c447], .int .i64 0]), (89, .agg #[.bool s453, .slice A453 n453 c453]), (90, .int .i64 0)]) rfl rfl rfl rfl rfl (rd_store rfl rfl hr471) ?_
              refine dobs_sto ((92, .agg #[.bool s295, .slice A295 n295 c295]) :: [(2, .pointer (some ⟨g1, 0, none⟩)), (3, .pointer (some ⟨g6, 0, none⟩)), (4, .pointer (some ⟨g12, 0, none⟩)), (5, .pointer (some ⟨g18, 0, none⟩)), (6, .pointer (some ⟨g24, 0, none⟩)), (7, .pointer (some ⟨g215, 0, none⟩)), (8, .pointer (some ⟨g232, 0, none⟩)), (32, .pointer (some ⟨g215, 2, none⟩)), (33, .agg #[.bool k1.s, .slice k1.A k1.n k1.c]), (34, .int .i64 (scmp r1 0)), (35, .bool false), (60, .pointer (some ⟨g215, 0, none⟩)), (61, .agg #[.bool k0.s, .slice k0.A k0.n k0.c]), (62, .pointer (some ⟨g232, 0, none⟩)), (63, .agg #[.bool k2.s, .slice k2.A k2.n k2.c]), (64, .agg #[.bool sa, .slice Aa na ca]), (65, .int .i64 (scmp x 0)), (66, .bool true), (67, .agg #[.bool k2.s, .slice k2.A k2.n k2.c]), (68, .agg #[.bool s267, .slice A267 n267 c267]), (70, .agg #[.bool sb, .slice Ab nb cb]), (71, .agg #[.bool k0.s, .slice k0.A k0.n k0.c]), (72, .tuple #[.agg #[.bool s278, .slice A278 n278 c278], .int .i64 0]), (69, .tuple #[.agg #[.bool s278, .slice A278 n278 c278], .int .i64 0]), (73, .agg #[.bool s278, .slice A278 n278 c278]), (74, .int .i64 0), (13, .pointer (some ⟨g279, 0, none⟩)), (14, .int .i64 0), (76, .agg #[.bool s267, .slice A267 n267 c267]), (77, .agg #[.bool s278, .slice A278 n278 c278]), (78, .tuple #[.agg #[.bool s295, .slice A295 n295 c295], .int .i64 0]), (75, .tuple #[.agg #[.bool s295, .slice A295 n295 c295], .int .i64 0]), (79, .agg #[.bool s295, .slice A295 n295 c295]), (80, .int .i64 0), (82, .agg #[.bool k0.s, .slice k0.A k0.n k0.c]), (83, .agg #[.bool sa, .slice Aa na ca]), (84, .agg #[.bool s295, .slice A295 n295 c295]), (85, .agg #[.bool s422, .slice A422 n422 c422]), (86, .agg #[.bool s428, .slice A428 n428 c428]), (87, .agg #[.bool sb, .slice Ab nb cb]), (88, .tuple #[.agg #[.bool s440, .slice A440 n440 c440], .int .i64 0]), (81, .tuple #[.agg #[.bool s447, .slice A447 n447 c447], .int .i64 0]), (89, .agg #[.bool s453, .slice A453 n453 c453]), (90, .int .i64 0)]) rfl rfl rfl rfl rfl (rd_store rfl rfl hr477) ?_
              refine dobs_sto ((93, .agg #[.bool s453, .slice A453 n453 c453]) :: [(2, .pointer (some ⟨g1, 0, none⟩)), (3, .pointer (some ⟨g6, 0, none⟩)), (4, .pointer (some ⟨g12, 0, none⟩)), (5, .pointer (some ⟨g18, 0, none⟩)), (6, .pointer (some ⟨g24, 0, none⟩)), (7, .pointer (some ⟨g215, 0, none⟩)), (8, .pointer (some ⟨g232, 0, none⟩)), (32, .pointer (some ⟨g215, 2, none⟩)), (33, .agg #[.bool k1.s, .slice k1.A k1.n k1.c]), (34, .int .i64 (scmp r1 0)), (35, .bool false), (60, .pointer (some ⟨g215, 0, none⟩)), (61, .agg #[.bool k0.s, .slice k0.A k0.n k0.c]), (62, .pointer (some ⟨g232, 0, none⟩)), (63, .agg #[.bool k2.s, .slice k2.A k2.n k2.c]), (64, .agg #[.bool sa, .slice Aa na ca]), (65, .int .i64 (scmp x 0)), (66, .bool true), (67, .agg #[.bool k2.s, .slice k2.A k2.n k2.c]), (68, .agg #[.bool s267, .slice A267 n267 c267]), (70, .agg #[.bool sb, .slice Ab nb cb]), (71, .agg #[.bool k0.s, .slice k0.A k0.n k0.c]), (72, .tuple #[.agg #[.bool s278, .slice A278 n278 c278], .int .i64 0]), (69, .tuple #[.agg #[.bool s278, .slice A278 n278 c278], .int .i64 0]), (73, .agg #[.bool s278, .slice A278 n278 c278]), (74, .int .i64 0), (13, .pointer (some ⟨g279, 0, none⟩)), (14, .int .i64 0), (76, .agg #[.bool s267, .slice A267 n267 c267]), (77, .agg #[.bool s278, .slice A278 n278 c278]), (78, .tuple #[.agg #[.bool s295, .slice A295 n295 c295], .int .i64 0]), (75, .tuple #[.agg #[.bool s295, .slice A295 n295 c295], .int .i64 0]), (79, .agg #[.bool s295, .slice A295 n295 c295]), (80, .int .i64 0), (82, .agg #[.bool k0.s, .slice k0.A k0.n k0.c]), (83, .agg #[.bool sa, .slice Aa na ca]), (84, .agg #[.bool s295, .slice A295 n295 c295]), (85, .agg #[.bool s422, .slice A422 n422 c422]), (86, .agg #[.bool s428, .slice A428 n428 c428]), (87, .agg #[.bool sb, .slice Ab nb cb]), (88, .tuple #[.agg #[.bool s440, .slice A440 n440 c440], .int .i64 0]), (81, .tuple #[.agg #[.bool s447, .slice A447 n447 c447], .int .i64 0]), (89, .agg #[.bool s453, .slice A453 n453 c453]), (90, .int .i64 0)]) rfl rfl rfl rfl rfl (rd_store rfl rfl hr483) ?_
              exact dobs_nil
            clear hv
            refine eo_keep [(2, .pointer (some ⟨g1, 0, none⟩)), (3, .pointer (some ⟨g6, 0, none⟩)), (4, .pointer (some ⟨g12, 0, none⟩)), (5, .pointer (some ⟨g18, 0, none⟩)), (6, .pointer (some ⟨g24, 0, none⟩)), (7, .pointer (some ⟨g215, 0, none⟩)), (8, .pointer (some ⟨g232, 0, none⟩)), (32, .pointer (some ⟨g215, 2, none⟩)), (33, .agg #[.bool k1.s, .slice k1.A k1.n k1.c]), (34, .int .i64 (scmp r1 0)), (35, .bool false), (60, .pointer (some ⟨g215, 0, none⟩)), (61, .agg #[.bool k0.s, .slice k0.A k0.n k0.c]), (62, .pointer (some ⟨g232, 0, none⟩)), (63, .agg #[.bool k2.s, .slice k2.A k2.n k2.c]), (64, .agg #[.bool sa, .slice Aa na ca]), (65, .int .i64 (scmp x 0)), (66, .bool true), (67, .agg #[.bool k2.s, .slice k2.A k2.n k2.c]), (68, .agg #[.bool s267, .slice A267 n267 c267]), (70, .agg #[.bool sb, .slice Ab nb cb]), (71, .agg #[.bool k0.s, .slice k0.A k0.n k0.c]), (72, .tuple #[.agg #[.bool s278, .slice A278 n278 c278], .int .i64 0]), (69, .tuple #[.agg #[.bool s278, .slice A278 n278 c278], .int .i64 0]), (73, .agg #[.bool s278, .slice A278 n278 c278]), (74, .int .i64 0), (13, .pointer (some ⟨g279, 0, none⟩)), (14, .int .i64 0), (76, .agg #[.bool s267, .slice A267 n267 c267]), (77, .agg #[.bool s278, .slice A278 n278 c278]), (78, .tuple #[.agg #[.bool s295, .slice A295 n295 c295], .int .i64 0]), (75, .tuple #[.agg #[.bool s295, .slice A295 n295 c295], .int .i64 0]), (79, .agg #[.bool s295, .slice A295 n295 c295]), (80, .int .i64 0), (82, .agg #[.bool k0.s, .slice k0.A k0.n k0.c]), (83, .agg #[.bool sa, .slice Aa na ca]), (84, .agg #[.bool s295, .slice A295 n295 c295]), (85, .agg #[.bool s422, .slice A422 n422 c422]), (86, .agg #[.bool s428, .slice A428 n428 c428]), (87, .agg #[.bool sb, .slice Ab nb cb]), (88, .tuple #[.agg #[.bool s440, .slice A440 n440 c440], .int .i64 0]), (81, .tuple #[.agg #[.bool s447, .slice A447 n447 c447], .int .i64 0]), (89, .agg #[.bool s453, .slice A453 n453 c453]), (90, .int .i64 0), (91, .agg #[.bool k0.s, .slice k0.A k0.n k0.c]), (92, .agg #[.bool s295, .slice A295 n295 c295]), (93, .agg #[.bool s453, .slice A453 n453 c453])] ⟨rfl, rfl, rfl, rfl, rfl, rfl, rfl, rfl, rfl, rfl, rfl, rfl, rfl, rfl, rfl, rfl, rfl, rfl, rfl, rfl, rfl, rfl, rfl, rfl, rfl, rfl, rfl, rfl, rfl, rfl, rfl, rfl, rfl, rfl, rfl, rfl, rfl, rfl, rfl, rfl, rfl, rfl, rfl, rfl, rfl, rfl, rfl, trivial⟩ ?_
            refine eo_then ?_
            refine cw_ret ?_
            refine eo_ret [.agg #[.bool k0.s, .slice k0.A k0.n k0.c], .agg #[.bool s295, .slice A295 n295 c295], .agg #[.bool s453, .slice A453 n453 c453]] rfl ⟨⟨_, rfl, load_agg aggInt ((hb468.updN u475 (by omega)).updN u481 (by omega)) [.bool k0.s, .slice k0.A k0.n k0.c] rfl (Nat.le_of_ble_eq_true rfl) rfl⟩, ⟨_, rfl, load_agg aggInt (hb474.updN u481 (by omega)) [.bool s295, .slice A295 n295 c295] rfl (Nat.le_of_ble_eq_true rfl) rfl⟩, ⟨_, rfl, load_agg aggInt hb480 [.bool s453, .slice A453 n453 c453] rfl (Nat.le_of_ble_eq_true rfl) rfl⟩, trivial⟩ ?_
            exact ⟨_, _, HD.2.2.2.2.2, _, rfl, ⟨_, _, _, rfl, ⟨_, _, _, _, rfl, ((((((((((((((((zk0.ext (e244.trans e247)).updT hb249 u251).updT hb255 u257).ext (e261.trans e265)).updT hb269 u271).ext (e275.trans e281)).updT hb286 u288).ext e292).updT hb297 u299).ext e401).updT hb460 u462).ext e465).updT hb467 u469).updT hb473 u475).updT hb479 u481)).cast HD.1⟩, ⟨_, _, _, _, rfl, (((((((z295.updT hb297 u299).ext e401).updT hb460 u462).ext e465).updT hb467 u469).updT hb473 u475).updT hb479 u481)⟩, ⟨_, _, _, _, rfl, (((((z453.updT hb460 u462).ext e465).updT hb467 u469).updT hb473 u475).updT hb479 u481)⟩⟩, hw19⟩
        ·
          have HD := hI0.done h0 (z := m0) (by rw [if_neg hx0])
          refine cw_region ?_
          refine wl_load rfl rfl (load_agg aggInt (((b_2.ext (e244.trans e247)).updN u251 (by omega)).updN u257 (by omega)) [.bool sa, .slice Aa na ca] rfl (Nat.le_of_ble_eq_true rfl) rfl) (by decide) ?_
          refine wl_call rfl rfl (vs := [.agg #[.bool sa, .slice Aa na ca]]) (by kernel_rfl) (by decide) (g_zint_Sign (hx.ext hw5) (Nat.le_trans la (by decide))) ?_
          rintro _ v484 ⟨xr486, rfl, r486, e485⟩
          refine ret_intro ?_
          have hw6 : Ext w v484 := hw5.trans e485
          obtain rfl := r486
          refine wl_cmp rfl rfl rfl false (scmp_lt_f (by omega)) (by decide) ?_
          refine wl_nil ?_
          refine eo_then ?_
          refine cw_false rfl ?_
          refine cw_skip ?_
          refine eo_then ?_
          refine cw_seq ?_
          refine cw_region ?_
          refine wl_load rfl rfl (load_agg aggInt ((((b_3.ext (e244.trans e247)).updN u251 (by omega)).updN u257 (by omega)).ext e485) [.bool sb, .slice Ab nb cb] rfl (Nat.le_of_ble_eq_true rfl) rfl) (by decide) ?_
          refine wl_load rfl rfl (load_agg aggInt ((hb250.updN u257 (by omega)).ext e485) [.bool k0.s, .slice k0.A k0.n k0.c] rfl (Nat.le_of_ble_eq_true rfl) rfl) (by decide) ?_
          have L487 : ln (y.tdiv r0) ≤ 17179869184 := Nat.le_trans (ln_tdiv _ _) Ly
          refine wl_call rfl rfl (vs := [.agg #[.bool sb, .slice Ab nb cb], .agg #[.bool k0.s, .slice k0.A k0.n k0.c]]) (by kernel_rfl) (by decide) (g_zint_Exact_ok hw6.size (hy.ext hw6) (Nat.le_trans lb (by decide)) ((((zk0.ext (e244.trans e247)).updT hb249 u251).updT hb255 u257).ext e485).zi (zk0.le (Nat.le_trans Lr0 (by decide))) HD.2.1 HD.2.2.2.1) ?_
          rintro _ v488 ⟨xr490, rfl, r490, e489⟩
          refine ret_intro ?_
          have hw7 : Ext w v488 := hw6.trans e489
          obtain ⟨a491_0, a491_1, rfl, r491_0, r491_1⟩ := r490
          obtain ⟨s492, A492, n492, c492, rfl, z492⟩ := r491_0
          obtain rfl := r491_1
          refine wl_move rfl rfl (by decide) ?_
          refine wl_pure rfl rfl (v := .agg #[.bool s492, .slice A492 n492 c492]) (by decide) (by kernel_rfl) ?_
          refine wl_pure rfl rfl (v := .int .i64 0) (by decide) (by kernel_rfl) ?_
          refine wl_alloc rfl (z := .agg #[.bool false, .slice none 0 0]) (vs := [.bool false, .slice none 0 0]) (fun _ => by kernel_rfl) rfl (by decide) fun g493 v494 nb => ?_
          have hb496 := nb.bk
          have ge497 : w.heap.size ≤ g493 := by rw [← nb.at_]; exact hw7.size
          have q498 : g232 < g493 := by rw [← nb.at_]; exact ((((b_8.ext (e244.trans e247)).updN u251 (by omega)).updN u257 (by omega)).ext (e485.trans e489)).lt
          have e495 := nb.ext
          clear nb
          have hw8 : Ext w v494 := hw7.trans e495
          have hb500 := hb496
          refine wl_stored rfl rfl rfl aggInt rfl hb500 (Nat.le_of_ble_eq_true rfl) rfl [.bool s492, .slice A492 n492 c492] rfl fun v499 hb501 u502 hs503 => ?_
          have hw9 : Ext w v499 := u502.ext hw8 ge497
          refine wl_assign rfl rfl (by decide) ?_
          refine wl_nil ?_
          refine eo_then ?_
          refine cw_seq ?_
          refine cw_region ?_
          refine wl_load rfl rfl (load_agg aggInt ((hb256.ext (e485.trans (e489.trans e495))).updN u502 (by omega)) [.bool k2.s, .slice k2.A k2.n k2.c] rfl (Nat.le_of_ble_eq_true rfl) rfl) (by decide) ?_
          refine wl_load rfl rfl (load_agg aggInt hb501 [.bool s492, .slice A492 n492 c492] rfl (Nat.le_of_ble_eq_true rfl) rfl) (by decide) ?_
          have L504 : ln (m0 % (y.tdiv r0)) ≤ 17179869184 := Nat.le_trans (ln_emod HD.2.2.1) L487
          refine wl_call rfl rfl (vs := [.agg #[.bool k2.s, .slice k2.A k2.n k2.c], .agg #[.bool s492, .slice A492 n492 c492]]) (by kernel_rfl) (by decide) (g_zint_Mod hw9.size (((((zk2.ext (e244.trans e247)).updT hb249 u251).updT hb255 u257).ext (e485.trans (e489.trans e495))).updT hb500 u502).zi (zk2.le (Nat.le_trans Lm0 (by decide))) ((z492.ext e495).updT hb500 u502).zi (z492.le (Nat.le_trans L487 (by decide))) HD.2.2.1) ?_
          rintro _ v505 ⟨xr507, rfl, r507, e506⟩
          refine ret_intro ?_
          have hw10 : Ext w v505 := hw9.trans e506
          obtain ⟨a508_0, a508_1, rfl, r508_0, r508_1⟩ := r507
          obtain ⟨s509, A509, n509, c509, rfl, z509⟩ := r508_0
          obtain rfl := r508_1
          refine wl_move rfl rfl (by decide) ?_
          refine wl_pure rfl rfl (v := .agg #[.bool s509, .slice A509 n509 c509]) (by decide) (by kernel_rfl) ?_
          refine wl_pure rfl rfl (v := .int .i64 0) (by decide) (by kernel_rfl) ?_
          have hb511 := (((hb256.ext (e485.trans (e489.trans e495))).updN u502 (by omega)).ext e506)
          refine wl_stored rfl rfl rfl aggInt rfl hb511 (Nat.le_of_ble_eq_true rfl) rfl [.bool s509, .slice A509 n509 c509] rfl fun v510 hb512 u513 hs514 => ?_
          have hw11 : Ext w v510 := u513.ext hw10 ge22
          refine wl_nil ?_
          refine eo_then ?_
          refine cw_seq ?_
          have L515 : ln (x * (m0 % (y.tdiv r0))) ≤ 34359738368 := Nat.le_trans (ln_mul Lx L504) (by decide)
          have L517 : ln (r0 - (x * (m0 % (y.tdiv r0)))) ≤ 34359738369 := Nat.le_trans (ln_sub Lr0 L515) (by decide)
          have L519 : ln ((r0 - (x * (m0 % (y.tdiv r0)))).tdiv y) ≤ 34359738369 := Nat.le_trans (ln_tdiv _ _) L517
          refine cw_draw mix 10 [8, 9] [Is (.agg #[.bool k0.s, .slice k0.A k0.n k0.c]), Is (.agg #[.bool sa, .slice Aa na ca]), Is (.agg #[.bool s509, .slice A509 n509 c509]), ZR w.heap.size (x * (m0 % (y.tdiv r0))), ZR w.heap.size (r0 - (x * (m0 % (y.tdiv r0)))), Is (.agg #[.bool sb, .slice Ab nb cb]), T2 (ZR w.heap.size ((r0 - (x * (m0 % (y.tdiv r0)))).tdiv y)) (Is (.int .i64 0)), T2 (ZR w.heap.size ((r0 - (x * (m0 % (y.tdiv r0)))).tdiv y)) (Is (.int .i64 0)), ZR w.heap.size ((r0 - (x * (m0 % (y.tdiv r0)))).tdiv y), Is (.int .i64 0)] [[], [], [], [1, 2], [0, 3], [], [4, 5], [6], [7], [7]] [[], [], [], [1, 2], [0, 1, 2, 3], [], [0, 1, 2, 3, 4, 5], [0, 1, 2, 3, 4, 5, 6], [0, 1, 2, 3, 4, 5, 6, 7], [0, 1, 2, 3, 4, 5, 6, 7], [0, 1, 2, 3, 4, 5, 6, 7, 8]] rfl
            (obs_cons rfl rfl (hob rfl rfl ?_) (obs_cons rfl rfl (hob rfl rfl ?_) (obs_cons rfl rfl (hob rfl rfl ?_) (obs_cons rfl rfl (hob rfl rfl ?_) (obs_cons rfl rfl (hob rfl rfl ?_) (obs_cons rfl rfl (hob rfl rfl ?_) (obs_cons rfl rfl (hob rfl rfl ?_) (obs_cons rfl rfl (hob rfl rfl ?_) (obs_float rfl rfl (fob rfl ?_) (obs_float rfl rfl (fob rfl ?_) obs_nil)))))))))) ?_
          · -- 0
            intro v525 e526
            have hw12 : Ext w v525 := hw11.trans e526
            refine deps_nil ?_
            refine wl_load rfl rfl (load_agg aggInt ((((((hb250.updN u257 (by omega)).ext (e485.trans (e489.trans e495))).updN u502 (by omega)).ext e506).updN u513 (by omega)).ext e526) [.bool k0.s, .slice k0.A k0.n k0.c] rfl (Nat.le_of_ble_eq_true rfl) rfl) (by decide) ?_
            exact pi_done rfl (Ext.refl _) rfl
          · -- 1
            intro v527 e528
            have hw12 : Ext w v527 := hw11.trans e528
            refine deps_nil ?_
            refine wl_load rfl rfl (load_agg aggInt ((((((((b_2.ext (e244.trans e247)).updN u251 (by omega)).updN u257 (by omega)).ext (e485.trans (e489.trans e495))).updN u502 (by omega)).ext e506).updN u513 (by omega)).ext e528) [.bool sa, .slice Aa na ca] rfl (Nat.le_of_ble_eq_true rfl) rfl) (by decide) ?_
            exact pi_done rfl (Ext.refl _) rfl
          · -- 2
            intro v529 e530
            have hw12 : Ext w v529 := hw11.trans e530
            refine deps_nil ?_
            refine wl_load rfl rfl (load_agg aggInt (hb512.ext e530) [.bool s509, .slice A509 n509 c509] rfl (Nat.le_of_ble_eq_true rfl) rfl) (by decide) ?_
            exact pi_done rfl (Ext.refl _) rfl
          · -- 3
            intro v531 e532
            have hw12 : Ext w v531 := hw11.trans e532
            refine deps_cons rfl rfl fun x533 y534 h535 e536 f537 => ?_
            obtain rfl := h535
            refine deps_cons rfl rfl fun x538 y539 h540 e541 f542 => ?_
            obtain rfl := h540
            refine deps_nil ?_
            have L543 : ln (x * (m0 % (y.tdiv r0))) ≤ 34359738368 := Nat.le_trans (ln_mul Lx L504) (by decide)
            refine wl_call rfl rfl (vs := [.agg #[.bool sa, .slice Aa na ca], .agg #[.bool s509, .slice A509 n509 c509]]) (by kernel_rfl) (by decide) (g_zint_Mul hw12.size (hx.ext hw12) (Nat.le_trans la (by decide)) ((z509.updT hb511 u513).ext e532).zi (z509.le (Nat.le_trans L504 (by decide)))) ?_
            rintro _ v544 ⟨xr546, rfl, r546, e545⟩
            refine ret_intro ?_
            have hw13 : Ext w v544 := hw12.trans e545
            obtain ⟨s547, A547, n547, c547, rfl, z547⟩ := r546
            exact pi_done rfl e545 ⟨_, _, _, _, rfl, z547⟩
          · -- 4
            intro v548 e549
            have hw12 : Ext w v548 := hw11.trans e549
            refine deps_cons rfl rfl fun x550 y551 h552 e553 f554 => ?_
            obtain rfl := h552
            refine deps_cons rfl rfl fun x555 y556 h557 e558 f559 => ?_
            obtain ⟨s560, A560, n560, c560, rfl, z560⟩ := h557
            have z560 := z560.ext f559
            refine deps_nil ?_
            have L561 : ln (r0 - (x * (m0 % (y.tdiv r0)))) ≤ 34359738369 := Nat.le_trans (ln_sub Lr0 L515) (by decide)
            refine wl_call rfl rfl (vs := [.agg #[.bool k0.s, .slice k0.A k0.n k0.c], .agg #[.bool s560, .slice A560 n560 c560]]) (by kernel_rfl) (by decide) (g_zint_Sub hw12.size ((((((((zk0.ext (e244.trans e247)).updT hb249 u251).updT hb255 u257).ext (e485.trans (e489.trans e495))).updT hb500 u502).ext e506).updT hb511 u513).ext e549).zi (zk0.le (Nat.le_trans Lr0 (by decide))) z560.zi (z560.le (Nat.le_trans L515 (by decide)))) ?_
            rintro _ v562 ⟨xr564, rfl, r564, e563⟩
            refine ret_intro ?_
            have hw13 : Ext w v562 := hw12.trans e563
            obtain ⟨s565, A565, n565, c565, rfl, z565⟩ := r564
            exact pi_done rfl e563 ⟨_, _, _, _, rfl, z565⟩
          · -- 5
            intro v566 e567
            have hw12 : Ext w v566 := hw11.trans e567
            refine deps_nil ?_
            refine wl_load rfl rfl (load_agg aggInt ((((((((b_3.ext (e244.trans e247)).updN u251 (by omega)).updN u257 (by omega)).ext (e485.trans (e489.trans e495))).updN u502 (by omega)).ext e506).updN u513 (by omega)).ext e567) [.bool sb, .slice Ab nb cb] rfl (Nat.le_of_ble_eq_true rfl) rfl) (by decide) ?_
            exact pi_done rfl (Ext.refl _) rfl
          · -- 6
            intro v568 e569
            have hw12 : Ext w v568 := hw11.trans e569
            refine deps_cons rfl rfl fun x570 y571 h572 e573 f574 => ?_
            obtain ⟨s575, A575, n575, c575, rfl, z575⟩ := h572
            have z575 := z575.ext f574
            refine deps_cons rfl rfl fun x576 y577 h578 e579 f580 => ?_
            obtain rfl := h578
            refine deps_nil ?_
            have L581 : ln ((r0 - (x * (m0 % (y.tdiv r0)))).tdiv y) ≤ 34359738369 := Nat.le_trans (ln_tdiv _ _) L517
            refine wl_call rfl rfl (vs := [.agg #[.bool s575, .slice A575 n575 c575], .agg #[.bool sb, .slice Ab nb cb]]) (by kernel_rfl) (by decide) (g_zint_Exact_ok hw12.size z575.zi (z575.le (Nat.le_trans L517 (by decide))) (hy.ext hw12) (Nat.le_trans lb (by decide)) h0 HD.2.2.2.2.1) ?_
            rintro _ v582 ⟨xr584, rfl, r584, e583⟩
            refine ret_intro ?_
            have hw13 : Ext w v582 := hw12.trans e583
            obtain ⟨a585_0, a585_1, rfl, r585_0, r585_1⟩ := r584
            obtain ⟨s586, A586, n586, c586, rfl, z586⟩ := r585_0
            obtain rfl := r585_1
            exact pi_done rfl e583 ⟨_, _, rfl, ⟨_, _, _, _, rfl, z586⟩, rfl⟩
          · -- 7
            intro v587 e588
            have hw12 : Ext w v587 := hw11.trans e588
            refine deps_cons rfl rfl fun x589 y590 h591 e592 f593 => ?_
            obtain ⟨a594_0, a594_1, rfl, r594_0, r594_1⟩ := h591
            obtain ⟨s595, A595, n595, c595, rfl, z595⟩ := r594_0
            obtain rfl := r594_1
            have z595 := z595.ext f593
            refine deps_nil ?_
            refine wl_move rfl rfl (by decide) ?_
            exact pi_done rfl (Ext.refl _) ⟨_, _, rfl, ⟨_, _, _, _, rfl, z595⟩, rfl⟩
          · -- 8
            intro v596 e597
            have hw12 : Ext w v596 := hw11.trans e597
            refine deps_cons rfl rfl fun x598 y599 h600 e601 f602 => ?_
            obtain ⟨a603_0, a603_1, rfl, r603_0, r603_1⟩ := h600
            obtain ⟨s604, A604, n604, c604, rfl, z604⟩ := r603_0
            obtain rfl := r603_1
            have z604 := z604.ext f602
            refine deps_nil ?_
            exact ⟨.agg #[.bool s604, .slice A604 n604 c604], rfl, rfl, fun _ => by kernel_rfl, ⟨_, _, _, _, rfl, z604⟩⟩
          · -- 9
            intro v605 e606
            have hw12 : Ext w v605 := hw11.trans e606
            refine deps_cons rfl rfl fun x607 y608 h609 e610 f611 => ?_
            obtain ⟨a612_0, a612_1, rfl, r612_0, r612_1⟩ := h609
            obtain ⟨s613, A613, n613, c613, rfl, z613⟩ := r612_0
            obtain rfl := r612_1
            have z613 := z613.ext f611
            refine deps_nil ?_
            exact ⟨.int .i64 0, rfl, rfl, fun _ => by kernel_rfl, rfl⟩
          · -- all
            intro v614 e615
            have hw12 : Ext w v614 := hw11.trans e615
            refine deps_cons rfl rfl fun x616 y617 h618 e619 f620 => ?_
            obtain rfl := h618
            refine deps_cons rfl rfl fun x621 y622 h623 e624 f625 => ?_
            obtain rfl := h623
            refine deps_cons rfl rfl fun x626 y627 h628 e629 f630 => ?_
            obtain rfl := h628
            refine deps_cons rfl rfl fun x631 y632 h633 e634 f635 => ?_
            obtain ⟨s636, A636, n636, c636, rfl, z636⟩ := h633
            have z636 := z636.ext f635
            refine deps_cons rfl rfl fun x637 y638 h639 e640 f641 => ?_
            obtain ⟨s642, A642, n642, c642, rfl, z642⟩ := h639
            have z642 := z642.ext f641
            refine deps_cons rfl rfl fun x643 y644 h645 e646 f647 => ?_
            obtain rfl := h645
            refine deps_cons rfl rfl fun x648 y649 h650 e651 f652 => ?_
            obtain ⟨a653_0, a653_1, rfl, r653_0, r653_1⟩ := h650
            obtain ⟨s654, A654, n654, c654, rfl, z654⟩ := r653_0
            obtain rfl := r653_1
            have z654 := z654.ext f652
            refine deps_cons rfl rfl fun x655 y656 h657 e658 f659 => ?_
            obtain ⟨a660_0, a660_1, rfl, r660_0, r660_1⟩ := h657
            obtain ⟨s661, A661, n661, c661, rfl, z661⟩ := r660_0
            obtain rfl := r660_1
            have z661 := z661.ext f659
            refine deps_cons rfl rfl fun x662 y663 h664 e665 f666 => ?_
            obtain ⟨s667, A667, n667, c667, rfl, z667⟩ := h664
            have z667 := z667.ext f666
            refine deps_cons rfl rfl fun x668 y669 h670 e671 f672 => ?_
            obtain rfl := h670
            refine deps_nil ?_
            have hb674 := ((((((((b_6.ext (e244.trans e247)).updN u251 (by omega)).updN u257 (by omega)).ext (e485.trans (e489.trans e495))).updN u502 (by omega)).ext e506).updN u513 (by omega)).ext e615)
            refine wl_stored rfl rfl rfl aggInt rfl hb674 (Nat.le_of_ble_eq_true rfl) rfl [.bool s667, .slice A667 n667 c667] rfl fun v673 hb675 u676 hs677 => ?_
            have hw13 : Ext w v673 := u676.ext hw12 ge28
            refine wl_nil ?_
            refine eo_np ?_
            refine eo_then ?_
            refine cw_seq ?_
            refine cw_keep [(2, .pointer (some ⟨g1, 0, none⟩)), (3, .pointer (some ⟨g6, 0, none⟩)), (4, .pointer (some ⟨g12, 0, none⟩)), (5, .pointer (some ⟨g18, 0, none⟩)), (6, .pointer (some ⟨g24, 0, none⟩)), (7, .pointer (some ⟨g215, 0, none⟩)), (8, .pointer (some ⟨g232, 0, none⟩)), (32, .pointer (some ⟨g215, 2, none⟩)), (33, .agg #[.bool k1.s, .slice k1.A k1.n k1.c]), (34, .int .i64 (scmp r1 0)), (35, .bool false), (60, .pointer (some ⟨g215, 0, none⟩)), (61, .agg #[.bool k0.s, .slice k0.A k0.n k0.c]), (62, .pointer (some ⟨g232, 0, none⟩)), (63, .agg #[.bool k2.s, .slice k2.A k2.n k2.c]), (64, .agg #[.bool sa, .slice Aa na ca]), (65, .int .i64 (scmp x 0)), (66, .bool false), (70, .agg #[.bool sb, .slice Ab nb cb]), (71, .agg #[.bool k0.s, .slice k0.A k0.n k0.c]), (72, .tuple #[.agg #[.bool s492, .slice A492 n492 c492], .int .i64 0]), (69, .tuple #[.agg #[.bool s492, .slice A492 n492 c492], .int .i64 0]), (73, .agg #[.bool s492, .slice A492 n492 c492]), (74, .int .i64 0), (13, .pointer (some ⟨g493, 0, none⟩)), (14, .int .i64 0), (76, .agg #[.bool k2.s, .slice k2.A k2.n k2.c]), (77, .agg #[.bool s492, .slice A492 n492 c492]), (78, .tuple #[.agg #[.bool s509, .slice A509 n509 c509], .int .i64 0]), (75, .tuple #[.agg #[.bool s509, .slice A509 n509 c509], .int .i64 0]), (79, .agg #[.bool s509, .slice A509 n509 c509]), (80, .int .i64 0), (82, .agg #[.bool k0.s, .slice k0.A k0.n k0.c]), (83, .agg #[.bool sa, .slice Aa na ca]), (84, .agg #[.bool s509, .slice A509 n509 c509]), (85, .agg #[.bool s636, .slice A636 n636 c636]), (86, .agg #[.bool s642, .slice A642 n642 c642]), (87, .agg #[.bool sb, .slice Ab nb cb]), (88, .tuple #[.agg #[.bool s654, .slice A654 n654 c654], .int .i64 0]), (81, .tuple #[.agg #[.bool s661, .slice A661 n661 c661], .int .i64 0]), (89, .agg #[.bool s667, .slice A667 n667 c667]), (90, .int .i64 0)] ⟨rfl, rfl, rfl, rfl, rfl, rfl, rfl, rfl, rfl, rfl, rfl, rfl, rfl, rfl, rfl, rfl, rfl, rfl, rfl, rfl, rfl, rfl, rfl, rfl, rfl, rfl, rfl, rfl, rfl, rfl, rfl, rfl, rfl, rfl, rfl, rfl, rfl, rfl, rfl, rfl, rfl, rfl, trivial⟩ ?_
            obtain ⟨v678, hv, e679⟩ : ∃ v, v = v673.drew ∧ Ext v673 v := ⟨_, rfl, (Ext.refl _).drew⟩
            have hw14 : Ext w v678 := hw13.trans e679
            have hb681 := ((((((((hb250.updN u257 (by omega)).ext (e485.trans (e489.trans e495))).updN u502 (by omega)).ext e506).updN u513 (by omega)).ext e615).updN u676 (by omega)).ext e679)
            obtain ⟨v680, hr685, hb682, u683, hs684⟩ := run_stored (P := Try.prog) (us := [.bool k0.s, .slice k0.A k0.n k0.c]) (off := 0) aggInt rfl hb681 (Nat.le_of_ble_eq_true rfl) rfl [.bool k0.s, .slice k0.A k0.n k0.c] rfl
            have hw15 : Ext w v680 := u683.ext hw14 ge16
            have hb687 := ((((hb512.ext e615).updN u676 (by omega)).ext e679).updN u683 (by omega))
            obtain ⟨v686, hr691, hb688, u689, hs690⟩ := run_stored (P := Try.prog) (us := [.bool s509, .slice A509 n509 c509]) (off := 0) aggInt rfl hb687 (Nat.le_of_ble_eq_true rfl) rfl [.bool s509, .slice A509 n509 c509] rfl
            have hw16 : Ext w v686 := u689.ext hw15 ge22
            have hb693 := (((hb675.ext e679).updN u683 (by omega)).updN u689 (by omega))
            obtain ⟨v692, hr697, hb694, u695, hs696⟩ := run_stored (P := Try.prog) (us := [.bool s667, .slice A667 n667 c667]) (off := 0) aggInt rfl hb693 (Nat.le_of_ble_eq_true rfl) rfl [.bool s667, .slice A667 n667 c667] rfl
            have hw17 : Ext w v692 := u695.ext hw16 ge28
            refine cw_det mix (w := v678) [.agg #[.bool k0.s, .slice k0.A k0.n k0.c], .agg #[.bool s509, .slice A509 n509 c509], .agg #[.bool s667, .slice A667 n667 c667], undef, undef, undef] [v678, v680, v686, v692] [3, 4, 5] [[], [], [], [0], [1], [2]] [[], [], [], [0], [0, 1, 3], [0, 1, 2, 3, 4]] [(0, 0), (1, 0), (1, 1), (2, 0), (2, 1), (2, 2), (3, 0), (4, 1), (5, 2)] rfl hv ?_ ?_
            ·
              refine dobs_val ([(2, .pointer (some ⟨g1, 0, none⟩)), (3, .pointer (some ⟨g6, 0, none⟩)), (4, .pointer (some ⟨g12, 0, none⟩)), (5, .pointer (some ⟨g18, 0, none⟩)), (6, .pointer (some ⟨g24, 0, none⟩)), (7, .pointer (some ⟨g215, 0, none⟩)), (8, .pointer (some ⟨g232, 0, none⟩)), (32, .pointer (some ⟨g215, 2, none⟩)), (33, .agg #[.bool k1.s, .slice k1.A k1.n k1.c]), (34, .int .i64 (scmp r1 0)), (35, .bool false), (60, .pointer (some ⟨g215, 0, none⟩)), (61, .agg #[.bool k0.s, .slice k0.A k0.n k0.c]), (62, .pointer (some ⟨g232, 0, none⟩)), (63, .agg #[.bool k2.s, .slice k2.A k2.n k2.c]), (64, .agg #[.bool sa, .slice Aa na ca]), (65, .int .i64 (scmp x 0)), (66, .bool false), (70, .agg #[.bool sb, .slice Ab nb cb]), (71, .agg #[.bool k0.s, .slice k0.A k0.n k0.c]), (72, .tuple #[.agg #[.bool s492, .slice A492 n492 c492], .int .i64 0]), (69, .tuple #[.agg #[.bool s492, .slice A492 n492 c492], .int .i64 0]), (73, .agg #[.bool s492, .slice A492 n492 c492]), (74, .int .i64 0), (13, .pointer (some ⟨g493, 0, none⟩)), (14, .int .i64 0), (76, .agg #[.bool k2.s, .slice k2.A k2.n k2.c]), (77, .agg #[.bool s492, .slice A492 n492 c492]), (78, .tuple #[.agg #[.bool s509, .slice A509 n509 c509], .int .i64 0]), (75, .tuple #[.agg #[.bool s509, .slice A509 n509 c509], .int .i64 0]), (79, .agg #[.bool s509, .slice A509 n509 c509]), (80, .int .i64 0), (82, .agg #[.bool k0.s, .slice k0.A k0.n k0.c]), (83, .agg #[.bool sa, .slice Aa na ca]), (84, .agg #[.bool s509, .slice A509 n509 c509]), (85, .agg #[.bool s636, .slice A636 n636 c636]), (86, .agg #[.bool s642, .slice A642 n642 c642]), (87, .agg #[.bool sb, .slice Ab nb cb]), (88, .tuple #[.agg #[.bool s654, .slice A654 n654 c654], .int .i64 0]), (81, .tuple #[.agg #[.bool s661, .slice A661 n661 c661], .int .i64 0]), (89, .agg #[.bool s667, .slice A667 n667 c667]), (90, .int .i64 0)]) rfl rfl rfl rfl rfl (rd_load rfl (load_agg aggInt ((((((((hb250.updN u257 (by omega)).ext (e485.trans (e489.trans e495))).updN u502 (by omega)).ext e506).updN u513 (by omega)).ext e615).updN u676 (by omega)).ext e679) [.bool k0.s, .slice k0.A k0.n k0.c] rfl (Nat.le_of_ble_eq_true rfl) rfl)) ?_
              refine dobs_val ([(2, .pointer (some ⟨g1, 0, none⟩)), (3, .pointer (some ⟨g6, 0, none⟩)), (4, .pointer (some ⟨g12, 0, none⟩)), (5, .pointer (some ⟨g18, 0, none⟩)), (6, .pointer (some ⟨g24, 0, none⟩)), (7, .pointer (some ⟨g215, 0, none⟩)), (8, .pointer (some ⟨g232, 0, none⟩)), (32, .pointer (some ⟨g215, 2, none⟩)), (33, .agg #[.bool k1.s, .slice k1.A k1.n k1.c]), (34, .int .i64 (scmp r1 0)), (35, .bool false), (60, .pointer (some ⟨g215, 0, none⟩)), (61, .agg #[.bool k0.s, .slice k0.A k0.n k0.c]), (62, .pointer (some ⟨g232, 0, none⟩)), (63, .agg #[.bool k2.s, .slice k2.A k2.n k2.c]), (64, .agg #[.bool sa, .slice Aa na ca]), (65, .int .i64 (scmp x 0)), (66, .bool false), (70, .agg #[.bool sb, .slice Ab nb cb]), (71, .agg #[.bool k0.s, .slice k0.A k0.n k0.c]), (72, .tuple #[.agg #[.bool s492, .slice A492 n492 c492], .int .i64 0]), (69, .tuple #[.agg #[.bool s492, .slice A492 n492 c492], .int .i64 0]), (73, .agg #[.bool s492, .slice A492 n492 c492]), (74, .int .i64 0), (13, .pointer (some ⟨g493, 0, none⟩)), (14, .int .i64 0), (76, .agg #[.bool k2.s, .slice k2.A k2.n k2.c]), (77, .agg #[.bool s492, .slice A492 n492 c492]), (78, .tuple #[.agg #[.bool s509, .slice A509 n509 c509], .int .i64 0]), (75, .tuple #[.agg #[.bool s509, .slice A509 n509 c509], .int .i64 0]), (79, .agg #[.bool s509, .slice A509 n509 c509]), (80, .int .i64 0), (82, .agg #[.bool k0.s, .slice k0.A k0.n k0.c]), (83, .agg #[.bool sa, .slice Aa na ca]), (84, .agg #[.bool s509, .slice A509 n509 c509]), (85, .agg #[.bool s636, .slice A636 n636 c636]), (86, .agg #[.bool s642, .slice A642 n642 c642]), (87, .agg #[.bool sb, .slice Ab nb cb]), (88, .tuple #[.agg #[.bool s654, .slice A654 n654 c654], .int .i64 0]), (81, .tuple #[.agg #[.bool s661, .slice A661 n661 c661], .int .i64 0]), (89, .agg #[.bool s667, .slice A667 n667 c667]), (90, .int .i64 0)]) rfl rfl rfl rfl rfl (rd_load rfl (load_agg aggInt (((hb512.ext e615).updN u676 (by omega)).ext e679) [.bool s509, .slice A509 n509 c509] rfl (Nat.le_of_ble_eq_true rfl) rfl)) ?_
              refine dobs_val ([(2, .pointer (some ⟨g1, 0, none⟩)), (3, .pointer (some ⟨g6, 0, none⟩)), (4, .pointer (some ⟨g12, 0, none⟩)), (5, .pointer (some ⟨g18, 0, none⟩)), (6, .pointer (some ⟨g24, 0, none⟩)), (7, .pointer (some ⟨g215, 0, none⟩)), (8, .pointer (some ⟨g232, 0, none⟩)), (32, .pointer (some ⟨g215, 2, none⟩)), (33, .agg #[.bool k1.s, .slice k1.A k1.n k1.c]), (34, .int .i64 (scmp r1 0)), (35, .bool false), (60, .pointer (some ⟨g215, 0, none⟩)), (61, .agg #[.bool k0.s, .slice k0.A k0.n k0.c]), (62, .pointer (some ⟨g232, 0, none⟩)), (63, .agg #[.bool k2.s, .slice k2.A k2.n k2.c]), (64, .agg #[.bool sa, .slice Aa na ca]), (65, .int .i64 (scmp x 0)), (66, .bool false), (70, .agg #[.bool sb, .slice Ab nb cb]), (71, .agg #[.bool k0.s, .slice k0.A k0.n k0.c]), (72, .tuple #[.agg #[.bool s492, .slice A492 n492 c492], .int .i64 0]), (69, .tuple #[.agg #[.bool s492, .slice A492 n492 c492], .int .i64 0]), (73, .agg #[.bool s492, .slice A492 n492 c492]), (74, .int .i64 0), (13, .pointer (some ⟨g493, 0, none⟩)), (14, .int .i64 0), (76, .agg #[.bool k2.s, .slice k2.A k2.n k2.c]), (77, .agg #[.bool s492, .slice A492 n492 c492]), (78, .tuple #[.agg #[.bool s509, .slice A509 n509 c509], .int .i64 0]), (75, .tuple #[.agg #[.bool s509, .slice A509 n509 c509], .int .i64 0]), (79, .agg #[.bool s509, .slice A509 n509 c509]), (80, .int .i64 0), (82, .agg #[.bool k0.s, .slice k0.A k0.n k0.c]), (83, .agg #[.bool sa, .slice Aa na ca]), (84, .agg #[.bool s509, .slice A509 n509 c509]), (85, .agg #[.bool s636, .slice A636 n636 c636]), (86, .agg #[.bool s642, .slice A642 n642 c642]), (87, .agg #[.bool sb, .slice Ab nb cb]), (88, .tuple #[.agg #[.bool s654, .slice A654 n654 c654], .int .i64 0]), (81, .tuple #[.agg #[.bool s661, .slice A661 n661 c661], .int .i64 0]), (89, .agg #[.bool s667, .slice A667 n667 c667]), (90, .int .i64 0)]) rfl rfl rfl rfl rfl (rd_load rfl (load_agg aggInt ((((hb512.ext e615).updN u676 (by omega)).ext e679).updN u683 (by omega)) [.bool s509, .slice A509 n509 c509] rfl (Nat.le_of_ble_eq_true rfl) rfl)) ?_
              refine dobs_val ([(2, .pointer (some ⟨g1, 0, none⟩)), (3, .pointer (some ⟨g6, 0, none⟩)), (4, .pointer (some ⟨g12, 0, none⟩)), (5, .pointer (some ⟨g18, 0, none⟩)), (6, .pointer (some ⟨g24, 0, none⟩)), (7, .pointer (some ⟨g215, 0, none⟩)), (8, .pointer (some ⟨g232, 0, none⟩)), (32, .pointer (some ⟨g215, 2, none⟩)), (33, .agg #[.bool k1.s, .slice k1.A k1.n k1.c]), (34, .int .i64 (scmp r1 0)), (35, .bool false), (60, .pointer (some ⟨g215, 0, none⟩)), (61, .agg #[.bool k0.s, .slice k0.A k0.n k0.c]), (62, .pointer (some ⟨g232, 0, none⟩)), (63, .agg #[.bool k2.s, .slice k2.A k2.n k2.c]), (64, .agg #[.bool sa, .slice Aa na ca]), (65, .int .i64 (scmp x 0)), (66, .bool false), (70, .agg #[.bool sb, .slice Ab nb cb]), (71, .agg #[.bool k0.s, .slice k0.A k0.n k0.c]), (72, .tuple #[.agg #[.bool s492, .slice A492 n492 c492], .int .i64 0]), (69, .tuple #[.agg #[.bool s492, .slice A492 n492 c492], .int .i64 0]), (73, .agg #[.bool s492, .slice A492 n492 c492]), (74, .int .i64 0), (13, .pointer (some ⟨g493, 0, none⟩)), (14, .int .i64 0), (76, .agg #[.bool k2.s, .slice k2.A k2.n k2.c]), (77, .agg #[.bool s492, .slice A492 n492 c492]), (78, .tuple #[.agg #[.bool s509, .slice A509 n509 c509], .int .i64 0]), (75, .tuple #[.agg #[.bool s509, .slice A509 n509 c509], .int .i64 0]), (79, .agg #[.bool s509, .slice A509 n509 c509]), (80, .int .i64 0), (82, .agg #[.bool k0.s, .slice k0.A k0.n k0.c]), (83, .agg #[.bool sa, .slice Aa na ca]), (84, .agg #[.bool s509, .slice A509 n509 c509]), (85, .agg #[.bool s636, .slice A636 n636 c636]), (86, .agg #[.bool s642, .slice A642 n642 c642]), (87, .agg #[.bool sb, .slice Ab nb cb]), (88, .tuple #[.agg #[.bool s654, .slice A654 n654 c654], .int .i64 0]), (81, .tuple #[.agg #[.bool s661, .slice A661 n661 c661], .int .i64 0]), (89, .agg #[.bool s667, .slice A667 n667 c667]), (90, .int .i64 0)]) rfl rfl rfl rfl rfl (rd_load rfl (load_agg aggInt (hb675.ext e679) [.bool s667, .slice A667 n667 c667] rfl (Nat.le_of_ble_eq_true rfl) rfl)) ?_
              refine dobs_val ([(2, .pointer (some ⟨g1, 0, none⟩)), (3, .pointer (some ⟨g6, 0, none⟩)), (4, .pointer (some ⟨g12, 0, none⟩)), (5, .pointer (some ⟨g18, 0, none⟩)), (6, .pointer (some ⟨g24, 0, none⟩)), (7, .pointer (some ⟨g215, 0, none⟩)), (8, .pointer (some ⟨g232, 0, none⟩)), (32, .pointer (some ⟨g215, 2, none⟩)), (33, .agg #[.bool k1.s, .slice k1.A k1.n k1.c]), (34, .int .i64 (scmp r1 0)), (35, .bool false), (60, .pointer (some ⟨g215, 0, none⟩)), (61, .agg #[.bool k0.s, .slice k0.A k0.n k0.c]), (62, .pointer (some ⟨g232, 0, none⟩)), (63, .agg #[.bool k2.s, .slice k2.A k2.n k2.c]), (64, .agg #[.bool sa, .slice Aa na ca]), (65, .int .i64 (scmp x 0)), (66, .bool false), (70, .agg #[.bool sb, .slice Ab nb cb]), (71, .agg #[.bool k0.s, .slice k0.A k0.n k0.c]), (72, .tuple #[.agg #[.bool s492, .slice A492 n492 c492], .int .i64 0]), (69, .tuple #[.agg #[.bool s492, .slice A492 n492 c492], .int .i64 0]), (73, .agg #[.bool s492, .slice A492 n492 c492]), (74, .int .i64 0), (13, .pointer (some ⟨g493, 0, none⟩)), (14, .int .i64 0), (76, .agg #[.bool k2.s, .slice k2.A k2.n k2.c]), (77, .agg #[.bool s492, .slice A492 n492 c492]), (78, .tuple #[.agg #[.bool s509, .slice A509 n509 c509], .int .i64 0]), (75, .tuple #[.agg #[.bool s509, .slice A509 n509 c509], .int .i64 0]), (79, .agg #[.bool s509, .slice A509 n509 c509]), (80, .int .i64 0), (82, .agg #[.bool k0.s, .slice k0.A k0.n k0.c]), (83, .agg #[.bool sa, .slice Aa na ca]), (84, .agg #[.bool s509, .slice A509 n509 c509]), (85, .agg #[.bool s636, .slice A636 n636 c636]), (86, .agg #[.bool s642, .slice A642 n642 c642]), (87, .agg #[.bool sb, .slice Ab nb cb]), (88, .tuple #[.agg #[.bool s654, .slice A654 n654 c654], .int .i64 0]), (81, .tuple #[.agg #[.bool s661, .slice A661 n661 c661], .int .i64 0]), (89, .agg #[.bool s667, .slice A667 n667 c667]), (90, .int .i64 0)]) rfl rfl rfl rfl rfl (rd_load rfl (load_agg aggInt ((hb675.ext e679).updN u683 (by omega)) [.bool s667, .slice A667 n667 c667] rfl (Nat.le_of_ble_eq_true rfl) rfl)) ?_
              refine dobs_val ([(2, .pointer (some ⟨g1, 0, none⟩)), (3, .pointer (some ⟨g6, 0, none⟩)), (4, .pointer (some ⟨g12, 0, none⟩)), (5, .pointer (some ⟨g18, 0, none⟩)), (6, .pointer (some ⟨g24, 0, none⟩)), (7, .pointer (some ⟨g215, 0, none⟩)), (8, .pointer (some ⟨g232, 0, none⟩)), (32, .pointer (some ⟨g215, 2, none⟩)), (33, .agg #[.bool k1.s, .slice k1.A k1.n k1.c]), (34, .int .i64 (scmp r1 0)), (35, .bool false), (60, .pointer (some ⟨g215, 0, none⟩)), (61, .agg #[.bool k0.s, .slice k0.A k0.n k0.c]), (62, .pointer (some ⟨g232, 0, none⟩)), (63, .agg #[.bool k2.s, .slice k2.A k2.n k2.c]), (64, .agg #[.bool sa, .slice Aa na ca]), (65, .int .i64 (scmp x 0)), (66, .bool false), (70, .agg #[.bool sb, .slice Ab nb cb]), (71, .agg #[.bool k0.s, .slice k0.A k0.n k0.c]), (72, .tuple #[.agg #[.bool s492, .slice A492 n492 c492], .int .i64 0]), (69, .tuple #[.agg #[.bool s492, .slice A492 n492 c492], .int .i64 0]), (73, .agg #[.bool s492, .slice A492 n492 c492]), (74, .int .i64 0), (13, .pointer (some ⟨g493, 0, none⟩)), (14, .int .i64 0), (76, .agg #[.bool k2.s, .slice k2.A k2.n k2.c]), (77, .agg #[.bool s492, .slice A492 n492 c492]), (78, .tuple #[.agg #[.bool s509, .slice A509 n509 c509], .int .i64 0]), (75, .tuple #[.agg #[.bool s509, .slice A509 n509 c509], .int .i64 0]), (79, .agg #[.bool s509, .slice A509 n509 c509]), (80, .int .i64 0), (82, .agg #[.bool k0.s, .slice k0.A k0.n k0.c]), (83, .agg #[.bool sa, .slice Aa na ca]), (84, .agg #[.bool s509, .slice A509 n509 c509]), (85, .agg #[.bool s636, .slice A636 n636 c636]), (86, .agg #[.bool s642, .slice A642 n642 c642]), (87, .agg #[.bool sb, .slice Ab nb cb]), (88, .tuple #[.agg #[.bool s654, .slice A654 n654 c654], .int .i64 0]), (81, .tuple #[.agg #[.bool s661, .slice A661 n661 c661], .int .i64 0]), (89, .agg #[.bool s667, .slice A667 n667 c667]), (90, .int .i64 0)]) rfl rfl rfl rfl rfl (rd_load rfl (load_agg aggInt (((hb675.ext e679).updN u683 (by omega)).updN u689 (by omega)) [.bool s667, .slice A667 n667 c667] rfl (Nat.le_of_ble_eq_true rfl) rfl)) ?_
              refine dobs_sto ((91, .agg #[.bool k0.s, .slice k0.A k0.n k0.c]) :: [(2, .pointer (some ⟨g1, 0, none⟩)), (3, .pointer (some ⟨g6, 0, none⟩)), (4, .pointer (some ⟨g12, 0, none⟩)), (5, .pointer (some ⟨g18, 0, none⟩)), (6, .pointer (some ⟨g24, 0, none⟩)), (7, .pointer (some ⟨g215, 0, none⟩)), (8, .pointer (some ⟨g232, 0, none⟩)), (32, .pointer (some ⟨g215, 2, none⟩)), (33, .agg #[.bool k1.s, .slice k1.A k1.n k1.c]), (34, .int .i64 (scmp r1 0)), (35, .bool false), (60, .pointer (some ⟨g215, 0, none⟩)), (61, .agg #[.bool k0.s, .slice k0.A k0.n k0.c]), (62, .pointer (some ⟨g232, 0, none⟩)), (63, .agg #[.bool k2.s, .slice k2.A k2.n k2.c]), (64, .agg #[.bool sa, .slice Aa na ca]), (65, .int .i64 (scmp x 0)), (66, .bool false), (70, .agg #[.bool sb, .slice Ab nb cb]), (71, .agg #[.bool k0.s, .slice k0.A k0.n k0.c]), (72, .tuple #[.agg #[.bool s492, .slice A492 n492 c492], .int .i64 0]), (69, .tuple #[.agg #[.bool s492, .slice A492 n492 c492], .int .i64 0]), (73, .agg #[.bool s492, .slice A492 n492 c492]), (74, .int .i64 0), (13, .pointer (some ⟨g493, 0, none⟩)), (14, .int .i64 0), (76, .agg #[.bool k2.s, .slice k2.A k2.n k2.c]), (77, .agg #[.bool s492, .slice A492 n492 c492]), (78, .tuple #[.agg #[.bool s509, .slice A509 n509 c509], .int .i64 0]), (75, .tuple #[.agg #[.bool s509, .slice A509 n509 c509], .int .i64 0]), (79, .agg #[.bool s509, .slice A509 n509 c509]), (80, .int .i64 0), (82, .agg #[.bool k0.s, .slice k0.A k0.n k0.c]), (83, .agg #[.bool sa, .slice Aa na ca]), (84, .agg #[.bool s509, .slice A509 n509 c509]), (85, .agg #[.bool s636, .slice A636 n636 c636]), (86, .agg #[.bool s642, .slice A642 n642 c642]), (87, .agg #[.bool sb, .slice Ab nb cb]), (88, .tuple #[.agg #[.bool s654, .slice A654 n654 c654], .int .i64 0]), (81, .tuple #[.agg #[.bool s661, .slice A661 n661 c661], .int .i64 0]), (89, .agg #[.bool s667, .slice A667 n667 c667]), (90, .int .i64 0)]) rfl rfl rfl rfl rfl (rd_store rfl rfl hr685) ?_
              refine dobs_sto ((92, .agg #[.bool s509, .slice A509 n509 c509]) :: [(2, .pointer (some ⟨g1, 0, none⟩)), (3, .pointer (some ⟨g6, 0, none⟩)), (4, .pointer (some ⟨g12, 0, none⟩)), (5, .pointer (some ⟨g18, 0, none⟩)), (6, .pointer (some ⟨g24, 0, none⟩)), (7, .pointer (some ⟨g215, 0, none⟩)), (8, .pointer (some ⟨g232, 0, none⟩)), (32, .pointer (some ⟨g215, 2, none⟩)), (33, .agg #[.bool k1.s, .slice k1.A k1.n k1.c]), (34, .int .i64 (scmp r1 0)), (35, .bool false), (60, .pointer (some ⟨g215, 0, none⟩)), (61, .agg #[.bool k0.s, .slice k0.A k0.n k0.c]), (62, .pointer (some ⟨g232, 0, none⟩)), (63, .agg #[.bool k2.s, .slice k2.A k2.n k2.c]), (64, .agg #[.bool sa, .slice Aa na ca]), (65, .int .i64 (scmp x 0)), (66, .bool false), (70, .agg #[.bool sb, .slice Ab nb cb]), (71, .agg #[.bool k0.s, .slice k0.A k0.n k0.c]), (72, .tuple #[.agg #[.bool s492, .slice A492 n492 c492], .int .i64 0]), (69, .tuple #[.agg #[.bool s492, .slice A492 n492 c492], .int .i64 0]), (73, .agg #[.bool s492, .slice A492 n492 c492]), (74, .int .i64 0), (13, .pointer (some ⟨g493, 0, none⟩)), (14, .int .i64 0), (76, .agg #[.bool k2.s, .slice k2.A k2.n k2.c]), (77, .agg #[.bool s492, .slice A492 n492 c492]), (78, .tuple #[.agg #[.bool s509, .slice A509 n509 c509], .int .i64 0]), (75, .tuple #[.agg #[.bool s509, .slice A509 n509 c509], .int .i64 0]), (79, .agg #[.bool s509, .slice A509 n509 c509]), (80, .int .i64 0), (82, .agg #[.bool k0.s, .slice k0.A k0.n k0.c]), (83, .agg #[.bool sa, .slice Aa na ca]), (84, .agg #[.bool s509, .slice A509 n509 c509]), (85, .agg #[.bool s636, .slice A636 n636 c636]), (86, .agg #[.bool s642, .slice A642 n642 c642]), (87, .agg #[.bool sb, .slice Ab nb cb]), (88, .tuple #[.agg #[.bool s654, .slice A654 n654 c654], .int .i64 0]), (81, .tuple #[.agg #[.bool s661, .slice A661 n661 c661], .int .i64 0]), (89, .agg #[.bool s667, .slice A667 n667 c667]), (90, .int .i64 0)]) rfl rfl rfl rfl rfl (rd_store rfl rfl hr691) ?_
              refine dobs_sto ((93, .agg #[.bool s667, .slice A667 n667 c667]) :: [(2, .pointer (some ⟨g1, 0, none⟩)), (3, .pointer (some ⟨g6, 0, none⟩)), (4, .pointer (some ⟨g12, 0, none⟩)), (5, .pointer (some ⟨g18, 0, none⟩)), (6, .pointer (some ⟨g24, 0, none⟩)), (7, .pointer (some ⟨g215, 0, none⟩)), (8, .pointer (some ⟨g232, 0, none⟩)), (32, .pointer (some ⟨g215, 2, none⟩)), (33, .agg #[.bool k1.s, .slice k1.A k1.n k1.c]), (34, .int .i64 (scmp r1 0)), (35, .bool false), (60, .pointer (some ⟨g215, 0, none⟩)), (61, .agg #[.bool k0.s, .slice k0.A k0.n k0.c]), (62, .pointer (some ⟨g232, 0, none⟩)), (63, .agg #[.bool k2.s, .slice k2.A k2.n k2.c]), (64, .agg #[.bool sa, .slice Aa na ca]), (65, .int .i64 (scmp x 0)), (66, .bool false), (70, .agg #[.bool sb, .slice Ab nb cb]), (71, .agg #[.bool k0.s, .slice k0.A k0.n k0.c]), (72, .tuple #[.agg #[.bool s492, .slice A492 n492 c492], .int .i64 0]), (69, .tuple #[.agg #[.bool s492, .slice A492 n492 c492], .int .i64 0]), (73, .agg #[.bool s492, .slice A492 n492 c492]), (74, .int .i64 0), (13, .pointer (some ⟨g493, 0, none⟩)), (14, .int .i64 0), (76, .agg #[.bool k2.s, .slice k2.A k2.n k2.c]), (77, .agg #[.bool s492, .slice A492 n492 c492]), (78, .tuple #[.agg #[.bool s509, .slice A509 n509 c509], .int .i64 0]), (75, .tuple #[.agg #[.bool s509, .slice A509 n509 c509], .int .i64 0]), (79, .agg #[.bool s509, .slice A509 n509 c509]), (80, .int .i64 0), (82, .agg #[.bool k0.s, .slice k0.A k0.n k0.c]), (83, .agg #[.bool sa, .slice Aa na ca]), (84, .agg #[.bool s509, .slice A509 n509 c509]), (85, .agg #[.bool s636, .slice A636 n636 c636]), (86, .agg #[.bool s642, .slice A642 n642 c642]), (87, .agg #[.bool sb, .slice Ab nb cb]), (88, .tuple #[.agg #[.bool s654, .slice A654 n654 c654], .int .i64 0]), (81, .tuple #[.agg #[.bool s661, .slice A661 n661 c661], .int .i64 0]), (89, .agg #[.bool s667, .slice A667 n667 c667]), (90, .int .i64 0)]) rfl rfl rfl rfl rfl (rd_store rfl rfl hr697) ?_
              exact dobs_nil
            clear hv
            refine eo_keep [(2, .pointer (some ⟨g1, 0, none⟩)), (3, .pointer (some ⟨g6, 0, none⟩)), (4, .pointer (some ⟨g12, 0, none⟩)), (5, .pointer (some ⟨g18, 0, none⟩)), (6, .pointer (some ⟨g24, 0, none⟩)), (7, .pointer (some ⟨g215, 0, none⟩)), (8, .pointer (some ⟨g232, 0, none⟩)), (32, .pointer (some ⟨g215, 2, none⟩)), (33, .agg #[.bool k1.s, .slice k1.A k1.n k1.c]), (34, .int .i64 (scmp r1 0)), (35, .bool false), (60, .pointer (some ⟨g215, 0, none⟩)), (61, .agg #[.bool k0.s, .slice k0.A k0.n k0.c]), (62, .pointer (some ⟨g232, 0, none⟩)), (63, .agg #[.bool k2.s, .slice k2.A k2.n k2.c]), (64, .agg #[.bool sa, .slice Aa na ca]), (65, .int .i64 (scmp x 0)), (66, .bool false), (70, .agg #[.bool sb, .slice Ab nb cb]), (71, .agg #[.bool k0.s, .slice k0.A k0.n k0.c]), (72, .tuple #[.agg #[.bool s492, .slice A492 n492 c492], .int .i64 0]), (69, .tuple #[.agg #[.bool s492, .slice A492 n492 c492], .int .i64 0]), (73, .agg #[.bool s492, .slice A492 n492 c492]), (74, .int .i64 0), (13, .pointer (some ⟨g493, 0, none⟩)), (14, .int .i64 0), (76, .agg #[.bool k2.s, .slice k2.A k2.n k2.c]), (77, .agg #[.bool s492, .slice A492 n492 c492]), (78, .tuple #[.agg #[.bool s509, .slice A509 n509 c509], .int .i64 0]), (75, .tuple #[.agg #[.bool s509, .slice A509 n509 c509], .int .i64 0]), (79, .agg #[.bool s509, .slice A509 n509 c509]), (80, .int .i64 0), (82, .agg #[.bool k0.s, .slice k0.A k0.n k0.c]), (83, .agg #[.bool sa, .slice Aa na ca]), (84, .agg #[.bool s509, .slice A509 n509 c509]), (85, .agg #[.bool s636, .slice A636 n636 c636]), (86, .agg #[.bool s642, .slice A642 n642 c642]), (87, .agg #[.bool sb, .slice Ab nb cb]), (88, .tuple #[.agg #[.bool s654, .slice A654 n654 c654], .int .i64 0]), (81, .tuple #[.agg #[.bool s661, .slice A661 n661 c661], .int .i64 0]), (89, .agg #[.bool s667, .slice A667 n667 c667]), (90, .int .i64 0), (91, .agg #[.bool k0.s, .slice k0.A k0.n k0.c]), (92, .agg #[.bool s509, .slice A509 n509 c509]), (93, .agg #[.bool s667, .slice A667 n667 c667])] ⟨rfl, rfl, rfl, rfl, rfl, rfl, rfl, rfl, rfl, rfl, rfl, rfl, rfl, rfl, rfl, rfl, rfl, rfl, rfl, rfl, rfl, rfl, rfl, rfl, rfl, rfl, rfl, rfl, rfl, rfl, rfl, rfl, rfl, rfl, rfl, rfl, rfl, rfl, rfl, rfl, rfl, rfl, rfl, rfl, rfl, trivial⟩ ?_
            refine eo_then ?_
            refine cw_ret ?_
            refine eo_ret [.agg #[.bool k0.s, .slice k0.A k0.n k0.c], .agg #[.bool s509, .slice A509 n509 c509], .agg #[.bool s667, .slice A667 n667 c667]] rfl ⟨⟨_, rfl, load_agg aggInt ((hb682.updN u689 (by omega)).updN u695 (by omega)) [.bool k0.s, .slice k0.A k0.n k0.c] rfl (Nat.le_of_ble_eq_true rfl) rfl⟩, ⟨_, rfl, load_agg aggInt (hb688.updN u695 (by omega)) [.bool s509, .slice A509 n509 c509] rfl (Nat.le_of_ble_eq_true rfl) rfl⟩, ⟨_, rfl, load_agg aggInt hb694 [.bool s667, .slice A667 n667 c667] rfl (Nat.le_of_ble_eq_true rfl) rfl⟩, trivial⟩ ?_
            exact ⟨_, _, HD.2.2.2.2.2, _, rfl, ⟨_, _, _, rfl, ⟨_, _, _, _, rfl, ((((((((((((((zk0.ext (e244.trans e247)).updT hb249 u251).updT hb255 u257).ext (e485.trans (e489.trans e495))).updT hb500 u502).ext e506).updT hb511 u513).ext e615).updT hb674 u676).ext e679).updT hb681 u683).updT hb687 u689).updT hb693 u695)).cast HD.1⟩, ⟨_, _, _, _, rfl, (((((((z509.updT hb511 u513).ext e615).updT hb674 u676).ext e679).updT hb681 u683).updT hb687 u689).updT hb693 u695)⟩, ⟨_, _, _, _, rfl, (((((z667.updT hb674 u676).ext e679).updT hb681 u683).updT hb687 u689).updT hb693 u695)⟩⟩, hw17⟩
      ·
        refine cw_region ?_
        refine wl_pure rfl rfl (v := .pointer (some ⟨g215, 2, none⟩)) (by decide) (by kernel_rfl) ?_
        refine wl_load rfl rfl (load_agg aggInt b_7 [.bool k1.s, .slice k1.A k1.n k1.c] rfl (Nat.le_of_ble_eq_true rfl) rfl) (by decide) ?_
        refine wl_call rfl rfl (vs := [.agg #[.bool k1.s, .slice k1.A k1.n k1.c]]) (by kernel_rfl) (by decide) (g_zint_Sign zk1.zi (zk1.le (Nat.le_trans Lr1 (by decide)))) ?_
        rintro _ v698 ⟨xr700, rfl, r700, e699⟩
        refine ret_intro ?_
        have hw2 : Ext w v698 := hw1.trans e699
        obtain rfl := r700
        refine wl_cmp rfl rfl rfl true (scmp_ne_t hr) (by decide) ?_
        refine wl_nil ?_
        refine eo_then ?_
        refine cw_true rfl ?_
        refine cw_skip ?_
        refine eo_then ?_
        refine cw_block ?_
        refine cw_seq ?_
        refine cw_region ?_
        refine wl_pure rfl rfl (v := .pointer (some ⟨g215, 0, none⟩)) (by decide) (by kernel_rfl) ?_
        refine wl_load rfl rfl (load_agg aggInt (b_7.ext e699) [.bool k0.s, .slice k0.A k0.n k0.c] rfl (Nat.le_of_ble_eq_true rfl) rfl) (by decide) ?_
        refine wl_pure rfl rfl (v := .pointer (some ⟨g215, 2, none⟩)) (by decide) (by kernel_rfl) ?_
        refine wl_load rfl rfl (load_agg aggInt (b_7.ext e699) [.bool k1.s, .slice k1.A k1.n k1.c] rfl (Nat.le_of_ble_eq_true rfl) rfl) (by decide) ?_
        have L701 : ln ((r0).tdiv r1) ≤ 17179869184 := Nat.le_trans (ln_tdiv _ _) Lr0
        have L702 : ln ((r0).tmod r1) ≤ 17179869184 := Nat.le_trans (ln_tmod _ _) Lr0
        refine wl_call rfl rfl (vs := [.agg #[.bool k0.s, .slice k0.A k0.n k0.c], .agg #[.bool k1.s, .slice k1.A k1.n k1.c]]) (by kernel_rfl) (by decide) (g_zint_Trunc hw2.size (zk0.ext e699).zi (zk0.le (Nat.le_trans Lr0 (by decide))) (zk1.ext e699).zi (zk1.le (Nat.le_trans Lr1 (by decide))) hr) ?_
        rintro _ v703 ⟨xr705, rfl, r705, e704⟩
        refine ret_intro ?_
        have hw3 : Ext w v703 := hw2.trans e704
        obtain ⟨a706_0, a706_1, a706_2, rfl, r706_0, r706_1, r706_2⟩ := r705
        obtain ⟨s707, A707, n707, c707, rfl, z707⟩ := r706_0
        obtain ⟨s708, A708, n708, c708, rfl, z708⟩ := r706_1
        obtain rfl := r706_2
        refine wl_move rfl rfl (by decide) ?_
        refine wl_pure rfl rfl (v := .agg #[.bool s707, .slice A707 n707 c707]) (by decide) (by kernel_rfl) ?_
        refine wl_pure rfl rfl (v := .agg #[.bool s708, .slice A708 n708 c708]) (by decide) (by kernel_rfl) ?_
        refine wl_pure rfl rfl (v := .int .i64 0) (by decide) (by kernel_rfl) ?_
        refine wl_alloc rfl (z := .agg #[.bool false, .slice none 0 0]) (vs := [.bool false, .slice none 0 0]) (fun _ => by kernel_rfl) rfl (by decide) fun g709 v710 nb => ?_
        have hb712 := nb.bk
        have ge713 : w.heap.size ≤ g709 := by rw [← nb.at_]; exact hw3.size
        have q714 : g232 < g709 := by rw [← nb.at_]; exact (b_8.ext (e699.trans e704)).lt
        have e711 := nb.ext
        clear nb
        have hw4 : Ext w v710 := hw3.trans e711
        refine wl_alloc rfl (z := .agg #[.bool false, .slice none 0 0]) (vs := [.bool false, .slice none 0 0]) (fun _ => by kernel_rfl) rfl (by decide) fun g715 v716 nb => ?_
        have hb718 := nb.bk
        have ge719 : w.heap.size ≤ g715 := by rw [← nb.at_]; exact hw4.size
        have q720 : g709 < g715 := by rw [← nb.at_]; exact hb712.lt
        have e717 := nb.ext
        clear nb
        have hw5 : Ext w v716 := hw4.trans e717
        have hb722 := (hb712.ext e717)
        refine wl_stored rfl rfl rfl aggInt rfl hb722 (Nat.le_of_ble_eq_true rfl) rfl [.bool s707, .slice A707 n707 c707] rfl fun v721 hb723 u724 hs725 => ?_
        have hw6 : Ext w v721 := u724.ext hw5 ge713
        have hb727 := (hb718.updN u724 (by omega))
        refine wl_stored rfl rfl rfl aggInt rfl hb727 (Nat.le_of_ble_eq_true rfl) rfl [.bool s708, .slice A708 n708 c708] rfl fun v726 hb728 u729 hs730 => ?_
        have hw7 : Ext w v726 := u729.ext hw6 ge719
        refine wl_assign rfl rfl (by decide) ?_
        refine wl_nil ?_
        refine eo_then ?_
        refine cw_seq ?_
        have L731 : ln ((r0.tdiv r1) * m1) ≤ 34359738368 := Nat.le_trans (ln_mul L701 Lm1) (by decide)
        have L733 : ln (m0 - ((r0.tdiv r1) * m1)) ≤ 34359738369 := Nat.le_trans (ln_sub Lm0 L731) (by decide)
        refine cw_draw mix 8 [] [Is (.pointer (some ⟨g232, 0, none⟩)), Is (.agg #[.bool k2.s, .slice k2.A k2.n k2.c]), Is (.agg #[.bool s707, .slice A707 n707 c707]), Is (.pointer (some ⟨g232, 2, none⟩)), Is (.agg #[.bool k3.s, .slice k3.A k3.n k3.c]), ZR w.heap.size ((r0.tdiv r1) * m1), ZR w.heap.size (m0 - ((r0.tdiv r1) * m1)), PR v726.heap.size 27 [.bool false, .slice none 0 0]] [[], [0], [], [], [3], [2, 4], [1, 5], []] [[], [0], [], [], [3], [2, 3, 4], [0, 1, 2, 3, 4, 5], [], [0, 1, 2, 3, 4, 5, 6, 7]] rfl
          (obs_cons rfl rfl (hob rfl rfl ?_) (obs_cons rfl rfl (hob rfl rfl ?_) (obs_cons rfl rfl (hob rfl rfl ?_) (obs_cons rfl rfl (hob rfl rfl ?_) (obs_cons rfl rfl (hob rfl rfl ?_) (obs_cons rfl rfl (hob rfl rfl ?_) (obs_cons rfl rfl (hob rfl rfl ?_) (obs_cons rfl rfl (hob rfl rfl ?_) obs_nil)))))))) ?_
        · -- 0
          intro v735 e736
          have hw8 : Ext w v735 := hw7.trans e736
          refine deps_nil ?_
          refine wl_pure rfl rfl (v := .pointer (some ⟨g232, 0, none⟩)) (by decide) (by kernel_rfl) ?_
          exact pi_done rfl (Ext.refl _) rfl
        · -- 1
          intro v737 e738
          have hw8 : Ext w v737 := hw7.trans e738
          refine deps_cons rfl rfl fun x739 y740 h741 e742 f743 => ?_
          obtain rfl := h741
          refine deps_nil ?_
          refine wl_load rfl rfl (load_agg aggInt ((((b_8.ext (e699.trans (e704.trans (e711.trans e717)))).updN u724 (by omega)).updN u729 (by omega)).ext e738) [.bool k2.s, .slice k2.A k2.n k2.c] rfl (Nat.le_of_ble_eq_true rfl) rfl) (by decide) ?_
          exact pi_done rfl (Ext.refl _) rfl
        · -- 2
          intro v744 e745
          have hw8 : Ext w v744 := hw7.trans e745
          refine deps_nil ?_
          refine wl_load rfl rfl (load_agg aggInt ((hb723.updN u729 (by omega)).ext e745) [.bool s707, .slice A707 n707 c707] rfl (Nat.le_of_ble_eq_true rfl) rfl) (by decide) ?_
          exact pi_done rfl (Ext.refl _) rfl
        · -- 3
          intro v746 e747
          have hw8 : Ext w v746 := hw7.trans e747
          refine deps_nil ?_
          refine wl_pure rfl rfl (v := .pointer (some ⟨g232, 2, none⟩)) (by decide) (by kernel_rfl) ?_
          exact pi_done rfl (Ext.refl _) rfl
        · -- 4
          intro v748 e749
          have hw8 : Ext w v748 := hw7.trans e749
          refine deps_cons rfl rfl fun x750 y751 h752 e753 f754 => ?_
          obtain rfl := h752
          refine deps_nil ?_
          refine wl_load rfl rfl (load_agg aggInt ((((b_8.ext (e699.trans (e704.trans (e711.trans e717)))).updN u724 (by omega)).updN u729 (by omega)).ext e749) [.bool k3.s, .slice k3.A k3.n k3.c] rfl (Nat.le_of_ble_eq_true rfl) rfl) (by decide) ?_
          exact pi_done rfl (Ext.refl _) rfl
        · -- 5
          intro v755 e756
          have hw8 : Ext w v755 := hw7.trans e756
          refine deps_cons rfl rfl fun x757 y758 h759 e760 f761 => ?_
          obtain rfl := h759
          refine deps_cons rfl rfl fun x762 y763 h764 e765 f766 => ?_
          obtain rfl := h764
          refine deps_nil ?_
          have L767 : ln ((r0.tdiv r1) * m1) ≤ 34359738368 := Nat.le_trans (ln_mul L701 Lm1) (by decide)
          refine wl_call rfl rfl (vs := [.agg #[.bool s707, .slice A707 n707 c707], .agg #[.bool k3.s, .slice k3.A k3.n k3.c]]) (by kernel_rfl) (by decide) (g_zint_Mul hw8.size ((((z707.ext (e711.trans e717)).updT hb722 u724).updT hb727 u729).ext e756).zi (z707.le (Nat.le_trans L701 (by decide))) ((((zk3.ext (e699.trans (e704.trans (e711.trans e717)))).updT hb722 u724).updT hb727 u729).ext e756).zi (zk3.le (Nat.le_trans Lm1 (by decide)))) ?_
          rintro _ v768 ⟨xr770, rfl, r770, e769⟩
          refine ret_intro ?_
          have hw9 : Ext w v768 := hw8.trans e769
          obtain ⟨s771, A771, n771, c771, rfl, z771⟩ := r770
          exact pi_done rfl e769 ⟨_, _, _, _, rfl, z771⟩
        · -- 6
          intro v772 e773
          have hw8 : Ext w v772 := hw7.trans e773
          refine deps_cons rfl rfl fun x774 y775 h776 e777 f778 => ?_
          obtain rfl := h776
          refine deps_cons rfl rfl fun x779 y780 h781 e782 f783 => ?_
          obtain ⟨s784, A784, n784, c784, rfl, z784⟩ := h781
          have z784 := z784.ext f783
          refine deps_nil ?_
          have L785 : ln (m0 - ((r0.tdiv r1) * m1)) ≤ 34359738369 := Nat.le_trans (ln_sub Lm0 L731) (by decide)
          refine wl_call rfl rfl (vs := [.agg #[.bool k2.s, .slice k2.A k2.n k2.c], .agg #[.bool s784, .slice A784 n784 c784]]) (by kernel_rfl) (by decide) (g_zint_Sub hw8.size ((((zk2.ext (e699.trans (e704.trans (e711.trans e717)))).updT hb722 u724).updT hb727 u729).ext e773).zi (zk2.le (Nat.le_trans Lm0 (by decide))) z784.zi (z784.le (Nat.le_trans L731 (by decide)))) ?_
          rintro _ v786 ⟨xr788, rfl, r788, e787⟩
          refine ret_intro ?_
          have hw9 : Ext w v786 := hw8.trans e787
          obtain ⟨s789, A789, n789, c789, rfl, z789⟩ := r788
          exact pi_done rfl e787 ⟨_, _, _, _, rfl, z789⟩
        · -- 7
          intro v790 e791
          have hw8 : Ext w v790 := hw7.trans e791
          refine deps_nil ?_
          refine wl_alloc rfl (z := .agg #[.bool false, .slice none 0 0]) (vs := [.bool false, .slice none 0 0]) (fun _ => by kernel_rfl) rfl (by decide) fun g792 v793 nb => ?_
          exact pi_done rfl nb.ext ⟨_, rfl, by rw [← nb.at_]; exact e791.size, nb.bk⟩
        · -- all
          intro v794 e795
          have hw8 : Ext w v794 := hw7.trans e795
          refine deps_cons rfl rfl fun x796 y797 h798 e799 f800 => ?_
          obtain rfl := h798
          refine deps_cons rfl rfl fun x801 y802 h803 e804 f805 => ?_
          obtain rfl := h803
          refine deps_cons rfl rfl fun x806 y807 h808 e809 f810 => ?_
          obtain rfl := h808
          refine deps_cons rfl rfl fun x811 y812 h813 e814 f815 => ?_
          obtain rfl := h813
          refine deps_cons rfl rfl fun x816 y817 h818 e819 f820 => ?_
          obtain rfl := h818
          refine deps_cons rfl rfl fun x821 y822 h823 e824 f825 => ?_
          obtain ⟨s826, A826, n826, c826, rfl, z826⟩ := h823
          have z826 := z826.ext f825
          refine deps_cons rfl rfl fun x827 y828 h829 e830 f831 => ?_
          obtain ⟨s832, A832, n832, c832, rfl, z832⟩ := h829
          have z832 := z832.ext f831
          refine deps_cons rfl rfl fun x833 y834 h835 e836 f837 => ?_
          obtain ⟨g838, rfl, ge840, hb839⟩ := h835
          have hb839 := hb839.ext f837
          have q841 : g715 < g838 := Nat.lt_of_lt_of_le hb728.lt ge840
          have ge840 : w.heap.size ≤ g838 := Nat.le_trans hw7.size ge840
          refine deps_nil ?_
          have hb843 := hb839
          refine wl_stored rfl rfl rfl aggInt rfl hb843 (Nat.le_of_ble_eq_true rfl) rfl [.bool s832, .slice A832 n832 c832] rfl fun v842 hb844 u845 hs846 => ?_
          have hw9 : Ext w v842 := u845.ext hw8 ge840
          refine wl_nil ?_
          refine eo_np ?_
          refine eo_then ?_
          refine cw_seq ?_
          refine cw_region ?_
          refine wl_pure rfl rfl (v := .pointer (some ⟨g215, 2, none⟩)) (by decide) (by kernel_rfl) ?_
          refine wl_load rfl rfl (load_agg aggInt (((((b_7.ext (e699.trans (e704.trans (e711.trans e717)))).updN u724 (by omega)).updN u729 (by omega)).ext e795).updN u845 (by omega)) [.bool k1.s, .slice k1.A k1.n k1.c] rfl (Nat.le_of_ble_eq_true rfl) rfl) (by decide) ?_
          refine wl_load rfl rfl (load_agg aggInt ((hb728.ext e795).updN u845 (by omega)) [.bool s708, .slice A708 n708 c708] rfl (Nat.le_of_ble_eq_true rfl) rfl) (by decide) ?_
          refine wl_pure rfl rfl (v := .agg #[.bool k1.s, .slice k1.A k1.n k1.c, .bool s708, .slice A708 n708 c708]) (by decide) (by kernel_rfl) ?_
          have hb848 := (((((b_7.ext (e699.trans (e704.trans (e711.trans e717)))).updN u724 (by omega)).updN u729 (by omega)).ext e795).updN u845 (by omega))
          refine wl_stored rfl rfl rfl aggTwo rfl hb848 (Nat.le_of_ble_eq_true rfl) rfl [.bool k1.s, .slice k1.A k1.n k1.c, .bool s708, .slice A708 n708 c708] rfl fun v847 hb849 u850 hs851 => ?_
          have hw10 : Ext w v847 := u850.ext hw9 ge217
          refine wl_nil ?_
          refine eo_then ?_
          refine cw_region ?_
          refine wl_pure rfl rfl (v := .pointer (some ⟨g232, 2, none⟩)) (by decide) (by kernel_rfl) ?_
          refine wl_load rfl rfl (load_agg aggInt ((((((b_8.ext (e699.trans (e704.trans (e711.trans e717)))).updN u724 (by omega)).updN u729 (by omega)).ext e795).updN u845 (by omega)).updN u850 (by omega)) [.bool k3.s, .slice k3.A k3.n k3.c] rfl (Nat.le_of_ble_eq_true rfl) rfl) (by decide) ?_
          refine wl_load rfl rfl (load_agg aggInt (hb844.updN u850 (by omega)) [.bool s832, .slice A832 n832 c832] rfl (Nat.le_of_ble_eq_true rfl) rfl) (by decide) ?_
          refine wl_pure rfl rfl (v := .agg #[.bool k3.s, .slice k3.A k3.n k3.c, .bool s832, .slice A832 n832 c832]) (by decide) (by kernel_rfl) ?_
          have hb853 := ((((((b_8.ext (e699.trans (e704.trans (e711.trans e717)))).updN u724 (by omega)).updN u729 (by omega)).ext e795).updN u845 (by omega)).updN u850 (by omega))
          refine wl_stored rfl rfl rfl aggTwo rfl hb853 (Nat.le_of_ble_eq_true rfl) rfl [.bool k3.s, .slice k3.A k3.n k3.c, .bool s832, .slice A832 n832 c832] rfl fun v852 hb854 u855 hs856 => ?_
          have hw11 : Ext w v852 := u855.ext hw10 ge236
          refine wl_nil ?_
          refine eo_block_normal ?_
          refine eo_round (⟨v852, _, _, _, _, ⟨k1.s, k1.A, k1.n, k1.c⟩, ⟨s708, A708, n708, c708⟩, ⟨k3.s, k3.A, k3.n, k3.c⟩, ⟨s832, A832, n832, c832⟩⟩ : World × Int × Int × Int × Int × ZC × ZC × ZC × ZC) ⟨hw11, hI.step hr, (((((((b_2.ext (e699.trans (e704.trans (e711.trans e717)))).updN u724 (by omega)).updN u729 (by omega)).ext e795).updN u845 (by omega)).updN u850 (by omega)).updN u855 (by omega)), (((((((b_3.ext (e699.trans (e704.trans (e711.trans e717)))).updN u724 (by omega)).updN u729 (by omega)).ext e795).updN u845 (by omega)).updN u850 (by omega)).updN u855 (by omega)), (((((((b_4.ext (e699.trans (e704.trans (e711.trans e717)))).updN u724 (by omega)).updN u729 (by omega)).ext e795).updN u845 (by omega)).updN u850 (by omega)).updN u855 (by omega)), (((((((b_5.ext (e699.trans (e704.trans (e711.trans e717)))).updN u724 (by omega)).updN u729 (by omega)).ext e795).updN u845 (by omega)).updN u850 (by omega)).updN u855 (by omega)), (((((((b_6.ext (e699.trans (e704.trans (e711.trans e717)))).updN u724 (by omega)).updN u729 (by omega)).ext e795).updN u845 (by omega)).updN u850 (by omega)).updN u855 (by omega)), (hb849.updN u855 (by omega)), hb854, (((((((zk1.ext (e699.trans (e704.trans (e711.trans e717)))).updT hb722 u724).updT hb727 u729).ext e795).updT hb843 u845).updT hb848 u850).updT hb853 u855), (((((((z708.ext (e711.trans e717)).updT hb722 u724).updT hb727 u729).ext e795).updT hb843 u845).updT hb848 u850).updT hb853 u855), (((((((zk3.ext (e699.trans (e704.trans (e711.trans e717)))).updT hb722 u724).updT hb727 u729).ext e795).updT hb843 u845).updT hb848 u850).updT hb853 u855), (((z832.updT hb843 u845).updT hb848 u850).updT hb853 u855)⟩ (tmod_abs hr) rfl ⟨rfl, rfl, rfl, rfl, rfl, rfl, rfl, trivial⟩
theorem g_bezout_Ext {w : World} {sa : Bool} {Aa : Option Addr} {na ca : Nat} {x : Int} {sb : Bool} {Ab : Option Addr} {nb cb : Nat} {y : Int} {b : Nat} (hb : b ≤ w.heap.size)  (hx : Zi w sa Aa na ca x) (la : na ≤ 17179869184) (hy : Zi w sb Ab nb cb y) (lb : nb ≤ 17179869184)  :
    Calls Try.prog 37 #[.agg #[.bool sa, .slice Aa na ca], .agg #[.bool sb, .slice Ab nb cb]] w (fun e w' => ∃ u v, Bez x y u v ∧ Gv w (T3 (ZR b (Int.gcd x y : Int)) (ZR b u) (ZR b v)) e w') := (g_bezout_ExtI hx la hy lb).mono fun e w2 h => (by obtain ⟨u, v, h1, h2⟩ := h; exact ⟨u, v, h1, Gv.imp (T3.imp (ZR.imp hb) (ZR.imp hb) (ZR.imp hb)) _ _ h2⟩)
end Go.Proofs.Ytmaconeeonkdgaa
