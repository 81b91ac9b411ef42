/- Parts Zh, Bz, Li, Rxb, Rxc, Lg5, Lg5b, IntEb, joined. -/
import Derived.Test.YtmjdmjflgiicaaaDoorV2
import Derived.Laws.BytesString
import Derived.Laws.Concat

namespace Go.Proofs.YtmjdmjflgiicaaaDoor
open Go.RowKit
theorem ln_tdiv (x y : Int) : ln (x.tdiv y) ≤ ln x := ln_mono (by rw [Int.natAbs_tdiv]; exact Nat.div_le_self _ _)
theorem ln_tmod (x y : Int) : ln (x.tmod y) ≤ ln x := ln_mono (by rw [Int.natAbs_tmod]; exact Nat.mod_le _ _)
theorem ediv_pos {x y : Int} (h : 0 ≤ x.tmod y) : x.tdiv y = x / y ∧ x.tmod y = x % y := by
  have h1 := Int.tdiv_mul_add_tmod x y
  rcases Int.lt_trichotomy y 0 with hy | hy | hy
  · have h2 : x.tmod y < -y := by have := tmod_abs (x := x) (y := y) (by omega); omega
    have e : x.tmod y = x % y := by
      have : x % y = (x.tmod y + y * x.tdiv y) % y := by rw [Int.mul_comm y]; congr 1; omega
      rw [this, Int.add_mul_emod_self_left, ← Int.emod_neg, Int.emod_eq_of_lt h h2]
    refine ⟨?_, e⟩
    have h3 := Int.mul_ediv_add_emod x y
    rw [← e] at h3
    refine Int.eq_of_mul_eq_mul_left (a := y) (by omega) ?_
    rw [Int.mul_comm y (x.tdiv y)]; omega
  · subst hy; simp
  · have h2 := Int.tmod_lt_of_pos x hy
    have e : x.tmod y = x % y := by
      have : x % y = (x.tmod y + y * x.tdiv y) % y := by rw [Int.mul_comm y]; congr 1; omega
      rw [this, Int.add_mul_emod_self_left, Int.emod_eq_of_lt h h2]
    refine ⟨?_, e⟩
    have h3 := Int.mul_ediv_add_emod x y
    rw [← e] at h3
    refine Int.eq_of_mul_eq_mul_left (a := y) (by omega) ?_
    rw [Int.mul_comm y (x.tdiv y)]; omega
theorem ediv_neg' {x y : Int} (h : x.tmod y < 0) (hy : y < 0) : x.tdiv y + 1 = x / y ∧ x.tmod y - y = x % y := by
  have h1 := Int.tdiv_mul_add_tmod x y
  have h2 : -(x.tmod y) < -y := by have := tmod_abs (x := x) (y := y) (by omega); omega
  have e : x.tmod y - y = x % y := by
    have : x % y = ((x.tmod y - y) + y * (x.tdiv y + 1)) % y := by rw [Int.mul_add, Int.mul_comm y]; congr 1; omega
    rw [this, Int.add_mul_emod_self_left, ← Int.emod_neg, Int.emod_eq_of_lt (by omega) (by omega)]
  refine ⟨?_, e⟩
  have h3 := Int.mul_ediv_add_emod x y
  rw [← e] at h3
  refine Int.eq_of_mul_eq_mul_left (a := y) (by omega) ?_
  rw [Int.mul_add, Int.mul_comm y (x.tdiv y)]; omega
theorem ediv_pos' {x y : Int} (h : x.tmod y < 0) (hy : 0 < y) : x.tdiv y - 1 = x / y ∧ x.tmod y + y = x % y := by
  have h1 := Int.tdiv_mul_add_tmod x y
  have h2 : -(x.tmod y) < y := by have := tmod_abs (x := x) (y := y) (by omega); omega
  have e : x.tmod y + y = x % y := by
    have : x % y = ((x.tmod y + y) + y * (x.tdiv y - 1)) % y := by rw [Int.mul_sub, Int.mul_comm y]; congr 1; omega
    rw [this, Int.add_mul_emod_self_left, Int.emod_eq_of_lt (by omega) (by omega)]
  refine ⟨?_, e⟩
  have h3 := Int.mul_ediv_add_emod x y
  rw [← e] at h3
  refine Int.eq_of_mul_eq_mul_left (a := y) (by omega) ?_
  rw [Int.mul_sub, Int.mul_comm y (x.tdiv y)]; omega
set_option maxHeartbeats 4000000 in
theorem g_zint_EuclidI {w : World} {sa : Bool} {Aa : Option Addr} {na ca : Nat} {x : Int} {sb : Bool} {Ab : Option Addr} {nb cb : Nat} {y : Int} (hx : Zi w sa Aa na ca x) (la : na ≤ 68719476736) (hy : Zi w sb Ab nb cb y) (lb : nb ≤ 68719476736) (h0 : y ≠ 0) :
    Calls Tryd.prog 29 #[.agg #[.bool sa, .slice Aa na ca], .agg #[.bool sb, .slice Ab nb cb]] w (Gv w (T3 (ZR w.heap.size (x / y)) (ZR w.heap.size (x % y)) (Is (.int .i64 0)))) := by
  have Lx : ln x ≤ 68719476736 := Nat.le_trans hx.ln la
  have Ly : ln y ≤ 68719476736 := Nat.le_trans hy.ln lb
  refine sx_enter Tryd.func29 rfl (n := 41) rfl (Nat.le_of_ble_eq_true rfl) (args := [.agg #[.bool sa, .slice Aa na ca], .agg #[.bool sb, .slice Ab nb cb]]) ?_
  refine cw_keep [(0, .agg #[.bool sa, .slice Aa na ca]), (1, .agg #[.bool sb, .slice Ab nb cb])] ⟨rfl, rfl, trivial⟩ ?_
  refine cw_seq ?_
  refine cw_region ?_
  refine wl_box rfl rfl (vs := [.bool sa, .slice Aa na ca]) rfl (by decide) fun g1 v2 nb => ?_
  have hb4 := nb.bk
  have ge5 : w.heap.size ≤ g1 := by rw [← nb.at_]; exact (Ext.refl w).size
  have e3 := nb.ext
  clear nb
  have hw1 : Ext w v2 := (Ext.refl w).trans e3
  refine wl_box rfl rfl (vs := [.bool sb, .slice Ab nb cb]) rfl (by decide) fun g6 v7 nb => ?_
  have hb9 := nb.bk
  have ge10 : w.heap.size ≤ g6 := by rw [← nb.at_]; exact hw1.size
  have q11 : g1 < g6 := by rw [← nb.at_]; exact hb4.lt
  have e8 := nb.ext
  clear nb
  have hw2 : Ext w v7 := hw1.trans e8
  refine wl_alloc rfl (z := .agg #[.bool false, .slice none 0 0]) (vs := [.bool false, .slice none 0 0]) (fun _ => by kernel_rfl) rfl (by decide) fun g12 v13 nb => ?_
  have hb15 := nb.bk
  have ge16 : w.heap.size ≤ g12 := by rw [← nb.at_]; exact hw2.size
  have q17 : g6 < g12 := by rw [← nb.at_]; exact hb9.lt
  have e14 := nb.ext
  clear nb
  have hw3 : Ext w v13 := hw2.trans e14
  refine wl_alloc rfl (z := .agg #[.bool false, .slice none 0 0]) (vs := [.bool false, .slice none 0 0]) (fun _ => by kernel_rfl) rfl (by decide) fun g18 v19 nb => ?_
  have hb21 := nb.bk
  have ge22 : w.heap.size ≤ g18 := by rw [← nb.at_]; exact hw3.size
  have q23 : g12 < g18 := by rw [← nb.at_]; exact hb15.lt
  have e20 := nb.ext
  clear nb
  have hw4 : Ext w v19 := hw3.trans e20
  refine wl_assign rfl rfl (by decide) ?_
  refine wl_nil ?_
  refine eo_then ?_
  refine cw_seq ?_
  refine cw_region ?_
  refine wl_load rfl rfl (load_agg aggInt (hb4.ext (e8.trans (e14.trans e20))) [.bool sa, .slice Aa na ca] rfl (Nat.le_of_ble_eq_true rfl) rfl) (by decide) ?_
  refine wl_load rfl rfl (load_agg aggInt (hb9.ext (e14.trans e20)) [.bool sb, .slice Ab nb cb] rfl (Nat.le_of_ble_eq_true rfl) rfl) (by decide) ?_
  have L24 : ln ((x).tdiv y) ≤ 68719476736 := Nat.le_trans (ln_tdiv _ _) Lx
  have L25 : ln ((x).tmod y) ≤ 68719476736 := Nat.le_trans (ln_tmod _ _) Lx
  refine wl_call rfl rfl (vs := [.agg #[.bool sa, .slice Aa na ca], .agg #[.bool sb, .slice Ab nb cb]]) (by kernel_rfl) (by decide) (g_zint_Trunc hw4.size (hx.ext hw4) (Nat.le_trans la (by decide)) (hy.ext hw4) (Nat.le_trans lb (by decide)) h0) ?_
  rintro _ v26 ⟨xr28, rfl, r28, e27⟩
  refine ret_intro ?_
  have hw5 : Ext w v26 := hw4.trans e27
  obtain ⟨a29_0, a29_1, a29_2, rfl, r29_0, r29_1, r29_2⟩ := r28
  obtain ⟨s30, A30, n30, c30, rfl, z30⟩ := r29_0
  obtain ⟨s31, A31, n31, c31, rfl, z31⟩ := r29_1
  obtain rfl := r29_2
  refine wl_move rfl rfl (by decide) ?_
  refine wl_pure rfl rfl (v := .agg #[.bool s30, .slice A30 n30 c30]) (by decide) (by kernel_rfl) ?_
  refine wl_pure rfl rfl (v := .agg #[.bool s31, .slice A31 n31 c31]) (by decide) (by kernel_rfl) ?_
  refine wl_pure rfl rfl (v := .int .i64 0) (by decide) (by kernel_rfl) ?_
  refine wl_alloc rfl (z := .agg #[.bool false, .slice none 0 0]) (vs := [.bool false, .slice none 0 0]) (fun _ => by kernel_rfl) rfl (by decide) fun g32 v33 nb => ?_
  have hb35 := nb.bk
  have ge36 : w.heap.size ≤ g32 := by rw [← nb.at_]; exact hw5.size
  have q37 : g18 < g32 := by rw [← nb.at_]; exact (hb21.ext e27).lt
  have e34 := nb.ext
  clear nb
  have hw6 : Ext w v33 := hw5.trans e34
  refine wl_alloc rfl (z := .agg #[.bool false, .slice none 0 0]) (vs := [.bool false, .slice none 0 0]) (fun _ => by kernel_rfl) rfl (by decide) fun g38 v39 nb => ?_
  have hb41 := nb.bk
  have ge42 : w.heap.size ≤ g38 := by rw [← nb.at_]; exact hw6.size
  have q43 : g32 < g38 := by rw [← nb.at_]; exact hb35.lt
  have e40 := nb.ext
  clear nb
  have hw7 : Ext w v39 := hw6.trans e40
  have hb45 := (hb35.ext e40)
  refine wl_stored rfl rfl rfl aggInt rfl hb45 (Nat.le_of_ble_eq_true rfl) rfl [.bool s30, .slice A30 n30 c30] rfl fun v44 hb46 u47 hs48 => ?_
  have hw8 : Ext w v44 := u47.ext hw7 ge36
  have hb50 := (hb41.updN u47 (by omega))
  refine wl_stored rfl rfl rfl aggInt rfl hb50 (Nat.le_of_ble_eq_true rfl) rfl [.bool s31, .slice A31 n31 c31] rfl fun v49 hb51 u52 hs53 => ?_
  have hw9 : Ext w v49 := u52.ext hw8 ge42
  refine wl_assign rfl rfl (by decide) ?_
  refine wl_nil ?_
  refine eo_then ?_
  refine cw_seq ?_
  refine cw_seq ?_
  by_cases hr : x.tmod y < 0
  ·
    obtain rfl : s31 = true := by rw [z31.sgn]; exact decide_eq_true hr
    refine cw_region ?_
    refine wl_move rfl rfl (by decide) ?_
    refine wl_pure rfl rfl (v := .bool false) (by decide) (by kernel_rfl) ?_
    refine wl_move rfl rfl (by decide) ?_
    refine wl_pure rfl rfl (v := .pointer (some ⟨g38, 0, none⟩)) (by decide) (by kernel_rfl) ?_
    refine wl_load rfl rfl (load_cell cellBool hb51 rfl) (by decide) ?_
    refine wl_pure rfl rfl (v := .bool false) (by decide) (by kernel_rfl) ?_
    refine wl_pure rfl rfl (v := .bool false) (by decide) (by kernel_rfl) ?_
    refine wl_nil ?_
    refine eo_then ?_
    refine cw_false rfl ?_
    refine cw_skip ?_
    refine eo_then ?_
    refine cw_seq ?_
    refine cw_seq ?_
    by_cases hyn : y < 0
    ·
      obtain rfl : sb = true := by rw [hy.sgn h0]; exact decide_eq_true hyn
      have hq := ediv_neg' hr hyn
      refine cw_region ?_
      refine wl_pure rfl rfl (v := .pointer (some ⟨g6, 0, none⟩)) (by decide) (by kernel_rfl) ?_
      refine wl_load rfl rfl (load_cell cellBool (((hb9.ext (e14.trans (e20.trans (e27.trans (e34.trans e40))))).updN u47 (by omega)).updN u52 (by omega)) rfl) (by decide) ?_
      refine wl_nil ?_
      refine eo_then ?_
      refine cw_true rfl ?_
      refine cw_seq ?_
      have L55 : ln ((x.tdiv y) + 1) ≤ 68719476737 := Nat.le_trans (ln_add L24 (show ln (1) ≤ 1 by decide +kernel)) (by decide)
      have L57 : ln ((x.tmod y) - y) ≤ 68719476737 := Nat.le_trans (ln_sub L25 Ly) (by decide)
      refine cw_draw mix 6 [] [Is (.agg #[.bool s30, .slice A30 n30 c30]), ZR w.heap.size (1), ZR w.heap.size ((x.tdiv y) + 1), Is (.agg #[.bool true, .slice A31 n31 c31]), Is (.agg #[.bool true, .slice Ab nb cb]), ZR w.heap.size ((x.tmod y) - y)] [[], [], [0, 1], [], [], [3, 4]] [[], [], [0, 1], [], [], [0, 1, 2, 3, 4], [0, 1, 2, 3, 4, 5], [0, 1, 2, 3, 4, 5, 6], [0, 1, 2, 3, 4, 5, 6, 7]] rfl
        (obs_cons rfl rfl (hob rfl rfl ?_) (obs_cons rfl rfl (hob rfl rfl ?_) (obs_cons rfl rfl (hob rfl rfl ?_) (obs_cons rfl rfl (hob rfl rfl ?_) (obs_cons rfl rfl (hob rfl rfl ?_) (obs_cons rfl rfl (hob rfl rfl ?_) obs_nil)))))) ?_
      · -- 0
        intro v59 e60
        have hw10 : Ext w v59 := hw9.trans e60
        refine deps_nil ?_
        refine wl_load rfl rfl (load_agg aggInt ((hb46.updN u52 (by omega)).ext e60) [.bool s30, .slice A30 n30 c30] rfl (Nat.le_of_ble_eq_true rfl) rfl) (by decide) ?_
        exact pi_done rfl (Ext.refl _) rfl
      · -- 1
        intro v61 e62
        have hw10 : Ext w v61 := hw9.trans e62
        refine deps_nil ?_
        refine wl_call rfl rfl (vs := [.int .i64 1]) (by kernel_rfl) (by decide) (g_zint_Of hw10.size (by decide) (by decide)) ?_
        rintro _ v63 ⟨xr65, rfl, r65, e64⟩
        refine ret_intro ?_
        have hw11 : Ext w v63 := hw10.trans e64
        obtain ⟨s66, A66, n66, c66, rfl, z66⟩ := r65
        exact pi_done rfl e64 ⟨_, _, _, _, rfl, z66⟩
      · -- 2
        intro v67 e68
        have hw10 : Ext w v67 := hw9.trans e68
        refine deps_cons rfl rfl fun x69 y70 h71 e72 f73 => ?_
        obtain rfl := h71
        refine deps_cons rfl rfl fun x74 y75 h76 e77 f78 => ?_
        obtain ⟨s79, A79, n79, c79, rfl, z79⟩ := h76
        have z79 := z79.ext f78
        refine deps_nil ?_
        have L80 : ln ((x.tdiv y) + 1) ≤ 68719476737 := Nat.le_trans (ln_add L24 (show ln (1) ≤ 1 by decide +kernel)) (by decide)
        refine wl_call rfl rfl (vs := [.agg #[.bool s30, .slice A30 n30 c30], .agg #[.bool s79, .slice A79 n79 c79]]) (by kernel_rfl) (by decide) (g_zint_Add hw10.size ((((z30.ext (e34.trans e40)).updT hb45 u47).updT hb50 u52).ext e68).zi (z30.le (Nat.le_trans L24 (by decide))) z79.zi (z79.le (Nat.le_trans (show ln (1) ≤ 1 by decide +kernel) (by decide)))) ?_
        rintro _ v81 ⟨xr83, rfl, r83, e82⟩
        refine ret_intro ?_
        have hw11 : Ext w v81 := hw10.trans e82
        obtain ⟨s84, A84, n84, c84, rfl, z84⟩ := r83
        exact pi_done rfl e82 ⟨_, _, _, _, rfl, z84⟩
      · -- 3
        intro v85 e86
        have hw10 : Ext w v85 := hw9.trans e86
        refine deps_nil ?_
        refine wl_load rfl rfl (load_agg aggInt (hb51.ext e86) [.bool true, .slice A31 n31 c31] rfl (Nat.le_of_ble_eq_true rfl) rfl) (by decide) ?_
        exact pi_done rfl (Ext.refl _) rfl
      · -- 4
        intro v87 e88
        have hw10 : Ext w v87 := hw9.trans e88
        refine deps_nil ?_
        refine wl_load rfl rfl (load_agg aggInt ((((hb9.ext (e14.trans (e20.trans (e27.trans (e34.trans e40))))).updN u47 (by omega)).updN u52 (by omega)).ext e88) [.bool true, .slice Ab nb cb] rfl (Nat.le_of_ble_eq_true rfl) rfl) (by decide) ?_
        exact pi_done rfl (Ext.refl _) rfl
      · -- 5
        intro v89 e90
        have hw10 : Ext w v89 := hw9.trans e90
        refine deps_cons rfl rfl fun x91 y92 h93 e94 f95 => ?_
        obtain rfl := h93
        refine deps_cons rfl rfl fun x96 y97 h98 e99 f100 => ?_
        obtain rfl := h98
        refine deps_nil ?_
        have L101 : ln ((x.tmod y) - y) ≤ 68719476737 := Nat.le_trans (ln_sub L25 Ly) (by decide)
        refine wl_call rfl rfl (vs := [.agg #[.bool true, .slice A31 n31 c31], .agg #[.bool true, .slice Ab nb cb]]) (by kernel_rfl) (by decide) (g_zint_Sub hw10.size ((((z31.ext (e34.trans e40)).updT hb45 u47).updT hb50 u52).ext e90).zi (z31.le (Nat.le_trans L25 (by decide))) (hy.ext hw10) (Nat.le_trans lb (by decide))) ?_
        rintro _ v102 ⟨xr104, rfl, r104, e103⟩
        refine ret_intro ?_
        have hw11 : Ext w v102 := hw10.trans e103
        obtain ⟨s105, A105, n105, c105, rfl, z105⟩ := r104
        exact pi_done rfl e103 ⟨_, _, _, _, rfl, z105⟩
      · -- all
        intro v106 e107
        have hw10 : Ext w v106 := hw9.trans e107
        refine deps_cons rfl rfl fun x108 y109 h110 e111 f112 => ?_
        obtain rfl := h110
        refine deps_cons rfl rfl fun x113 y114 h115 e116 f117 => ?_
        obtain ⟨s118, A118, n118, c118, rfl, z118⟩ := h115
        have z118 := z118.ext f117
        refine deps_cons rfl rfl fun x119 y120 h121 e122 f123 => ?_
        obtain ⟨s124, A124, n124, c124, rfl, z124⟩ := h121
        have z124 := z124.ext f123
        refine deps_cons rfl rfl fun x125 y126 h127 e128 f129 => ?_
        obtain rfl := h127
        refine deps_cons rfl rfl fun x130 y131 h132 e133 f134 => ?_
        obtain rfl := h132
        refine deps_cons rfl rfl fun x135 y136 h137 e138 f139 => ?_
        obtain ⟨s140, A140, n140, c140, rfl, z140⟩ := h137
        have z140 := z140.ext f139
        refine deps_nil ?_
        have hb142 := ((((hb15.ext (e20.trans (e27.trans (e34.trans e40)))).updN u47 (by omega)).updN u52 (by omega)).ext e107)
        refine wl_stored rfl rfl rfl aggInt rfl hb142 (Nat.le_of_ble_eq_true rfl) rfl [.bool s124, .slice A124 n124 c124] rfl fun v141 hb143 u144 hs145 => ?_
        have hw11 : Ext w v141 := u144.ext hw10 ge16
        have hb147 := (((((hb21.ext (e27.trans (e34.trans e40))).updN u47 (by omega)).updN u52 (by omega)).ext e107).updN u144 (by omega))
        refine wl_stored rfl rfl rfl aggInt rfl hb147 (Nat.le_of_ble_eq_true rfl) rfl [.bool s140, .slice A140 n140 c140] rfl fun v146 hb148 u149 hs150 => ?_
        have hw12 : Ext w v146 := u149.ext hw11 ge22
        refine wl_assign rfl rfl (by decide) ?_
        refine wl_nil ?_
        refine eo_np ?_
        refine eo_then ?_
        refine cw_ret ?_
        refine eo_thenR ?_
        refine eo_ret [.agg #[.bool s124, .slice A124 n124 c124], .agg #[.bool s140, .slice A140 n140 c140], .int .i64 0] rfl ⟨⟨_, rfl, load_agg aggInt (hb143.updN u149 (by omega)) [.bool s124, .slice A124 n124 c124] rfl (Nat.le_of_ble_eq_true rfl) rfl⟩, ⟨_, rfl, load_agg aggInt hb148 [.bool s140, .slice A140 n140 c140] rfl (Nat.le_of_ble_eq_true rfl) rfl⟩, rfl, trivial⟩ ?_
        exact ⟨_, rfl, ⟨_, _, _, rfl, ⟨_, _, _, _, rfl, (((z124.updT hb142 u144).updT hb147 u149)).cast (hq.1)⟩, ⟨_, _, _, _, rfl, (((z140.updT hb142 u144).updT hb147 u149)).cast (hq.2)⟩, rfl⟩, hw12⟩
    ·
      obtain rfl : sb = false := by rw [hy.sgn h0]; exact decide_eq_false hyn
      have hq := ediv_pos' hr (by omega)
      refine cw_region ?_
      refine wl_pure rfl rfl (v := .pointer (some ⟨g6, 0, none⟩)) (by decide) (by kernel_rfl) ?_
      refine wl_load rfl rfl (load_cell cellBool (((hb9.ext (e14.trans (e20.trans (e27.trans (e34.trans e40))))).updN u47 (by omega)).updN u52 (by omega)) rfl) (by decide) ?_
      refine wl_nil ?_
      refine eo_then ?_
      refine cw_false rfl ?_
      refine cw_skip ?_
      refine eo_then ?_
      refine cw_seq ?_
      have L152 : ln ((x.tdiv y) - 1) ≤ 68719476737 := Nat.le_trans (ln_sub L24 (show ln (1) ≤ 1 by decide +kernel)) (by decide)
      have L154 : ln ((x.tmod y) + y) ≤ 68719476737 := Nat.le_trans (ln_add L25 Ly) (by decide)
      refine cw_draw mix 6 [] [Is (.agg #[.bool s30, .slice A30 n30 c30]), ZR w.heap.size (1), ZR w.heap.size ((x.tdiv y) - 1), Is (.agg #[.bool true, .slice A31 n31 c31]), Is (.agg #[.bool false, .slice Ab nb cb]), ZR w.heap.size ((x.tmod y) + y)] [[], [], [0, 1], [], [], [3, 4]] [[], [], [0, 1], [], [], [0, 1, 2, 3, 4], [0, 1, 2, 3, 4, 5], [0, 1, 2, 3, 4, 5, 6], [0, 1, 2, 3, 4, 5, 6, 7]] rfl
        (obs_cons rfl rfl (hob rfl rfl ?_) (obs_cons rfl rfl (hob rfl rfl ?_) (obs_cons rfl rfl (hob rfl rfl ?_) (obs_cons rfl rfl (hob rfl rfl ?_) (obs_cons rfl rfl (hob rfl rfl ?_) (obs_cons rfl rfl (hob rfl rfl ?_) obs_nil)))))) ?_
      · -- 0
        intro v156 e157
        have hw10 : Ext w v156 := hw9.trans e157
        refine deps_nil ?_
        refine wl_load rfl rfl (load_agg aggInt ((hb46.updN u52 (by omega)).ext e157) [.bool s30, .slice A30 n30 c30] rfl (Nat.le_of_ble_eq_true rfl) rfl) (by decide) ?_
        exact pi_done rfl (Ext.refl _) rfl
      · -- 1
        intro v158 e159
        have hw10 : Ext w v158 := hw9.trans e159
        refine deps_nil ?_
        refine wl_call rfl rfl (vs := [.int .i64 1]) (by kernel_rfl) (by decide) (g_zint_Of hw10.size (by decide) (by decide)) ?_
        rintro _ v160 ⟨xr162, rfl, r162, e161⟩
        refine ret_intro ?_
        have hw11 : Ext w v160 := hw10.trans e161
        obtain ⟨s163, A163, n163, c163, rfl, z163⟩ := r162
        exact pi_done rfl e161 ⟨_, _, _, _, rfl, z163⟩
      · -- 2
        intro v164 e165
        have hw10 : Ext w v164 := hw9.trans e165
        refine deps_cons rfl rfl fun x166 y167 h168 e169 f170 => ?_
        obtain rfl := h168
        refine deps_cons rfl rfl fun x171 y172 h173 e174 f175 => ?_
        obtain ⟨s176, A176, n176, c176, rfl, z176⟩ := h173
        have z176 := z176.ext f175
        refine deps_nil ?_
        have L177 : ln ((x.tdiv y) - 1) ≤ 68719476737 := Nat.le_trans (ln_sub L24 (show ln (1) ≤ 1 by decide +kernel)) (by decide)
        refine wl_call rfl rfl (vs := [.agg #[.bool s30, .slice A30 n30 c30], .agg #[.bool s176, .slice A176 n176 c176]]) (by kernel_rfl) (by decide) (g_zint_Sub hw10.size ((((z30.ext (e34.trans e40)).updT hb45 u47).updT hb50 u52).ext e165).zi (z30.le (Nat.le_trans L24 (by decide))) z176.zi (z176.le (Nat.le_trans (show ln (1) ≤ 1 by decide +kernel) (by decide)))) ?_
        rintro _ v178 ⟨xr180, rfl, r180, e179⟩
        refine ret_intro ?_
        have hw11 : Ext w v178 := hw10.trans e179
        obtain ⟨s181, A181, n181, c181, rfl, z181⟩ := r180
        exact pi_done rfl e179 ⟨_, _, _, _, rfl, z181⟩
      · -- 3
        intro v182 e183
        have hw10 : Ext w v182 := hw9.trans e183
        refine deps_nil ?_
        refine wl_load rfl rfl (load_agg aggInt (hb51.ext e183) [.bool true, .slice A31 n31 c31] rfl (Nat.le_of_ble_eq_true rfl) rfl) (by decide) ?_
        exact pi_done rfl (Ext.refl _) rfl
      · -- 4
        intro v184 e185
        have hw10 : Ext w v184 := hw9.trans e185
        refine deps_nil ?_
        refine wl_load rfl rfl (load_agg aggInt ((((hb9.ext (e14.trans (e20.trans (e27.trans (e34.trans e40))))).updN u47 (by omega)).updN u52 (by omega)).ext e185) [.bool false, .slice Ab nb cb] rfl (Nat.le_of_ble_eq_true rfl) rfl) (by decide) ?_
        exact pi_done rfl (Ext.refl _) rfl
      · -- 5
        intro v186 e187
        have hw10 : Ext w v186 := hw9.trans e187
        refine deps_cons rfl rfl fun x188 y189 h190 e191 f192 => ?_
        obtain rfl := h190
        refine deps_cons rfl rfl fun x193 y194 h195 e196 f197 => ?_
        obtain rfl := h195
        refine deps_nil ?_
        have L198 : ln ((x.tmod y) + y) ≤ 68719476737 := Nat.le_trans (ln_add L25 Ly) (by decide)
        refine wl_call rfl rfl (vs := [.agg #[.bool true, .slice A31 n31 c31], .agg #[.bool false, .slice Ab nb cb]]) (by kernel_rfl) (by decide) (g_zint_Add hw10.size ((((z31.ext (e34.trans e40)).updT hb45 u47).updT hb50 u52).ext e187).zi (z31.le (Nat.le_trans L25 (by decide))) (hy.ext hw10) (Nat.le_trans lb (by decide))) ?_
        rintro _ v199 ⟨xr201, rfl, r201, e200⟩
        refine ret_intro ?_
        have hw11 : Ext w v199 := hw10.trans e200
        obtain ⟨s202, A202, n202, c202, rfl, z202⟩ := r201
        exact pi_done rfl e200 ⟨_, _, _, _, rfl, z202⟩
      · -- all
        intro v203 e204
        have hw10 : Ext w v203 := hw9.trans e204
        refine deps_cons rfl rfl fun x205 y206 h207 e208 f209 => ?_
        obtain rfl := h207
        refine deps_cons rfl rfl fun x210 y211 h212 e213 f214 => ?_
        obtain ⟨s215, A215, n215, c215, rfl, z215⟩ := h212
        have z215 := z215.ext f214
        refine deps_cons rfl rfl fun x216 y217 h218 e219 f220 => ?_
        obtain ⟨s221, A221, n221, c221, rfl, z221⟩ := h218
        have z221 := z221.ext f220
        refine deps_cons rfl rfl fun x222 y223 h224 e225 f226 => ?_
        obtain rfl := h224
        refine deps_cons rfl rfl fun x227 y228 h229 e230 f231 => ?_
        obtain rfl := h229
        refine deps_cons rfl rfl fun x232 y233 h234 e235 f236 => ?_
        obtain ⟨s237, A237, n237, c237, rfl, z237⟩ := h234
        have z237 := z237.ext f236
        refine deps_nil ?_
        have hb239 := ((((hb15.ext (e20.trans (e27.trans (e34.trans e40)))).updN u47 (by omega)).updN u52 (by omega)).ext e204)
        refine wl_stored rfl rfl rfl aggInt rfl hb239 (Nat.le_of_ble_eq_true rfl) rfl [.bool s221, .slice A221 n221 c221] rfl fun v238 hb240 u241 hs242 => ?_
        have hw11 : Ext w v238 := u241.ext hw10 ge16
        have hb244 := (((((hb21.ext (e27.trans (e34.trans e40))).updN u47 (by omega)).updN u52 (by omega)).ext e204).updN u241 (by omega))
        refine wl_stored rfl rfl rfl aggInt rfl hb244 (Nat.le_of_ble_eq_true rfl) rfl [.bool s237, .slice A237 n237 c237] rfl fun v243 hb245 u246 hs247 => ?_
        have hw12 : Ext w v243 := u246.ext hw11 ge22
        refine wl_assign rfl rfl (by decide) ?_
        refine wl_nil ?_
        refine eo_np ?_
        refine eo_then ?_
        refine cw_ret ?_
        refine eo_ret [.agg #[.bool s221, .slice A221 n221 c221], .agg #[.bool s237, .slice A237 n237 c237], .int .i64 0] rfl ⟨⟨_, rfl, load_agg aggInt (hb240.updN u246 (by omega)) [.bool s221, .slice A221 n221 c221] rfl (Nat.le_of_ble_eq_true rfl) rfl⟩, ⟨_, rfl, load_agg aggInt hb245 [.bool s237, .slice A237 n237 c237] rfl (Nat.le_of_ble_eq_true rfl) rfl⟩, rfl, trivial⟩ ?_
        exact ⟨_, rfl, ⟨_, _, _, rfl, ⟨_, _, _, _, rfl, (((z221.updT hb239 u241).updT hb244 u246)).cast (hq.1)⟩, ⟨_, _, _, _, rfl, (((z237.updT hb239 u241).updT hb244 u246)).cast (hq.2)⟩, rfl⟩, hw12⟩
  ·
    obtain rfl : s31 = false := by rw [z31.sgn]; exact decide_eq_false hr
    refine cw_region ?_
    refine wl_move rfl rfl (by decide) ?_
    refine wl_pure rfl rfl (v := .bool false) (by decide) (by kernel_rfl) ?_
    refine wl_move rfl rfl (by decide) ?_
    refine wl_pure rfl rfl (v := .pointer (some ⟨g38, 0, none⟩)) (by decide) (by kernel_rfl) ?_
    refine wl_load rfl rfl (load_cell cellBool hb51 rfl) (by decide) ?_
    refine wl_pure rfl rfl (v := .bool true) (by decide) (by kernel_rfl) ?_
    refine wl_pure rfl rfl (v := .bool true) (by decide) (by kernel_rfl) ?_
    refine wl_nil ?_
    refine eo_then ?_
    refine cw_true rfl ?_
    refine cw_seq ?_
    refine cw_keep [(0, .agg #[.bool sa, .slice Aa na ca]), (1, .agg #[.bool sb, .slice Ab nb cb]), (2, .pointer (some ⟨g1, 0, none⟩)), (3, .pointer (some ⟨g6, 0, none⟩)), (4, .pointer (some ⟨g12, 0, none⟩)), (5, .pointer (some ⟨g18, 0, none⟩)), (11, .agg #[.bool sa, .slice Aa na ca]), (12, .agg #[.bool sb, .slice Ab nb cb]), (13, .tuple #[.agg #[.bool s30, .slice A30 n30 c30], .agg #[.bool false, .slice A31 n31 c31], .int .i64 0]), (10, .tuple #[.agg #[.bool s30, .slice A30 n30 c30], .agg #[.bool false, .slice A31 n31 c31], .int .i64 0]), (14, .agg #[.bool s30, .slice A30 n30 c30]), (15, .agg #[.bool false, .slice A31 n31 c31]), (16, .int .i64 0), (7, .pointer (some ⟨g32, 0, none⟩)), (8, .pointer (some ⟨g38, 0, none⟩)), (9, .int .i64 0), (17, .int .i64 0), (18, .bool false), (19, .bool false), (20, .pointer (some ⟨g38, 0, none⟩)), (21, .bool false), (22, .bool true), (23, .bool true)] ⟨rfl, rfl, rfl, rfl, rfl, rfl, rfl, rfl, rfl, rfl, rfl, rfl, rfl, rfl, rfl, rfl, rfl, rfl, rfl, rfl, rfl, rfl, rfl, trivial⟩ ?_
    obtain ⟨v248, hv, e249⟩ : ∃ v, v = v49.drew ∧ Ext v49 v := ⟨_, rfl, (Ext.refl _).drew⟩
    have hw10 : Ext w v248 := hw9.trans e249
    have hb251 := ((((hb15.ext (e20.trans (e27.trans (e34.trans e40)))).updN u47 (by omega)).updN u52 (by omega)).ext e249)
    obtain ⟨v250, hr255, hb252, u253, hs254⟩ := run_stored (P := Tryd.prog) (us := [.bool s30, .slice A30 n30 c30]) (off := 0) aggInt rfl hb251 (Nat.le_of_ble_eq_true rfl) rfl [.bool s30, .slice A30 n30 c30] rfl
    have hw11 : Ext w v250 := u253.ext hw10 ge16
    have hb257 := (((((hb21.ext (e27.trans (e34.trans e40))).updN u47 (by omega)).updN u52 (by omega)).ext e249).updN u253 (by omega))
    obtain ⟨v256, hr261, hb258, u259, hs260⟩ := run_stored (P := Tryd.prog) (us := [.bool false, .slice A31 n31 c31]) (off := 0) aggInt rfl hb257 (Nat.le_of_ble_eq_true rfl) rfl [.bool false, .slice A31 n31 c31] rfl
    have hw12 : Ext w v256 := u259.ext hw11 ge22
    refine cw_det mix (w := v248) [.agg #[.bool s30, .slice A30 n30 c30], .agg #[.bool false, .slice A31 n31 c31], .int .i64 0, undef, undef, .int .i64 0] [v248, v250, v256] [3, 4] [[], [], [], [0], [1], [2]] [[], [], [], [0], [0, 1, 3], [0, 1, 2, 3, 4]] [(0, 0), (1, 0), (1, 1), (2, 0), (2, 1), (2, 2), (3, 0), (4, 1), (5, 2)] rfl hv ?_ ?_
    ·
      refine dobs_val ([(0, .agg #[.bool sa, .slice Aa na ca]), (1, .agg #[.bool sb, .slice Ab nb cb]), (2, .pointer (some ⟨g1, 0, none⟩)), (3, .pointer (some ⟨g6, 0, none⟩)), (4, .pointer (some ⟨g12, 0, none⟩)), (5, .pointer (some ⟨g18, 0, none⟩)), (11, .agg #[.bool sa, .slice Aa na ca]), (12, .agg #[.bool sb, .slice Ab nb cb]), (13, .tuple #[.agg #[.bool s30, .slice A30 n30 c30], .agg #[.bool false, .slice A31 n31 c31], .int .i64 0]), (10, .tuple #[.agg #[.bool s30, .slice A30 n30 c30], .agg #[.bool false, .slice A31 n31 c31], .int .i64 0]), (14, .agg #[.bool s30, .slice A30 n30 c30]), (15, .agg #[.bool false, .slice A31 n31 c31]), (16, .int .i64 0), (7, .pointer (some ⟨g32, 0, none⟩)), (8, .pointer (some ⟨g38, 0, none⟩)), (9, .int .i64 0), (17, .int .i64 0), (18, .bool false), (19, .bool false), (20, .pointer (some ⟨g38, 0, none⟩)), (21, .bool false), (22, .bool true), (23, .bool true)]) rfl rfl rfl rfl rfl (rd_load rfl (load_agg aggInt ((hb46.updN u52 (by omega)).ext e249) [.bool s30, .slice A30 n30 c30] rfl (Nat.le_of_ble_eq_true rfl) rfl)) ?_
      refine dobs_val ([(0, .agg #[.bool sa, .slice Aa na ca]), (1, .agg #[.bool sb, .slice Ab nb cb]), (2, .pointer (some ⟨g1, 0, none⟩)), (3, .pointer (some ⟨g6, 0, none⟩)), (4, .pointer (some ⟨g12, 0, none⟩)), (5, .pointer (some ⟨g18, 0, none⟩)), (11, .agg #[.bool sa, .slice Aa na ca]), (12, .agg #[.bool sb, .slice Ab nb cb]), (13, .tuple #[.agg #[.bool s30, .slice A30 n30 c30], .agg #[.bool false, .slice A31 n31 c31], .int .i64 0]), (10, .tuple #[.agg #[.bool s30, .slice A30 n30 c30], .agg #[.bool false, .slice A31 n31 c31], .int .i64 0]), (14, .agg #[.bool s30, .slice A30 n30 c30]), (15, .agg #[.bool false, .slice A31 n31 c31]), (16, .int .i64 0), (7, .pointer (some ⟨g32, 0, none⟩)), (8, .pointer (some ⟨g38, 0, none⟩)), (9, .int .i64 0), (17, .int .i64 0), (18, .bool false), (19, .bool false), (20, .pointer (some ⟨g38, 0, none⟩)), (21, .bool false), (22, .bool true), (23, .bool true)]) rfl rfl rfl rfl rfl (rd_load rfl (load_agg aggInt (hb51.ext e249) [.bool false, .slice A31 n31 c31] rfl (Nat.le_of_ble_eq_true rfl) rfl)) ?_
      refine dobs_val ([(0, .agg #[.bool sa, .slice Aa na ca]), (1, .agg #[.bool sb, .slice Ab nb cb]), (2, .pointer (some ⟨g1, 0, none⟩)), (3, .pointer (some ⟨g6, 0, none⟩)), (4, .pointer (some ⟨g12, 0, none⟩)), (5, .pointer (some ⟨g18, 0, none⟩)), (11, .agg #[.bool sa, .slice Aa na ca]), (12, .agg #[.bool sb, .slice Ab nb cb]), (13, .tuple #[.agg #[.bool s30, .slice A30 n30 c30], .agg #[.bool false, .slice A31 n31 c31], .int .i64 0]), (10, .tuple #[.agg #[.bool s30, .slice A30 n30 c30], .agg #[.bool false, .slice A31 n31 c31], .int .i64 0]), (14, .agg #[.bool s30, .slice A30 n30 c30]), (15, .agg #[.bool false, .slice A31 n31 c31]), (16, .int .i64 0), (7, .pointer (some ⟨g32, 0, none⟩)), (8, .pointer (some ⟨g38, 0, none⟩)), (9, .int .i64 0), (17, .int .i64 0), (18, .bool false), (19, .bool false), (20, .pointer (some ⟨g38, 0, none⟩)), (21, .bool false), (22, .bool true), (23, .bool true)]) rfl rfl rfl rfl rfl (rd_load rfl (load_agg aggInt ((hb51.ext e249).updN u253 (by omega)) [.bool false, .slice A31 n31 c31] rfl (Nat.le_of_ble_eq_true rfl) rfl)) ?_
      refine dobs_val ([(0, .agg #[.bool sa, .slice Aa na ca]), (1, .agg #[.bool sb, .slice Ab nb cb]), (2, .pointer (some ⟨g1, 0, none⟩)), (3, .pointer (some ⟨g6, 0, none⟩)), (4, .pointer (some ⟨g12, 0, none⟩)), (5, .pointer (some ⟨g18, 0, none⟩)), (11, .agg #[.bool sa, .slice Aa na ca]), (12, .agg #[.bool sb, .slice Ab nb cb]), (13, .tuple #[.agg #[.bool s30, .slice A30 n30 c30], .agg #[.bool false, .slice A31 n31 c31], .int .i64 0]), (10, .tuple #[.agg #[.bool s30, .slice A30 n30 c30], .agg #[.bool false, .slice A31 n31 c31], .int .i64 0]), (14, .agg #[.bool s30, .slice A30 n30 c30]), (15, .agg #[.bool false, .slice A31 n31 c31]), (16, .int .i64 0), (7, .pointer (some ⟨g32, 0, none⟩)), (8, .pointer (some ⟨g38, 0, none⟩)), (9, .int .i64 0), (17, .int .i64 0), (18, .bool false), (19, .bool false), (20, .pointer (some ⟨g38, 0, none⟩)), (21, .bool false), (22, .bool true), (23, .bool true)]) rfl rfl rfl rfl rfl (rd_move rfl) ?_
      refine dobs_val ([(0, .agg #[.bool sa, .slice Aa na ca]), (1, .agg #[.bool sb, .slice Ab nb cb]), (2, .pointer (some ⟨g1, 0, none⟩)), (3, .pointer (some ⟨g6, 0, none⟩)), (4, .pointer (some ⟨g12, 0, none⟩)), (5, .pointer (some ⟨g18, 0, none⟩)), (11, .agg #[.bool sa, .slice Aa na ca]), (12, .agg #[.bool sb, .slice Ab nb cb]), (13, .tuple #[.agg #[.bool s30, .slice A30 n30 c30], .agg #[.bool false, .slice A31 n31 c31], .int .i64 0]), (10, .tuple #[.agg #[.bool s30, .slice A30 n30 c30], .agg #[.bool false, .slice A31 n31 c31], .int .i64 0]), (14, .agg #[.bool s30, .slice A30 n30 c30]), (15, .agg #[.bool false, .slice A31 n31 c31]), (16, .int .i64 0), (7, .pointer (some ⟨g32, 0, none⟩)), (8, .pointer (some ⟨g38, 0, none⟩)), (9, .int .i64 0), (17, .int .i64 0), (18, .bool false), (19, .bool false), (20, .pointer (some ⟨g38, 0, none⟩)), (21, .bool false), (22, .bool true), (23, .bool true)]) rfl rfl rfl rfl rfl (rd_move rfl) ?_
      refine dobs_val ([(0, .agg #[.bool sa, .slice Aa na ca]), (1, .agg #[.bool sb, .slice Ab nb cb]), (2, .pointer (some ⟨g1, 0, none⟩)), (3, .pointer (some ⟨g6, 0, none⟩)), (4, .pointer (some ⟨g12, 0, none⟩)), (5, .pointer (some ⟨g18, 0, none⟩)), (11, .agg #[.bool sa, .slice Aa na ca]), (12, .agg #[.bool sb, .slice Ab nb cb]), (13, .tuple #[.agg #[.bool s30, .slice A30 n30 c30], .agg #[.bool false, .slice A31 n31 c31], .int .i64 0]), (10, .tuple #[.agg #[.bool s30, .slice A30 n30 c30], .agg #[.bool false, .slice A31 n31 c31], .int .i64 0]), (14, .agg #[.bool s30, .slice A30 n30 c30]), (15, .agg #[.bool false, .slice A31 n31 c31]), (16, .int .i64 0), (7, .pointer (some ⟨g32, 0, none⟩)), (8, .pointer (some ⟨g38, 0, none⟩)), (9, .int .i64 0), (17, .int .i64 0), (18, .bool false), (19, .bool false), (20, .pointer (some ⟨g38, 0, none⟩)), (21, .bool false), (22, .bool true), (23, .bool true)]) rfl rfl rfl rfl rfl (rd_move rfl) ?_
      refine dobs_sto ((24, .agg #[.bool s30, .slice A30 n30 c30]) :: [(0, .agg #[.bool sa, .slice Aa na ca]), (1, .agg #[.bool sb, .slice Ab nb cb]), (2, .pointer (some ⟨g1, 0, none⟩)), (3, .pointer (some ⟨g6, 0, none⟩)), (4, .pointer (some ⟨g12, 0, none⟩)), (5, .pointer (some ⟨g18, 0, none⟩)), (11, .agg #[.bool sa, .slice Aa na ca]), (12, .agg #[.bool sb, .slice Ab nb cb]), (13, .tuple #[.agg #[.bool s30, .slice A30 n30 c30], .agg #[.bool false, .slice A31 n31 c31], .int .i64 0]), (10, .tuple #[.agg #[.bool s30, .slice A30 n30 c30], .agg #[.bool false, .slice A31 n31 c31], .int .i64 0]), (14, .agg #[.bool s30, .slice A30 n30 c30]), (15, .agg #[.bool false, .slice A31 n31 c31]), (16, .int .i64 0), (7, .pointer (some ⟨g32, 0, none⟩)), (8, .pointer (some ⟨g38, 0, none⟩)), (9, .int .i64 0), (17, .int .i64 0), (18, .bool false), (19, .bool false), (20, .pointer (some ⟨g38, 0, none⟩)), (21, .bool false), (22, .bool true), (23, .bool true)]) rfl rfl rfl rfl rfl (rd_store rfl rfl hr255) ?_
      refine dobs_sto ((25, .agg #[.bool false, .slice A31 n31 c31]) :: [(0, .agg #[.bool sa, .slice Aa na ca]), (1, .agg #[.bool sb, .slice Ab nb cb]), (2, .pointer (some ⟨g1, 0, none⟩)), (3, .pointer (some ⟨g6, 0, none⟩)), (4, .pointer (some ⟨g12, 0, none⟩)), (5, .pointer (some ⟨g18, 0, none⟩)), (11, .agg #[.bool sa, .slice Aa na ca]), (12, .agg #[.bool sb, .slice Ab nb cb]), (13, .tuple #[.agg #[.bool s30, .slice A30 n30 c30], .agg #[.bool false, .slice A31 n31 c31], .int .i64 0]), (10, .tuple #[.agg #[.bool s30, .slice A30 n30 c30], .agg #[.bool false, .slice A31 n31 c31], .int .i64 0]), (14, .agg #[.bool s30, .slice A30 n30 c30]), (15, .agg #[.bool false, .slice A31 n31 c31]), (16, .int .i64 0), (7, .pointer (some ⟨g32, 0, none⟩)), (8, .pointer (some ⟨g38, 0, none⟩)), (9, .int .i64 0), (17, .int .i64 0), (18, .bool false), (19, .bool false), (20, .pointer (some ⟨g38, 0, none⟩)), (21, .bool false), (22, .bool true), (23, .bool true)]) rfl rfl rfl rfl rfl (rd_store rfl rfl hr261) ?_
      refine dobs_val ((26, .int .i64 0) :: [(0, .agg #[.bool sa, .slice Aa na ca]), (1, .agg #[.bool sb, .slice Ab nb cb]), (2, .pointer (some ⟨g1, 0, none⟩)), (3, .pointer (some ⟨g6, 0, none⟩)), (4, .pointer (some ⟨g12, 0, none⟩)), (5, .pointer (some ⟨g18, 0, none⟩)), (11, .agg #[.bool sa, .slice Aa na ca]), (12, .agg #[.bool sb, .slice Ab nb cb]), (13, .tuple #[.agg #[.bool s30, .slice A30 n30 c30], .agg #[.bool false, .slice A31 n31 c31], .int .i64 0]), (10, .tuple #[.agg #[.bool s30, .slice A30 n30 c30], .agg #[.bool false, .slice A31 n31 c31], .int .i64 0]), (14, .agg #[.bool s30, .slice A30 n30 c30]), (15, .agg #[.bool false, .slice A31 n31 c31]), (16, .int .i64 0), (7, .pointer (some ⟨g32, 0, none⟩)), (8, .pointer (some ⟨g38, 0, none⟩)), (9, .int .i64 0), (17, .int .i64 0), (18, .bool false), (19, .bool false), (20, .pointer (some ⟨g38, 0, none⟩)), (21, .bool false), (22, .bool true), (23, .bool true)]) rfl rfl rfl rfl rfl (rd_assign rfl) ?_
      exact dobs_nil
    clear hv
    refine eo_keep [(0, .agg #[.bool sa, .slice Aa na ca]), (1, .agg #[.bool sb, .slice Ab nb cb]), (2, .pointer (some ⟨g1, 0, none⟩)), (3, .pointer (some ⟨g6, 0, none⟩)), (4, .pointer (some ⟨g12, 0, none⟩)), (5, .pointer (some ⟨g18, 0, none⟩)), (11, .agg #[.bool sa, .slice Aa na ca]), (12, .agg #[.bool sb, .slice Ab nb cb]), (13, .tuple #[.agg #[.bool s30, .slice A30 n30 c30], .agg #[.bool false, .slice A31 n31 c31], .int .i64 0]), (10, .tuple #[.agg #[.bool s30, .slice A30 n30 c30], .agg #[.bool false, .slice A31 n31 c31], .int .i64 0]), (14, .agg #[.bool s30, .slice A30 n30 c30]), (15, .agg #[.bool false, .slice A31 n31 c31]), (16, .int .i64 0), (7, .pointer (some ⟨g32, 0, none⟩)), (8, .pointer (some ⟨g38, 0, none⟩)), (9, .int .i64 0), (17, .int .i64 0), (18, .bool false), (19, .bool false), (20, .pointer (some ⟨g38, 0, none⟩)), (21, .bool false), (22, .bool true), (23, .bool true), (24, .agg #[.bool s30, .slice A30 n30 c30]), (25, .agg #[.bool false, .slice A31 n31 c31]), (26, .int .i64 0), (6, .int .i64 0)] ⟨rfl, rfl, rfl, rfl, rfl, rfl, rfl, rfl, rfl, rfl, rfl, rfl, rfl, rfl, rfl, rfl, rfl, rfl, rfl, rfl, rfl, rfl, rfl, rfl, rfl, rfl, rfl, trivial⟩ ?_
    refine eo_then ?_
    refine cw_ret ?_
    refine eo_thenR ?_
    refine eo_ret [.agg #[.bool s30, .slice A30 n30 c30], .agg #[.bool false, .slice A31 n31 c31], .int .i64 0] rfl ⟨⟨_, rfl, load_agg aggInt (hb252.updN u259 (by omega)) [.bool s30, .slice A30 n30 c30] rfl (Nat.le_of_ble_eq_true rfl) rfl⟩, ⟨_, rfl, load_agg aggInt hb258 [.bool false, .slice A31 n31 c31] rfl (Nat.le_of_ble_eq_true rfl) rfl⟩, rfl, trivial⟩ ?_
    exact ⟨_, rfl, ⟨_, _, _, rfl, ⟨_, _, _, _, rfl, (((((((z30.ext (e34.trans e40)).updT hb45 u47).updT hb50 u52).ext e249).updT hb251 u253).updT hb257 u259)).cast ((ediv_pos (by omega)).1)⟩, ⟨_, _, _, _, rfl, (((((((z31.ext (e34.trans e40)).updT hb45 u47).updT hb50 u52).ext e249).updT hb251 u253).updT hb257 u259)).cast ((ediv_pos (by omega)).2)⟩, rfl⟩, hw12⟩
theorem g_zint_Euclid {w : World} {sa : Bool} {Aa : Option Addr} {na ca : Nat} {x : Int} {sb : Bool} {Ab : Option Addr} {nb cb : Nat} {y : Int} {b : Nat} (hb : b ≤ w.heap.size)  (hx : Zi w sa Aa na ca x) (la : na ≤ 68719476736) (hy : Zi w sb Ab nb cb y) (lb : nb ≤ 68719476736) (h0 : y ≠ 0) :
    Calls Tryd.prog 29 #[.agg #[.bool sa, .slice Aa na ca], .agg #[.bool sb, .slice Ab nb cb]] w (Gv w (T3 (ZR b (x / y)) (ZR b (x % y)) (Is (.int .i64 0)))) := (g_zint_EuclidI hx la hy lb h0).mono (Gv.imp (T3.imp (ZR.imp hb) (ZR.imp hb) Is.imp))
theorem Zi.sg_ {w : World} {s : Bool} {A : Option Addr} {n c : Nat} {z : Int} (h : Zi w s A n c z) : sg s z.natAbs = z := by
  obtain ⟨xs, h1, rfl⟩ := h
  rw [sg_abs]
theorem ln_ediv (x y : Int) : ln (x / y) ≤ ln x + 1 := by
  by_cases h : x.tmod y < 0
  · rcases Int.lt_trichotomy y 0 with hy | hy | hy
    · rw [← (ediv_neg' h hy).1]
      exact Nat.le_trans (ln_add (ln_tdiv x y) (Nat.le_refl _)) (by
        have h1 : x ≠ 0 := fun e => by subst e; simp at h
        have h2 : ln 1 = 1 := ln_one
        have h3 : 0 < ln x := by
          refine Nat.pos_of_ne_zero fun e => h1 ?_
          have := len_wd_zero.1 (show (wd x.natAbs).length = 0 from e)
          omega
        omega)
    · subst hy; simp [ln_zero]
    · rw [← (ediv_pos' h hy).1]
      exact Nat.le_trans (ln_sub (ln_tdiv x y) (Nat.le_refl _)) (by
        have h1 : x ≠ 0 := fun e => by subst e; simp at h
        have h2 : ln 1 = 1 := ln_one
        have h3 : 0 < ln x := by
          refine Nat.pos_of_ne_zero fun e => h1 ?_
          have := len_wd_zero.1 (show (wd x.natAbs).length = 0 from e)
          omega
        omega)
  · rw [← (ediv_pos (by omega)).1]
    exact Nat.le_trans (ln_tdiv x y) (Nat.le_succ _)
theorem ln_emod {x y : Int} (h : y ≠ 0) : ln (x % y) ≤ ln y := by
  refine ln_mono ?_
  have h1 := Int.emod_nonneg x h
  have h2 := Int.emod_lt x h
  omega
set_option maxHeartbeats 4000000 in
theorem g_zint_Exact_badI {w : World} {sa : Bool} {Aa : Option Addr} {na ca : Nat} {x : Int} {sb : Bool} {Ab : Option Addr} {nb cb : Nat} {y : Int} (hx : Zi w sa Aa na ca x) (la : na ≤ 68719476736) (hy : Zi w sb Ab nb cb y) (lb : nb ≤ 68719476736) (h0 : y = 0) :
    Calls Tryd.prog 30 #[.agg #[.bool sa, .slice Aa na ca], .agg #[.bool sb, .slice Ab nb cb]] w (Gv w (T2 (ZR w.heap.size (0)) (Is (.int .i64 4)))) := by
  have Lx : ln x ≤ 68719476736 := Nat.le_trans hx.ln la
  have Ly : ln y ≤ 68719476736 := Nat.le_trans hy.ln lb
  refine sx_enter Tryd.func30 rfl (n := 27) rfl (Nat.le_of_ble_eq_true rfl) (args := [.agg #[.bool sa, .slice Aa na ca], .agg #[.bool sb, .slice Ab nb cb]]) ?_
  refine cw_keep [(0, .agg #[.bool sa, .slice Aa na ca]), (1, .agg #[.bool sb, .slice Ab nb cb])] ⟨rfl, rfl, trivial⟩ ?_
  refine cw_seq ?_
  refine cw_region ?_
  refine wl_box rfl rfl (vs := [.bool sa, .slice Aa na ca]) rfl (by decide) fun g1 v2 nb => ?_
  have hb4 := nb.bk
  have ge5 : w.heap.size ≤ g1 := by rw [← nb.at_]; exact (Ext.refl w).size
  have e3 := nb.ext
  clear nb
  have hw1 : Ext w v2 := (Ext.refl w).trans e3
  refine wl_box rfl rfl (vs := [.bool sb, .slice Ab nb cb]) rfl (by decide) fun g6 v7 nb => ?_
  have hb9 := nb.bk
  have ge10 : w.heap.size ≤ g6 := by rw [← nb.at_]; exact hw1.size
  have q11 : g1 < g6 := by rw [← nb.at_]; exact hb4.lt
  have e8 := nb.ext
  clear nb
  have hw2 : Ext w v7 := hw1.trans e8
  refine wl_alloc rfl (z := .agg #[.bool false, .slice none 0 0]) (vs := [.bool false, .slice none 0 0]) (fun _ => by kernel_rfl) rfl (by decide) fun g12 v13 nb => ?_
  have hb15 := nb.bk
  have ge16 : w.heap.size ≤ g12 := by rw [← nb.at_]; exact hw2.size
  have q17 : g6 < g12 := by rw [← nb.at_]; exact hb9.lt
  have e14 := nb.ext
  clear nb
  have hw3 : Ext w v13 := hw2.trans e14
  refine wl_assign rfl rfl (by decide) ?_
  refine wl_nil ?_
  refine eo_then ?_
  refine cw_seq ?_
  refine cw_region ?_
  refine wl_pure rfl rfl (v := .pointer (some ⟨g1, 1, none⟩)) (by decide) (by kernel_rfl) ?_
  refine wl_load rfl rfl (load_cell cellWords (hb4.ext (e8.trans e14)) rfl) (by decide) ?_
  refine wl_pure rfl rfl (v := .pointer (some ⟨g6, 1, none⟩)) (by decide) (by kernel_rfl) ?_
  refine wl_load rfl rfl (load_cell cellWords (hb9.ext e14) rfl) (by decide) ?_
  refine wl_call rfl rfl (vs := [.slice Aa na ca, .slice Ab nb cb]) (by kernel_rfl) (by decide) (g_divnat_Exact_bad (i := 0) (hy.ext hw3).wi (Nat.le_trans lb (by decide)) (by omega)) ?_
  rintro _ v18 ⟨xr20, rfl, r20, e19⟩
  refine ret_intro ?_
  have hw4 : Ext w v18 := hw3.trans e19
  obtain rfl := r20
  refine wl_move rfl rfl (by decide) ?_
  refine wl_pure rfl rfl (v := .slice none 0 0) (by decide) (by kernel_rfl) ?_
  refine wl_pure rfl rfl (v := .int .i64 4) (by decide) (by kernel_rfl) ?_
  refine wl_assign rfl rfl (by decide) ?_
  refine wl_assign rfl rfl (by decide) ?_
  refine wl_nil ?_
  refine eo_then ?_
  refine cw_seq ?_
  refine cw_seq ?_
  refine cw_region ?_
  refine wl_move rfl rfl (by decide) ?_
  refine wl_pure rfl rfl (v := .bool true) (by decide) (by kernel_rfl) ?_
  refine wl_nil ?_
  refine eo_then ?_
  refine cw_true rfl ?_
  refine cw_seq ?_
  refine cw_region ?_
  refine wl_pure rfl rfl (v := .agg #[.bool false, .slice none 0 0]) (by decide) (by kernel_rfl) ?_
  refine wl_move rfl rfl (by decide) ?_
  have hb22 := (hb15.ext e19)
  refine wl_stored rfl rfl rfl aggInt rfl hb22 (Nat.le_of_ble_eq_true rfl) rfl [.bool false, .slice none 0 0] rfl fun v21 hb23 u24 hs25 => ?_
  have hw5 : Ext w v21 := u24.ext hw4 ge16
  refine wl_assign rfl rfl (by decide) ?_
  refine wl_nil ?_
  refine eo_then ?_
  refine cw_ret ?_
  refine eo_thenR ?_
  refine eo_ret [.agg #[.bool false, .slice none 0 0], .int .i64 4] rfl ⟨⟨_, rfl, load_agg aggInt hb23 [.bool false, .slice none 0 0] rfl (Nat.le_of_ble_eq_true rfl) rfl⟩, rfl, trivial⟩ ?_
  exact ⟨_, rfl, ⟨_, _, rfl, ⟨_, _, _, _, rfl, ((Zr.zero (w := v18) (base := w.heap.size)).updT hb22 u24)⟩, rfl⟩, hw5⟩
theorem g_zint_Exact_bad {w : World} {sa : Bool} {Aa : Option Addr} {na ca : Nat} {x : Int} {sb : Bool} {Ab : Option Addr} {nb cb : Nat} {y : Int} {b : Nat} (hb : b ≤ w.heap.size)  (hx : Zi w sa Aa na ca x) (la : na ≤ 68719476736) (hy : Zi w sb Ab nb cb y) (lb : nb ≤ 68719476736) (h0 : y = 0) :
    Calls Tryd.prog 30 #[.agg #[.bool sa, .slice Aa na ca], .agg #[.bool sb, .slice Ab nb cb]] w (Gv w (T2 (ZR b (0)) (Is (.int .i64 4)))) := (g_zint_Exact_badI hx la hy lb h0).mono (Gv.imp (T2.imp (ZR.imp hb) Is.imp))
set_option maxHeartbeats 4000000 in
theorem g_zint_Exact_notI {w : World} {sa : Bool} {Aa : Option Addr} {na ca : Nat} {x : Int} {sb : Bool} {Ab : Option Addr} {nb cb : Nat} {y : Int} (hx : Zi w sa Aa na ca x) (la : na ≤ 68719476736) (hy : Zi w sb Ab nb cb y) (lb : nb ≤ 68719476736) (h0 : y ≠ 0) (hd : x.natAbs % y.natAbs ≠ 0) :
    Calls Tryd.prog 30 #[.agg #[.bool sa, .slice Aa na ca], .agg #[.bool sb, .slice Ab nb cb]] w (Gv w (T2 (ZR w.heap.size (0)) (Is (.int .i64 8)))) := by
  have Lx : ln x ≤ 68719476736 := Nat.le_trans hx.ln la
  have Ly : ln y ≤ 68719476736 := Nat.le_trans hy.ln lb
  refine sx_enter Tryd.func30 rfl (n := 27) rfl (Nat.le_of_ble_eq_true rfl) (args := [.agg #[.bool sa, .slice Aa na ca], .agg #[.bool sb, .slice Ab nb cb]]) ?_
  refine cw_keep [(0, .agg #[.bool sa, .slice Aa na ca]), (1, .agg #[.bool sb, .slice Ab nb cb])] ⟨rfl, rfl, trivial⟩ ?_
  refine cw_seq ?_
  refine cw_region ?_
  refine wl_box rfl rfl (vs := [.bool sa, .slice Aa na ca]) rfl (by decide) fun g1 v2 nb => ?_
  have hb4 := nb.bk
  have ge5 : w.heap.size ≤ g1 := by rw [← nb.at_]; exact (Ext.refl w).size
  have e3 := nb.ext
  clear nb
  have hw1 : Ext w v2 := (Ext.refl w).trans e3
  refine wl_box rfl rfl (vs := [.bool sb, .slice Ab nb cb]) rfl (by decide) fun g6 v7 nb => ?_
  have hb9 := nb.bk
  have ge10 : w.heap.size ≤ g6 := by rw [← nb.at_]; exact hw1.size
  have q11 : g1 < g6 := by rw [← nb.at_]; exact hb4.lt
  have e8 := nb.ext
  clear nb
  have hw2 : Ext w v7 := hw1.trans e8
  refine wl_alloc rfl (z := .agg #[.bool false, .slice none 0 0]) (vs := [.bool false, .slice none 0 0]) (fun _ => by kernel_rfl) rfl (by decide) fun g12 v13 nb => ?_
  have hb15 := nb.bk
  have ge16 : w.heap.size ≤ g12 := by rw [← nb.at_]; exact hw2.size
  have q17 : g6 < g12 := by rw [← nb.at_]; exact hb9.lt
  have e14 := nb.ext
  clear nb
  have hw3 : Ext w v13 := hw2.trans e14
  refine wl_assign rfl rfl (by decide) ?_
  refine wl_nil ?_
  refine eo_then ?_
  refine cw_seq ?_
  refine cw_region ?_
  refine wl_pure rfl rfl (v := .pointer (some ⟨g1, 1, none⟩)) (by decide) (by kernel_rfl) ?_
  refine wl_load rfl rfl (load_cell cellWords (hb4.ext (e8.trans e14)) rfl) (by decide) ?_
  refine wl_pure rfl rfl (v := .pointer (some ⟨g6, 1, none⟩)) (by decide) (by kernel_rfl) ?_
  refine wl_load rfl rfl (load_cell cellWords (hb9.ext e14) rfl) (by decide) ?_
  refine wl_call rfl rfl (vs := [.slice Aa na ca, .slice Ab nb cb]) (by kernel_rfl) (by decide) (g_divnat_Exact_not (hx.ext hw3).wi (Nat.le_trans la (by decide)) (hy.ext hw3).wi (Nat.le_trans lb (by decide)) (by omega) hd) ?_
  rintro _ v18 ⟨xr20, rfl, r20, e19⟩
  refine ret_intro ?_
  have hw4 : Ext w v18 := hw3.trans e19
  obtain rfl := r20
  refine wl_move rfl rfl (by decide) ?_
  refine wl_pure rfl rfl (v := .slice none 0 0) (by decide) (by kernel_rfl) ?_
  refine wl_pure rfl rfl (v := .int .i64 8) (by decide) (by kernel_rfl) ?_
  refine wl_assign rfl rfl (by decide) ?_
  refine wl_assign rfl rfl (by decide) ?_
  refine wl_nil ?_
  refine eo_then ?_
  refine cw_seq ?_
  refine cw_seq ?_
  refine cw_region ?_
  refine wl_move rfl rfl (by decide) ?_
  refine wl_pure rfl rfl (v := .bool true) (by decide) (by kernel_rfl) ?_
  refine wl_nil ?_
  refine eo_then ?_
  refine cw_true rfl ?_
  refine cw_seq ?_
  refine cw_region ?_
  refine wl_pure rfl rfl (v := .agg #[.bool false, .slice none 0 0]) (by decide) (by kernel_rfl) ?_
  refine wl_move rfl rfl (by decide) ?_
  have hb22 := (hb15.ext e19)
  refine wl_stored rfl rfl rfl aggInt rfl hb22 (Nat.le_of_ble_eq_true rfl) rfl [.bool false, .slice none 0 0] rfl fun v21 hb23 u24 hs25 => ?_
  have hw5 : Ext w v21 := u24.ext hw4 ge16
  refine wl_assign rfl rfl (by decide) ?_
  refine wl_nil ?_
  refine eo_then ?_
  refine cw_ret ?_
  refine eo_thenR ?_
  refine eo_ret [.agg #[.bool false, .slice none 0 0], .int .i64 8] rfl ⟨⟨_, rfl, load_agg aggInt hb23 [.bool false, .slice none 0 0] rfl (Nat.le_of_ble_eq_true rfl) rfl⟩, rfl, trivial⟩ ?_
  exact ⟨_, rfl, ⟨_, _, rfl, ⟨_, _, _, _, rfl, ((Zr.zero (w := v18) (base := w.heap.size)).updT hb22 u24)⟩, rfl⟩, hw5⟩
theorem g_zint_Exact_not {w : World} {sa : Bool} {Aa : Option Addr} {na ca : Nat} {x : Int} {sb : Bool} {Ab : Option Addr} {nb cb : Nat} {y : Int} {b : Nat} (hb : b ≤ w.heap.size)  (hx : Zi w sa Aa na ca x) (la : na ≤ 68719476736) (hy : Zi w sb Ab nb cb y) (lb : nb ≤ 68719476736) (h0 : y ≠ 0) (hd : x.natAbs % y.natAbs ≠ 0) :
    Calls Tryd.prog 30 #[.agg #[.bool sa, .slice Aa na ca], .agg #[.bool sb, .slice Ab nb cb]] w (Gv w (T2 (ZR b (0)) (Is (.int .i64 8)))) := (g_zint_Exact_notI hx la hy lb h0 hd).mono (Gv.imp (T2.imp (ZR.imp hb) Is.imp))
set_option maxHeartbeats 4000000 in
theorem g_zint_Exact_okI {w : World} {sa : Bool} {Aa : Option Addr} {na ca : Nat} {x : Int} {sb : Bool} {Ab : Option Addr} {nb cb : Nat} {y : Int} (hx : Zi w sa Aa na ca x) (la : na ≤ 68719476736) (hy : Zi w sb Ab nb cb y) (lb : nb ≤ 68719476736) (h0 : y ≠ 0) (hd : x.natAbs % y.natAbs = 0) :
    Calls Tryd.prog 30 #[.agg #[.bool sa, .slice Aa na ca], .agg #[.bool sb, .slice Ab nb cb]] w (Gv w (T2 (ZR w.heap.size (x.tdiv y)) (Is (.int .i64 0)))) := by
  have Lx : ln x ≤ 68719476736 := Nat.le_trans hx.ln la
  have Ly : ln y ≤ 68719476736 := Nat.le_trans hy.ln lb
  refine sx_enter Tryd.func30 rfl (n := 27) rfl (Nat.le_of_ble_eq_true rfl) (args := [.agg #[.bool sa, .slice Aa na ca], .agg #[.bool sb, .slice Ab nb cb]]) ?_
  refine cw_keep [(0, .agg #[.bool sa, .slice Aa na ca]), (1, .agg #[.bool sb, .slice Ab nb cb])] ⟨rfl, rfl, trivial⟩ ?_
  refine cw_seq ?_
  refine cw_region ?_
  refine wl_box rfl rfl (vs := [.bool sa, .slice Aa na ca]) rfl (by decide) fun g1 v2 nb => ?_
  have hb4 := nb.bk
  have ge5 : w.heap.size ≤ g1 := by rw [← nb.at_]; exact (Ext.refl w).size
  have e3 := nb.ext
  clear nb
  have hw1 : Ext w v2 := (Ext.refl w).trans e3
  refine wl_box rfl rfl (vs := [.bool sb, .slice Ab nb cb]) rfl (by decide) fun g6 v7 nb => ?_
  have hb9 := nb.bk
  have ge10 : w.heap.size ≤ g6 := by rw [← nb.at_]; exact hw1.size
  have q11 : g1 < g6 := by rw [← nb.at_]; exact hb4.lt
  have e8 := nb.ext
  clear nb
  have hw2 : Ext w v7 := hw1.trans e8
  refine wl_alloc rfl (z := .agg #[.bool false, .slice none 0 0]) (vs := [.bool false, .slice none 0 0]) (fun _ => by kernel_rfl) rfl (by decide) fun g12 v13 nb => ?_
  have hb15 := nb.bk
  have ge16 : w.heap.size ≤ g12 := by rw [← nb.at_]; exact hw2.size
  have q17 : g6 < g12 := by rw [← nb.at_]; exact hb9.lt
  have e14 := nb.ext
  clear nb
  have hw3 : Ext w v13 := hw2.trans e14
  refine wl_assign rfl rfl (by decide) ?_
  refine wl_nil ?_
  refine eo_then ?_
  refine cw_seq ?_
  refine cw_region ?_
  refine wl_pure rfl rfl (v := .pointer (some ⟨g1, 1, none⟩)) (by decide) (by kernel_rfl) ?_
  refine wl_load rfl rfl (load_cell cellWords (hb4.ext (e8.trans e14)) rfl) (by decide) ?_
  refine wl_pure rfl rfl (v := .pointer (some ⟨g6, 1, none⟩)) (by decide) (by kernel_rfl) ?_
  refine wl_load rfl rfl (load_cell cellWords (hb9.ext e14) rfl) (by decide) ?_
  have L1 : (wd (x.natAbs / y.natAbs)).length ≤ 68719476736 := Nat.le_trans (len_wd_mono (Nat.div_le_self _ _)) Lx
  refine wl_call rfl rfl (vs := [.slice Aa na ca, .slice Ab nb cb]) (by kernel_rfl) (by decide) (g_divnat_Exact hw3.size (hx.ext hw3).wi (Nat.le_trans la (by decide)) (hy.ext hw3).wi (Nat.le_trans lb (by decide)) (by omega) hd) ?_
  rintro _ v18 ⟨xr20, rfl, r20, e19⟩
  refine ret_intro ?_
  have hw4 : Ext w v18 := hw3.trans e19
  obtain ⟨a21_0, a21_1, rfl, r21_0, r21_1⟩ := r20
  obtain ⟨A22, n22, c22, rfl, j22, o22⟩ := r21_0
  obtain rfl := r21_1
  refine wl_move rfl rfl (by decide) ?_
  refine wl_pure rfl rfl (v := .slice A22 n22 c22) (by decide) (by kernel_rfl) ?_
  refine wl_pure rfl rfl (v := .int .i64 0) (by decide) (by kernel_rfl) ?_
  refine wl_assign rfl rfl (by decide) ?_
  refine wl_assign rfl rfl (by decide) ?_
  refine wl_nil ?_
  refine eo_then ?_
  refine cw_seq ?_
  refine cw_seq ?_
  refine cw_region ?_
  refine wl_move rfl rfl (by decide) ?_
  refine wl_pure rfl rfl (v := .bool false) (by decide) (by kernel_rfl) ?_
  refine wl_nil ?_
  refine eo_then ?_
  refine cw_false rfl ?_
  refine cw_skip ?_
  refine eo_then ?_
  refine cw_seq ?_
  refine cw_region ?_
  refine wl_pure rfl rfl (v := .pointer (some ⟨g1, 0, none⟩)) (by decide) (by kernel_rfl) ?_
  refine wl_load rfl rfl (load_cell cellBool (hb4.ext (e8.trans (e14.trans e19))) rfl) (by decide) ?_
  refine wl_pure rfl rfl (v := .pointer (some ⟨g6, 0, none⟩)) (by decide) (by kernel_rfl) ?_
  refine wl_load rfl rfl (load_cell cellBool (hb9.ext (e14.trans e19)) rfl) (by decide) ?_
  refine wl_pure rfl rfl (v := .bool (!(sa == sb))) (by decide) (by kernel_rfl) ?_
  refine wl_move rfl rfl (by decide) ?_
  have L23 : ln (sg (!(sa == sb)) (Int.natAbs x / Int.natAbs y)) ≤ 68719476736 := (show (wd (sg _ _).natAbs).length ≤ _ by rw [sg_abs]; exact L1)
  refine wl_call rfl rfl (vs := [.bool (!(sa == sb)), .slice A22 n22 c22]) (by kernel_rfl) (by decide) (g_zint_of j22 o22) ?_
  rintro _ v24 ⟨xr26, rfl, r26, e25⟩
  refine ret_intro ?_
  have hw5 : Ext w v24 := hw4.trans e25
  obtain ⟨s27, A27, n27, c27, rfl, z27⟩ := r26
  have hb29 := (hb15.ext (e19.trans e25))
  refine wl_stored rfl rfl rfl aggInt rfl hb29 (Nat.le_of_ble_eq_true rfl) rfl [.bool s27, .slice A27 n27 c27] rfl fun v28 hb30 u31 hs32 => ?_
  have hw6 : Ext w v28 := u31.ext hw5 ge16
  refine wl_assign rfl rfl (by decide) ?_
  refine wl_nil ?_
  refine eo_then ?_
  refine cw_ret ?_
  refine eo_ret [.agg #[.bool s27, .slice A27 n27 c27], .int .i64 0] rfl ⟨⟨_, rfl, load_agg aggInt hb30 [.bool s27, .slice A27 n27 c27] rfl (Nat.le_of_ble_eq_true rfl) rfl⟩, rfl, trivial⟩ ?_
  exact ⟨_, rfl, ⟨_, _, rfl, ⟨_, _, _, _, rfl, ((z27.updT hb29 u31)).cast (by rw [show (!(sa == sb)) = (sa != sb) from rfl, sg_tdiv, hx.sg_, hy.sg_])⟩, rfl⟩, hw6⟩
theorem g_zint_Exact_ok {w : World} {sa : Bool} {Aa : Option Addr} {na ca : Nat} {x : Int} {sb : Bool} {Ab : Option Addr} {nb cb : Nat} {y : Int} {b : Nat} (hb : b ≤ w.heap.size)  (hx : Zi w sa Aa na ca x) (la : na ≤ 68719476736) (hy : Zi w sb Ab nb cb y) (lb : nb ≤ 68719476736) (h0 : y ≠ 0) (hd : x.natAbs % y.natAbs = 0) :
    Calls Tryd.prog 30 #[.agg #[.bool sa, .slice Aa na ca], .agg #[.bool sb, .slice Ab nb cb]] w (Gv w (T2 (ZR b (x.tdiv y)) (Is (.int .i64 0)))) := (g_zint_Exact_okI hx la hy lb h0 hd).mono (Gv.imp (T2.imp (ZR.imp hb) Is.imp))
end Go.Proofs.YtmjdmjflgiicaaaDoor

namespace Go.Proofs.YtmjdmjflgiicaaaDoor
open Go.RowKit
structure ZC where
  s : Bool
  A : Option Addr
  n : Nat
  c : Nat
/-- what the steps of Ext keep -/
structure ExtI (x y r0 r1 m0 m1 : Int) : Prop where
  nn0 : 0 ≤ r0
  nn1 : 0 ≤ r1
  gcd : Int.gcd r0 r1 = Int.gcd x y
  d0 : y ∣ r0 - m0 * x.natAbs
  d1 : y ∣ r1 - m1 * x.natAbs
  bal : m1.natAbs * r0.natAbs + m0.natAbs * r1.natAbs = y.natAbs
  sgn : m0 * m1 ≤ 0
  b0 : r0.natAbs ≤ max x.natAbs y.natAbs
  b1 : r1.natAbs ≤ y.natAbs
  mb0 : m0.natAbs ≤ y.natAbs
  mb1 : m1.natAbs ≤ y.natAbs
theorem natAbs_opp {a b c : Int} (h : a * b ≤ 0) (hc : 0 ≤ c) : (a - c * b).natAbs = a.natAbs + c.natAbs * b.natAbs := by
  rw [← Int.natAbs_mul]
  have h2 : a * (c * b) ≤ 0 := by
    have : a * (c * b) = c * (a * b) := by grind
    rw [this]
    exact Int.mul_nonpos_of_nonneg_of_nonpos hc h
  rcases Int.lt_trichotomy a 0 with ha | ha | ha
  · have : 0 ≤ c * b := by
      refine Int.le_of_not_gt fun hl => ?_
      have := Int.mul_pos_of_neg_of_neg ha hl
      omega
    omega
  · subst ha; simp
  · have : c * b ≤ 0 := by
      refine Int.le_of_not_gt fun hl => ?_
      have := Int.mul_pos ha hl
      omega
    omega
theorem ExtI.step {x y r0 r1 m0 m1 : Int} (h : ExtI x y r0 r1 m0 m1) (hr : r1 ≠ 0) : ExtI x y r1 (r0.tmod r1) m1 (m0 - r0.tdiv r1 * m1) := by
  have e := Int.tdiv_mul_add_tmod r0 r1
  have nn := Int.tmod_nonneg r1 h.nn0
  have hq : 0 ≤ r0.tdiv r1 := Int.tdiv_nonneg h.nn0 h.nn1
  have hlt : r0.tmod r1 < r1 := Int.tmod_lt_of_pos _ (by have := h.nn1; omega)
  have hab := natAbs_opp h.sgn hq
  have hbal : (m0 - r0.tdiv r1 * m1).natAbs * r1.natAbs + m1.natAbs * (r0.tmod r1).natAbs = y.natAbs := by
    rw [hab, ← h.bal]
    have e2 : r0.natAbs = (r0.tdiv r1).natAbs * r1.natAbs + (r0.tmod r1).natAbs := by
      rw [← Int.natAbs_mul, ← Int.natAbs_add_of_nonneg (Int.mul_nonneg hq h.nn1) nn, e]
    rw [e2]
    grind
  refine ⟨h.nn1, nn, ?_, h.d1, ?_, hbal, ?_, Nat.le_trans h.b1 (Nat.le_max_right _ _), ?_, h.mb1, ?_⟩
  · rw [← h.gcd]
    have : Int.gcd r0 r1 = Int.gcd (r0.tmod r1 + r1 * r0.tdiv r1) r1 := by
      congr 1
      rw [Int.mul_comm]; omega
    rw [this, Int.gcd_add_mul_left_left, Int.gcd_comm]
  · have e3 : r0.tmod r1 - (m0 - r0.tdiv r1 * m1) * x.natAbs = (r0 - m0 * x.natAbs) - r0.tdiv r1 * (r1 - m1 * x.natAbs) := by
      have : r0.tmod r1 = r0 - r0.tdiv r1 * r1 := by omega
      rw [this]; grind
    rw [e3]
    exact Int.dvd_sub h.d0 (Int.dvd_mul_of_dvd_right h.d1)
  · have e4 : m1 * (m0 - r0.tdiv r1 * m1) = m0 * m1 - r0.tdiv r1 * (m1 * m1) := by grind
    rw [e4]
    have h1 : 0 ≤ m1 * m1 := by
      rcases Int.le_total 0 m1 with h | h
      · exact Int.mul_nonneg h h
      · exact Int.mul_nonneg_of_nonpos_of_nonpos h h
    have := Int.mul_nonneg hq h1
    have := h.sgn
    omega
  · have := h.b1
    have h2 : (r0.tmod r1).natAbs ≤ r1.natAbs := by omega
    omega
  · have h1 : 1 ≤ r1.natAbs := by omega
    have h2 : (m0 - r0.tdiv r1 * m1).natAbs ≤ (m0 - r0.tdiv r1 * m1).natAbs * r1.natAbs := Nat.le_mul_of_pos_right _ h1
    omega
/-- the numbers of Bezout's identity, as they are chosen -/
structure Bez (x y u v : Int) : Prop where
  zero : y = 0 → u = x.sign ∧ v = 0
  eq : x * u + y * v = Int.gcd x y
  lo : y ≠ 0 → 0 ≤ u
  hi : y ≠ 0 → u * Int.gcd x y < y.natAbs
/-- behind the steps -/
theorem ExtI.done {x y r0 m0 m1 z : Int} (h : ExtI x y r0 0 m0 m1) (hy : y ≠ 0) (hz : z = if x < 0 then -m0 else m0) :
    r0 = (Int.gcd x y : Int) ∧ r0 ≠ 0 ∧ y.tdiv r0 ≠ 0 ∧ y.natAbs % r0.natAbs = 0 ∧ (r0 - x * (z % y.tdiv r0)).natAbs % y.natAbs = 0 ∧ Bez x y (z % y.tdiv r0) ((r0 - x * (z % y.tdiv r0)).tdiv y) := by
  have hg := h.gcd
  rw [Int.gcd_zero_right] at hg
  have e0 : r0 = (Int.gcd x y : Int) := by have := h.nn0; omega
  have hpos : 0 < Int.gcd x y := Int.gcd_pos_of_ne_zero_right x hy
  have hr0 : r0 ≠ 0 := by omega
  obtain ⟨p, hp⟩ := Int.gcd_dvd_right x y
  obtain ⟨q, hq⟩ := Int.gcd_dvd_left x y
  rw [← e0] at hp hq
  have hpd : y.tdiv r0 = p := by rw [hp]; exact Int.mul_tdiv_cancel_left _ hr0
  have hp0 : p ≠ 0 := fun e => hy (by rw [hp, e, Int.mul_zero])
  have hz1 : y ∣ r0 - x * z := by
    have hd := h.d0
    have hx : x * z = m0 * x.natAbs := by
      rw [hz]
      by_cases hn : x < 0
      · rw [if_pos hn]
        have : (x.natAbs : Int) = -x := by omega
        rw [this]; grind
      · rw [if_neg hn]
        have : (x.natAbs : Int) = x := by omega
        rw [this]; grind
    rw [hx]; exact hd
  have hm := Int.mul_ediv_add_emod z p
  have hdvd : y ∣ r0 - x * (z % p) := by
    have e1 : r0 - x * (z % p) = (r0 - x * z) + y * (q * (z / p)) := by
      have e2 : z % p = z - p * (z / p) := by omega
      have e3 : x * (p * (z / p)) = y * (q * (z / p)) := by
        calc x * (p * (z / p)) = (r0 * q) * (p * (z / p)) := by rw [← hq]
          _ = (r0 * p) * (q * (z / p)) := by grind
          _ = y * (q * (z / p)) := by rw [← hp]
      rw [e2, Int.mul_sub, e3]
      omega
    rw [e1]
    exact Int.dvd_add hz1 (Int.dvd_mul_right _ _)
  refine ⟨e0, hr0, by rw [hpd]; exact hp0, ?_, ?_, ?_⟩
  · refine Nat.mod_eq_zero_of_dvd (Int.natAbs_dvd_natAbs.2 ⟨p, hp⟩)
  · rw [hpd]
    exact Nat.mod_eq_zero_of_dvd (Int.natAbs_dvd_natAbs.2 hdvd)
  · rw [hpd]
    refine ⟨fun e => absurd e hy, ?_, fun _ => Int.emod_nonneg _ hp0, fun _ => ?_⟩
    · have := Int.mul_tdiv_cancel' hdvd
      rw [← e0]
      omega
    · rw [← e0]
      have h1 := Int.emod_lt z hp0
      have h2 : (z % p) * r0 < p.natAbs * r0 := Int.mul_lt_mul_of_pos_right h1 (by omega)
      have h3 : (y.natAbs : Int) = p.natAbs * r0 := by
        rw [hp, Int.natAbs_mul]
        have : (r0.natAbs : Int) = r0 := by omega
        rw [Int.natCast_mul, this, Int.mul_comm]
      omega
end Go.Proofs.YtmjdmjflgiicaaaDoor

namespace Go.Proofs.YtmjdmjflgiicaaaDoor
open Go.RowKit
def ZC.zero : ZC := ⟨false, none, 0, 0⟩
def zcells : List ZC → List Value
  | [] => []
  | e :: r => .bool e.s :: .slice e.A e.n e.c :: zcells r
theorem zcells_get0 : ∀ (es : List ZC) (i : Nat), i < es.length → (zcells es)[i * 2]? = some (.bool (es.getD i ZC.zero).s)
  | [], i, h => by simp at h
  | e :: r, 0, h => rfl
  | e :: r, i + 1, h => by
    have := zcells_get0 r i (by simpa using h)
    simpa [zcells, Nat.add_mul] using this
theorem zcells_get1 : ∀ (es : List ZC) (i : Nat), i < es.length → (zcells es)[i * 2 + 1]? = some (.slice (es.getD i ZC.zero).A (es.getD i ZC.zero).n (es.getD i ZC.zero).c)
  | [], i, h => by simp at h
  | e :: r, 0, h => rfl
  | e :: r, i + 1, h => by
    have := zcells_get1 r i (by simpa using h)
    simpa [zcells, Nat.add_mul] using this
theorem Zl.at {w : World} {A : Option Addr} {n cap : Nat} {zs : List Int} {ms : List Nat} (h : Zl w A n cap zs ms) {i : Nat} (hi : i < n) :
    ∃ p s B c, A.map (·.add (i * 2)) = some p ∧ (∀ w', Ext w w' → ∀ (P : Program) (T : TypeId), AggT P T 2 → (loadVar T p).run P w' = .ok (.agg #[.bool s, .slice B (ms.getD i 0) c]) w') ∧ Zi w s B (ms.getD i 0) c (zs.getD i 0) := by
  obtain ⟨a, s, B, c, rfl, h1, h2, h3⟩ := h.get i hi
  refine ⟨a.add (i * 2), s, B, c, rfl, fun w' e P T hT => load_at hT [.bool s, .slice B (ms.getD i 0) c] rfl (fun j hj => ?_), h3⟩
  rw [add_of_add]
  match j, hj with
  | 0, _ => exact e.cell h1
  | 1, _ => exact e.cell h2
/-- an element: of the call's own, in least form; or (where lists are mixed) as it came in -/
def El (m : Option World) (b : Nat) (w : World) (e : ZC) (z : Int) : Prop := Zr w b e.s e.A e.n e.c z ∨ ∃ w0, m = some w0 ∧ Zi w0 e.s e.A e.n e.c z
theorem El.ext {m : Option World} {b : Nat} {w w' : World} {e : ZC} {z : Int} (h : El m b w e z) (x : Ext w w') : El m b w' e z := h.imp (·.ext x) id
theorem El.updT {m : Option World} {b g : Nat} {w w' : World} {e : ZC} {z : Int} {T : TypeId} {us : List Value} (h : El m b w e z) (hb : Bk w g T us) (x : Upd g w w') (hT : 48 ≠ T := by decide) : El m b w' e z := h.imp (·.updT hb x hT) id
theorem Own.updOT {w w' : World} {b b' : Nat} {t T : TypeId} {s s' : Nat} {A B : Option Addr} {n cap m c : Nat} {vs us : List Value} (h : Own w b t s A n cap vs) (ho : Own w b' T s' B m c us) (hT : t ≠ T) (x : UpdO B w w') : Own w' b t s A n cap vs := by
  refine h.updO x (fun p q hp hq hg => ?_)
  rcases ho with ⟨h1, _⟩ | ⟨k, cs, hB, _, hk, _⟩
  · rw [h1] at hp; cases hp
  · rcases h with ⟨h2, _⟩ | ⟨k', cs', hA, _, hk', _⟩
    · rw [h2] at hq; cases hq
    · rw [hB] at hp; rw [hA] at hq
      cases hp; cases hq
      simp only at hg
      subst hg
      unfold Bk at hk hk'
      rw [hk] at hk'
      injection hk' with hk'
      injection hk' with e1 e2
      exact hT e2.symm
theorem Zr.updOT {w w' : World} {b b' : Nat} {s : Bool} {A B : Option Addr} {n cap m c s' : Nat} {z : Int} {T : TypeId} {us : List Value} (h : Zr w b s A n cap z) (ho : Own w b' T s' B m c us) (x : UpdO B w w') (hT : 48 ≠ T := by decide) : Zr w' b s A n cap z :=
  ⟨h.sgn, h.len, h.own.updOT ho hT x⟩
theorem El.updOT {m : Option World} {b b' : Nat} {w w' : World} {e : ZC} {z : Int} {B : Option Addr} {n c s' : Nat} {T : TypeId} {us : List Value} (h : El m b w e z) (ho : Own w b' T s' B n c us) (x : UpdO B w w') (hT : 48 ≠ T := by decide) : El m b w' e z := h.imp (·.updOT ho x hT) id
theorem El.zi {w0 : World} {b : Nat} {w : World} {e : ZC} {z : Int} (h : El (some w0) b w e z) (x : Ext w0 w) : Zi w e.s e.A e.n e.c z := by
  rcases h with h | ⟨w1, h1, h2⟩
  · exact h.zi
  · cases h1; exact h2.ext x
theorem El.zr {b : Nat} {w : World} {e : ZC} {z : Int} (h : El none b w e z) : Zr w b e.s e.A e.n e.c z := by
  rcases h with h | ⟨w1, h1, h2⟩
  · exact h
  · cases h1
/-- a list of integers in the call's own memory: made since lb; the words since b, or as they came in (m); none longer than K -/
def Lz (m : Option World) (K b : Nat) (w : World) (lb : Nat) (A : Option Addr) (n cap : Nat) (zs : List Int) : Prop :=
  ∃ es, Own w lb 24 2 A n cap (zcells es) ∧ es.length = n ∧ zs.length = n ∧ ∀ i, i < n → (es.getD i ZC.zero).n ≤ K ∧ El m b w (es.getD i ZC.zero) (zs.getD i 0)
section
variable {m : Option World} {K b lb : Nat} {w w' : World} {A : Option Addr} {n cap : Nat} {zs : List Int}
theorem Lz.own (h : Lz m K b w lb A n cap zs) : ∃ vs, Own w lb 24 2 A n cap vs := by obtain ⟨es, h1, _⟩ := h; exact ⟨_, h1⟩
theorem Lz.block (h : Lz m K b w lb A n cap zs) : ∀ a, A = some a → lb ≤ a.block ∧ a.block < w.heap.size := by obtain ⟨vs, h⟩ := h.own; exact h.block
theorem Lz.len (h : Lz m K b w lb A n cap zs) : zs.length = n := by obtain ⟨es, h1, h2, h3, h4⟩ := h; exact h3
theorem Lz.le (h : Lz m K b w lb A n cap zs) : n ≤ cap := by obtain ⟨vs, h⟩ := h.own; exact h.rv.le
theorem Lz.ext (h : Lz m K b w lb A n cap zs) (x : Ext w w') : Lz m K b w' lb A n cap zs := by
  obtain ⟨es, h1, h2, h3, h4⟩ := h
  exact ⟨es, h1.ext x, h2, h3, fun i hi => ⟨(h4 i hi).1, (h4 i hi).2.ext x⟩⟩
/-- a variable has turned -/
theorem Lz.updT {g : Nat} {T : TypeId} {us : List Value} (h : Lz m K b w lb A n cap zs) (hb : Bk w g T us) (x : Upd g w w') (hne : ∀ p, A = some p → p.block ≠ g) (hT : 48 ≠ T := by decide) : Lz m K b w' lb A n cap zs := by
  obtain ⟨es, h1, h2, h3, h4⟩ := h
  exact ⟨es, h1.upd x hne, h2, h3, fun i hi => ⟨(h4 i hi).1, (h4 i hi).2.updT hb x hT⟩⟩
/-- another list has turned -/
theorem Lz.updO {B : Option Addr} {lb' c k : Nat} {us : List Value} (h : Lz m K b w lb A n cap zs) (ho : Own w lb' 24 2 B k c us) (x : UpdO B w w') (hne : ∀ p q, B = some p → A = some q → p.block ≠ q.block) : Lz m K b w' lb A n cap zs := by
  obtain ⟨es, h1, h2, h3, h4⟩ := h
  exact ⟨es, h1.updO x hne, h2, h3, fun i hi => ⟨(h4 i hi).1, (h4 i hi).2.updOT ho x⟩⟩
theorem Lz.nil (m : Option World) (K b : Nat) (w : World) (lb : Nat) : Lz m K b w lb none 0 0 [] := ⟨[], Own.nil _ _ _ _, rfl, rfl, fun i hi => by omega⟩
theorem Lz.mono {K' b' lb' : Nat} (h : Lz m K b w lb A n cap zs) (hK : K ≤ K') (hb : b' ≤ b) (hl : lb' ≤ lb) : Lz m K' b' w lb' A n cap zs := by
  obtain ⟨es, h1, h2, h3, h4⟩ := h
  exact ⟨es, h1.mono hl, h2, h3, fun i hi => ⟨Nat.le_trans (h4 i hi).1 hK, (h4 i hi).2.imp (·.mono hb) id⟩⟩
theorem Lz.at (h : Lz m K b w lb A n cap zs) {i : Nat} (hi : i < n) :
    ∃ p s B k c, A.map (·.add (i * 2)) = some p ∧ (∀ w', Ext w w' → ∀ (P : Program) (T : TypeId), AggT P T 2 → (loadVar T p).run P w' = .ok (.agg #[.bool s, .slice B k c]) w') ∧ k ≤ K ∧ El m b w ⟨s, B, k, c⟩ (zs.getD i 0) := by
  obtain ⟨es, h1, h2, h3, h4⟩ := h
  obtain ⟨a, ha, hc⟩ := h1.rv.get (i * 2) (by omega)
  obtain ⟨a', ha', hc'⟩ := h1.rv.get (i * 2 + 1) (by omega)
  rw [ha] at ha'; cases ha'
  have g0 := zcells_get0 es i (by omega)
  have g1 := zcells_get1 es i (by omega)
  rw [List.getD_eq_getElem?_getD, g0] at hc
  rw [List.getD_eq_getElem?_getD, g1] at hc'
  refine ⟨a.add (i * 2), _, _, _, _, by rw [ha]; rfl, fun w' e P T hT => load_at hT [.bool (es.getD i ZC.zero).s, .slice (es.getD i ZC.zero).A (es.getD i ZC.zero).n (es.getD i ZC.zero).c] rfl (fun j hj => ?_), (h4 i hi).1, (h4 i hi).2⟩
  rw [add_of_add]
  match j, hj with
  | 0, _ => exact e.cell hc
  | 1, _ => exact e.cell hc'
/-- read as a list -/
theorem Lz.zl {w0 : World} (h : Lz (some w0) K b w lb A n cap zs) (x : Ext w0 w) : ∃ ms, Zl w A n cap zs ms ∧ ∀ i, ms.getD i 0 ≤ K := by
  obtain ⟨es, h1, h2, h3, h4⟩ := h
  have hms : ∀ i, i < n → (es.map (·.n)).getD i 0 = (es.getD i ZC.zero).n := fun i hi => by
    simp [List.getD_eq_getElem?_getD, List.getElem?_map, List.getElem?_eq_getElem (show i < es.length by omega)]
  refine ⟨es.map (·.n), ⟨h3, by rw [List.length_map, h2], h1.rv.le, h1.rv.max, fun i hi => ?_⟩, fun i => ?_⟩
  · obtain ⟨a, ha, hc⟩ := h1.rv.get (i * 2) (by omega)
    obtain ⟨a', ha', hc'⟩ := h1.rv.get (i * 2 + 1) (by omega)
    rw [ha] at ha'; cases ha'
    have g0 := zcells_get0 es i (by omega)
    have g1 := zcells_get1 es i (by omega)
    rw [List.getD_eq_getElem?_getD, g0] at hc
    rw [List.getD_eq_getElem?_getD, g1] at hc'
    rw [hms i hi]
    exact ⟨a, _, _, _, ha, hc, hc', (h4 i hi).2.zi x⟩
  · by_cases hi : i < n
    · rw [hms i hi]; exact (h4 i hi).1
    · rw [List.getD_eq_getElem?_getD, List.getElem?_eq_none (by rw [List.length_map]; omega)]; exact Nat.zero_le _
end
section
variable {Q : Exit → Act → World → Prop} {N : Nat} {l : Fr} {w : World} {ops : Array Oper} {rest : List Oper} {d : Nat} {ty : TypeId} {pos : String} {af : Array Edge} {gd : Option (Nat × Bool)}
end
end Go.Proofs.YtmjdmjflgiicaaaDoor

namespace Go.Proofs.YtmjdmjflgiicaaaDoor
open Go.RowKit
theorem wl_mm {P : Program} {Q : Exit → Act → World → Prop} {n : Nat} {l : Fr} {w : World} {ops : Array Oper} {rest : List Oper} {d : Nat} {ty : TypeId} {pos : String} {af : Array Edge} {gd : Option (Nat × Bool)} {x y : Operand} {ts : Array TypeId} {k : IntKind} {a b : Int} (hw : guardB ops l gd = some true)
    (hx : evo l x = some (.int k a)) (hy : evo l y = some (.int k b)) (c : Int) (hc : max a b = c) (hn : d < n) (h : wl P ops Q n rest ((d, .int k c) :: l) w) : wl P ops Q n (⟨some d, .call { callee := .builtin .max, args := #[x, y], argTypes := ts }, ty, pos, af, gd⟩ :: rest) l w := by
  refine wl_val hw hn (fun a' ha => ?_) h
  have e : (if b > a then b else a) = c := by rw [← hc]; split <;> omega
  unfold execOp
  simp only [resolve, invoke, builtin, Sem.run_bind, Sem.run_pure, Result.andThen_ok, List.map_toArray, List.map_cons, List.map_nil, ha.ev hx, ha.ev hy, Builtin.max_, List.foldlM, Builtin.max2, e]
theorem wl_mi {P : Program} {Q : Exit → Act → World → Prop} {n : Nat} {l : Fr} {w : World} {ops : Array Oper} {rest : List Oper} {d : Nat} {ty : TypeId} {pos : String} {af : Array Edge} {gd : Option (Nat × Bool)} {x y : Operand} {ts : Array TypeId} {k : IntKind} {a b : Int} (hw : guardB ops l gd = some true)
    (hx : evo l x = some (.int k a)) (hy : evo l y = some (.int k b)) (c : Int) (hc : min a b = c) (hn : d < n) (h : wl P ops Q n rest ((d, .int k c) :: l) w) : wl P ops Q n (⟨some d, .call { callee := .builtin .min, args := #[x, y], argTypes := ts }, ty, pos, af, gd⟩ :: rest) l w := by
  refine wl_val hw hn (fun a' ha => ?_) h
  have e : (if b < a then b else a) = c := by rw [← hc]; split <;> omega
  unfold execOp
  simp only [resolve, invoke, builtin, Sem.run_bind, Sem.run_pure, Result.andThen_ok, List.map_toArray, List.map_cons, List.map_nil, ha.ev hx, ha.ev hy, Builtin.min_, List.foldlM, Builtin.min2, e]
theorem rx_BitLen {w : World} {A : Option Addr} {n c m : Nat} (hx : Wi w A n c m) (hl : n ≤ 1099511627775) : Calls Tryd.prog 55 #[.slice A n c] w (Gv w (Is (.int .i64 ((blen m : Nat) : Int)))) := by
  obtain ⟨xs, h1, rfl⟩ := hx
  refine (nat_BitLen h1 hl).mono fun e w' h => ?_
  obtain ⟨k, h2, rfl, h3⟩ := h
  exact ⟨_, rfl, (show Value.int .i64 (k : Int) = _ by rw [h2.out]), h3⟩
theorem rx_Word {w : World} {A : Option Addr} {n c m v : Nat} (hx : Wi w A n c m) (hl : n ≤ 1099511627775) (hv0 : v ≠ 0) (hvb : v ≤ 18446744073709551615) :
    Calls Tryd.prog 88 #[.slice A n c, .int .u64 (v : Int)] w (Gv w (T3 (WR w.heap.size (m / v)) (Is (.int .u64 ((m % v : Nat) : Int))) (Is (.int .i64 0)))) := by
  obtain ⟨xs, h1, rfl⟩ := hx
  refine (divnat_Word h1 hl hv0 hvb).mono fun e w' h => ?_
  obtain ⟨A, n, cap, r', rfl, h2, h3, h4, h5, h6, h7⟩ := h
  exact ⟨_, rfl, ⟨_, _, _, rfl, ⟨A, n, cap, rfl, h4.out, h6⟩, (show Value.int .u64 (r' : Int) = _ by rw [h2.out]), rfl⟩, h7⟩
/-- the digits of parts, each of k digits, the highest of at -/
def catd (b k at_ : Nat) : List Nat → List Nat
  | [] => []
  | [x] => padTo (db b x) at_
  | x :: y :: r => padTo (db b x) k ++ catd b k at_ (y :: r)
theorem catd_cons {b k a x : Nat} {r : List Nat} : catd b k a (x :: r) = padTo (db b x) (if r = [] then a else k) ++ catd b k a r := by
  cases r with
  | nil => simp [catd]
  | cons y r => simp [catd]
theorem padTo_of {l : List Nat} {k : Nat} (h : k ≤ l.length) : padTo l k = l := by rw [padTo, Nat.sub_eq_zero_of_le h]; simp
theorem padTo_app {l r : List Nat} {k : Nat} : l ++ padTo r k = padTo (l ++ r) (l.length + k) := by
  unfold padTo
  rw [List.append_assoc, List.length_append]
  congr 2
  congr 1
  omega
theorem db_split {b k m : Nat} (hb : 2 ≤ b) (hq : m / b ^ k ≠ 0) : db b m = padTo (db b (m % b ^ k)) k ++ db b (m / b ^ k) := by
  have hu : 0 < b ^ k := Nat.pow_pos (by omega)
  have hl : (db b (m % b ^ k)).length ≤ k := len_db_le hb (Nat.mod_lt _ hu)
  have hlen : (padTo (db b (m % b ^ k)) k).length = k := by rw [len_padTo]; omega
  have hn : nb b (padTo (db b (m % b ^ k)) k) = m % b ^ k := by rw [padTo, nb_append_zeros, nb_db hb]
  have hv : nb b (padTo (db b (m % b ^ k)) k ++ db b (m / b ^ k)) = m := by
    rw [nb_append, hn, hlen, nb_db hb, Nat.mod_add_div]
  have hw : Wfb b (padTo (db b (m % b ^ k)) k ++ db b (m / b ^ k)) := Wfb_append (Wfb_append (Wfb_db hb _) (fun x hx => by rw [List.eq_of_mem_replicate hx]; omega)) (Wfb_db hb _)
  have ht := db_top hb (m / b ^ k)
  have hne : (db b (m / b ^ k)).length ≠ 0 := fun e => hq ((len_db_zero hb).1 e)
  have key := db_of_top' hb hw (Or.inr (by
    rw [List.length_append, hlen, List.getD_eq_getElem?_getD, List.getElem?_append_right (by rw [hlen]; omega), hlen, show k + (db b (m / b ^ k)).length - 1 - k = (db b (m / b ^ k)).length - 1 by omega, ← List.getD_eq_getElem?_getD]
    rcases ht with h | h
    · exact absurd h hne
    · exact h))
  rw [hv] at key
  exact key
theorem catd_db {b k a : Nat} (hb : 2 ≤ b) (hk : 1 ≤ k) (hu : 2 ≤ b ^ k) : ∀ (n m : Nat), m ≤ n → m ≠ 0 → catd b k a (db (b ^ k) m) = padTo (db b m) (((db (b ^ k) m).length - 1) * k + a) := by
  intro n
  induction n with
  | zero => intro m hm h0; omega
  | succ n ih =>
    intro m hm h0
    have e := db_pos hu h0
    rw [e, catd_cons]
    by_cases hq : m / b ^ k = 0
    · have e2 : db (b ^ k) (m / b ^ k) = [] := by rw [hq]; rfl
      have e3 : m % b ^ k = m := Nat.mod_eq_of_lt ((Nat.div_eq_zero_iff_lt (by omega)).1 hq)
      rw [e2, if_pos rfl, e3]
      simp [catd]
    · have hne : db (b ^ k) (m / b ^ k) ≠ [] := fun e => hq ((db_eq_nil hu).1 e)
      rw [if_neg hne, ih (m / b ^ k) (by have := Nat.div_lt_self (show 0 < m by omega) (show 1 < b ^ k by omega); omega) hq]
      rw [padTo_app, ← db_split hb hq]
      congr 1
      have hl : (db b (m % b ^ k)).length ≤ k := len_db_le hb (Nat.mod_lt _ (by omega))
      have hp : 0 < (db (b ^ k) (m / b ^ k)).length := List.length_pos_iff.2 hne
      rw [len_padTo, List.length_cons, Nat.max_eq_right hl]
      obtain ⟨p, hp'⟩ : ∃ p, (db (b ^ k) (m / b ^ k)).length = p + 1 := ⟨_, (Nat.succ_pred_eq_of_pos hp).symm⟩
      rw [hp']
      simp only [Nat.add_sub_cancel, Nat.add_mul]
      omega
theorem len_db_ge {b k m : Nat} (hb : 2 ≤ b) (hu : 2 ≤ b ^ k) (h0 : m ≠ 0) : ((db (b ^ k) m).length - 1) * k < (db b m).length := by
  have h1 := pow_len_db_le hu h0
  rw [← Nat.pow_mul, Nat.mul_comm] at h1
  refine Nat.lt_of_not_le fun h => ?_
  have h2 := lt_pow_len_db hb m
  have h3 := Nat.pow_le_pow_right (show 0 < b by omega) h
  omega
/-- what plain writes -/
theorem plain_all {b k m width pl : Nat} (hb : 2 ≤ b) (hk : 1 ≤ k) (hu : 2 ≤ b ^ k) (hpl : (db (b ^ k) m).length = pl) :
    List.replicate (width - pl * k) 48 ++ txt (catd b k (min (width + k - pl * k) k) (db (b ^ k) m)) = txt (padTo (db b m) width) := by
  by_cases h0 : m = 0
  · subst h0
    have e : pl = 0 := by rw [← hpl]; rfl
    subst e
    rw [db_zero, db_zero]
    simp [catd, txt, padTo, sgn_zero]
  · have hp : 1 ≤ pl := by
      have : (db (b ^ k) m).length ≠ 0 := fun e => h0 ((len_db_zero hu).1 e)
      omega
    have hge := len_db_ge hb hu h0
    rw [catd_db hb hk hu m m (Nat.le_refl _) h0, hpl]
    rw [hpl] at hge
    obtain ⟨q, rfl⟩ : ∃ q, pl = q + 1 := ⟨pl - 1, by omega⟩
    have hlt : (db b m).length ≤ (q + 1) * k := by
      refine len_db_le hb ?_
      have := lt_pow_len_db hu m
      rw [hpl, ← Nat.pow_mul, Nat.mul_comm] at this
      exact this
    rw [Nat.add_mul, Nat.one_mul] at hlt
    rw [Nat.add_sub_cancel] at hge
    rw [Nat.add_sub_cancel, Nat.add_mul, Nat.one_mul]
    rw [txt_pad, txt_pad, ← List.append_assoc, List.replicate_append_replicate]
    congr 2
    generalize q * k = qk at *
    omega
theorem one_news {w : World} {g x : Nat} {T : TypeId} (v : Value) (h : Bk w g T [v]) : ∀ j u, [v][j]? = some u → w.cell? ((⟨g, 0, none⟩ : Addr).add j) = some u := by
  intro j u hj
  have hjl := (List.getElem?_eq_some_iff.1 hj).1
  rw [add_lit0, Nat.zero_add, h.cell hjl, List.getD_eq_getElem?_getD, hj]; rfl
theorem len_db_small {b m n : Nat} (hb : 2 ≤ b) (h : (wd m).length ≤ n) : (db b m).length ≤ 64 * n := by
  refine len_db_le hb ?_
  have h1 := lt_pow_len m
  rw [WB_pow, ← Nat.pow_mul] at h1
  exact Nat.lt_of_lt_of_le h1 (Nat.le_trans (Nat.pow_le_pow_right (by decide) (Nat.mul_le_mul_left _ h)) (Nat.pow_le_pow_left hb _))
theorem Kept.refl (w : World) (A : Option Addr) : Kept w A A := fun p hp => Or.inl ⟨p, hp, rfl⟩
theorem Kept.next {w v : World} {A B C : Option Addr} (h : Kept w A B) (k : Kept v B C) (hs : w.heap.size ≤ v.heap.size) : Kept w A C := fun p hp => by
  rcases k p hp with ⟨q, hq, e⟩ | e
  · rcases h q hq with ⟨r, hr, e2⟩ | e2
    · exact Or.inl ⟨r, hr, by rw [e, e2]⟩
    · exact Or.inr (by omega)
  · exact Or.inr (Nat.le_trans hs e)
theorem kept_typ {w : World} {lb : Nat} {A B : Option Addr} {n c : Nat} {us : List Value} (h : Own w lb 5 1 A n c us) (k : Kept w A B) : ∀ (p : Addr) (cs : Array Value) (t : TypeId) (fr : Nat × Nat), B = some p → w.heap[p.block]? = some (.cells cs t fr) → t = 5 := fun p cs t fr hp h' => by
  rcases k p hp with ⟨q, hq, e⟩ | e
  · rw [e] at h'; exact own_typ h q cs t fr hq h'
  · exact absurd h' (bk_new e)
theorem rep_snoc {bs : List Nat} {z : Nat} : (bs ++ List.replicate (z + 1) 48).map B8 = (bs ++ List.replicate z 48).map B8 ++ [.int .u8 48] := by
  rw [List.replicate_succ', ← List.append_assoc, List.map_append]; rfl
theorem own_len {w : World} {b n c : Nat} {T : TypeId} {A : Option Addr} {l : List Nat} (h : Own w b T 1 A n c (l.map B8)) : n = l.length := by have := h.rv.len; rw [List.length_map, Nat.mul_one] at this; exact this.symm
theorem drop_getD {l : List Nat} {q : Nat} (h : q < l.length) : l.drop q = l.getD q 0 :: l.drop (q + 1) := by rw [List.drop_eq_getElem_cons h, List.getD_eq_getElem?_getD, List.getElem?_eq_getElem h]; rfl
set_option maxHeartbeats 4000000 in
theorem rx_plain {w : World} {g base k unit : Nat} {PA : Option Addr} {pn pc : Nat} {OA : Option Addr} {on oc lb : Nat} {bs : List Nat} (hS : Signs w) (hgS : 2 < lb) (hbl : 2 ≤ base) (hbu : base ≤ 36) (hW : Wr w g base k unit PA pn pc OA on oc) (hO : Own w lb 5 1 OA on oc (bs.map B8)) (hgl : lb ≤ g) (hlb : lb ≤ w.heap.size) {A : Option Addr} {an ac m width : Nat} (ha : Wi w A an ac m) (hal : an ≤ 4194304) (hun : unit = base ^ k) (hkk : PieceK base k) (hwd : width ≤ 137438953472) (hon : on ≤ 137438953472) :
    Calls Tryd.prog 92 #[.pointer (some ⟨g, 0, none⟩), .slice A an ac, .int .i64 ((width : Nat) : Int)] w (WrP w lb g base k unit PA pn pc OA (bs ++ txt (padTo (db base m) width))) := by
  have hml : (wd m).length ≤ 4194304 := Nat.le_trans ha.len hal
  have hum : unit ≤ 18446744073709551615 := by rw [hun]; exact hkk.le
  have hk1 : 1 ≤ k := by refine Nat.pos_of_ne_zero (fun e => ?_); have := hkk.gt; rw [e, Nat.zero_add, Nat.pow_one] at this; omega
  have hu2 : 2 ≤ unit := by rw [hun]; exact Nat.le_trans hbl (Nat.le_trans (Nat.le_of_eq (Nat.pow_one base).symm) (Nat.pow_le_pow_right (by omega) hk1))
  refine sx_enter Tryd.func92 rfl (n := 93) rfl (Nat.le_of_ble_eq_true rfl) (args := [.pointer (some ⟨g, 0, none⟩), .slice A an ac, .int .i64 ((width : Nat) : Int)]) ?_
  refine cw_keep [(0, .pointer (some ⟨g, 0, none⟩)), (1, .slice A an ac), (2, .int .i64 ((width : Nat) : Int))] ⟨rfl, rfl, rfl, trivial⟩ ?_
  refine cw_seq ?_
  refine cw_region ?_
  refine wl_assign rfl rfl (by decide) ?_
  refine wl_nil ?_
  refine eo_then ?_
  refine cw_seq ?_
  refine cw_block ?_
  obtain ⟨lb2, hlb2, hle2⟩ : ∃ lb2, lb2 ≤ w.heap.size ∧ w.heap.size ≤ lb2 := ⟨_, Nat.le_refl _, (Ext.refl w).size⟩
  refine cw_loop (T := World × Option Addr × Nat × Nat × Nat × Option Addr × Nat × Nat × List Nat)
    (fun ⟨wr, QA, qn, qc, mm, PA2, pn2, pc2, ps⟩ => [(0, .pointer (some ⟨g, 0, none⟩)), (2, .int .i64 ((width : Nat) : Int)), (1, .slice QA qn qc), (6, .slice PA2 pn2 pc2)])
    (fun ⟨wr, QA, qn, qc, mm, PA2, pn2, pc2, ps⟩ => wr)
    (fun ⟨wr, QA, qn, qc, mm, PA2, pn2, pc2, ps⟩ => (UpdW lb w wr) ∧ (Ext w wr) ∧ (lb2 ≤ wr.heap.size) ∧ (db unit m = ps ++ db unit mm) ∧ (ps.length = pn2) ∧ (Wi wr QA qn qc mm) ∧ (qn ≤ 4194304) ∧ (Own wr lb2 48 1 PA2 pn2 pc2 (ps.map W64)) ∧ (mm ≤ m))
    (fun ⟨wr, QA, qn, qc, mm, PA2, pn2, pc2, ps⟩ => mm)
    (⟨w, A, an, ac, m, none, 0, 0, []⟩ : World × Option Addr × Nat × Nat × Nat × Option Addr × Nat × Nat × List Nat) ⟨(UpdW.refl lb w), (Ext.refl w), hlb2, rfl, rfl, ha, hal, (Own.nil _ _ _ _), (Nat.le_refl _)⟩ rfl ⟨rfl, rfl, rfl, rfl, trivial⟩ ?_
  rintro ⟨wr, QA, qn, qc, mm, PA2, pn2, pc2, ps⟩ ⟨hw1, hx1, hlb2, hdb, hpl, hq, hqn, hP, hms⟩
  refine cw_re [(0, .pointer (some ⟨g, 0, none⟩)), (2, .int .i64 ((width : Nat) : Int)), (1, .slice QA qn qc), (6, .slice PA2 pn2 pc2)] wr rfl ⟨rfl, rfl, rfl, rfl, trivial⟩ ?_
  refine cw_seq ?_
  refine cw_seq ?_
  by_cases hm0 : mm = 0
  ·
    have hbl0 : blen mm = 0 := by rw [hm0]; rfl
    refine cw_region ?_
    refine wl_move rfl rfl (by decide) ?_
    refine wl_call rfl rfl (vs := [.slice QA qn qc]) (by kernel_rfl) (by decide) (rx_BitLen hq (by omega)) ?_
    rintro _ v1 ⟨xr3, rfl, r3, e2⟩
    refine ret_intro ?_
    have hw2 : UpdW lb w v1 := hw1.trans e2
    have hx2 : Ext w v1 := hx1.trans e2
    obtain rfl := r3
    refine wl_cmp rfl rfl rfl false (cb_gt_f (a := blen mm) (b := 0) rfl rfl (by omega)) (by decide) ?_
    refine wl_nil ?_
    refine eo_then ?_
    refine cw_false rfl ?_
    refine cw_exit ?_
    refine eo_thenX ?_
    refine eo_loopX ?_
    refine eo_block_here ?_
    refine eo_then ?_
    refine cw_seq ?_
    have hdbm : db unit m = ps := by rw [hdb, hm0, db_zero, List.append_nil]
    have psWf : Wf ps := fun x hx => by have := Wfb_db hu2 m x (hdbm.symm ▸ hx); rw [WB_def]; omega
    have psW : ∀ q, ps.getD q 0 ≤ 18446744073709551615 := fun q => by have := Wf_getD psWf q; rw [WB_def] at this; omega
    have hpk : pn2 * k ≤ 268435456 * 64 := Nat.mul_le_mul (by have := len_db_small hu2 hml; rw [hdbm, hpl] at this; omega) hkk.le64
    have hpn : pn2 ≤ 268435456 := by have := len_db_small hu2 hml; rw [hdbm, hpl] at this; omega
    refine cw_region ?_
    refine wl_move rfl rfl (by decide) ?_
    refine wl_pure rfl rfl (v := .int .i64 ((pn2 : Nat) : Int)) (by decide) (by kernel_rfl) ?_
    refine wl_ar rfl rfl rfl (((pn2 : Nat) : Int) - 1) (ar_i64s rfl (by omega) (by omega)) (by decide) ?_
    refine wl_move rfl rfl (by decide) ?_
    refine wl_pure rfl rfl (v := .pointer (some ⟨g, 0, none⟩)) (by decide) (by kernel_rfl) ?_
    refine wl_pure rfl rfl (v := .pointer (some ⟨g, 1, none⟩)) (by decide) (by kernel_rfl) ?_
    refine wl_load rfl rfl (load_cell (fun _ => by kernel_rfl) (hW.ext (hx1.trans e2)) rfl) (by decide) ?_
    refine wl_ar rfl rfl rfl (((pn2 * k : Nat) : Int) - (k : Int)) (ar_i64m (by rw [Int.sub_mul, Int.one_mul, Int.natCast_mul]) (by have := hkk.le64; omega) (by omega)) (by decide) ?_
    refine wl_assign rfl rfl (by decide) ?_
    refine wl_nil ?_
    refine eo_then ?_
    refine cw_seq ?_
    refine cw_seq ?_
    refine cw_region ?_
    refine wl_move rfl rfl (by decide) ?_
    refine wl_assign rfl rfl (by decide) ?_
    refine wl_nil ?_
    refine eo_then ?_
    refine cw_block ?_
    refine cw_loop (T := World × Nat × Nat × Option Addr × Nat × Nat)
      (fun ⟨wz, nn, z, OB, ob, oc2⟩ => [(0, .pointer (some ⟨g, 0, none⟩)), (2, .int .i64 ((width : Nat) : Int)), (6, .slice PA2 pn2 pc2), (10, .int .i64 (((pn2 * k : Nat) : Int) - (k : Int))), (11, .int .i64 ((nn : Nat) : Int))])
      (fun ⟨wz, nn, z, OB, ob, oc2⟩ => wz)
      (fun ⟨wz, nn, z, OB, ob, oc2⟩ => (UpdW lb w wz) ∧ (nn + z = width) ∧ (z ≤ width - pn2 * k) ∧ (ob = on + z) ∧ (Bk wz g 88 [.int .i64 (base : Int), .int .i64 (k : Int), .int .u64 (unit : Int), .slice PA pn pc, .slice OB ob oc2]) ∧ (Own wz lb 5 1 OB ob oc2 ((bs ++ List.replicate z 48).map B8)) ∧ (Kept w OA OB) ∧ (Own wz lb2 48 1 PA2 pn2 pc2 (ps.map W64)) ∧ (lb2 ≤ wz.heap.size))
      (fun ⟨wz, nn, z, OB, ob, oc2⟩ => nn)
      (⟨v1, width, 0, OA, on, oc⟩ : World × Nat × Nat × Option Addr × Nat × Nat) ⟨hw2, rfl, (Nat.zero_le _), rfl, (hW.ext (hx1.trans e2)), (by rw [List.replicate_zero, List.append_nil]; exact (hO.ext (hx1.trans e2))), (Kept.refl w OA), (hP.ext e2), (Nat.le_trans hlb2 (e2.size))⟩ rfl ⟨rfl, rfl, rfl, rfl, rfl, trivial⟩ ?_
    rintro ⟨wz, nn, z, OB, ob, oc2⟩ ⟨hw1, hnz2, hzw, hob, b_g, hO2, hkp, hP2, hlb3⟩
    refine cw_re [(0, .pointer (some ⟨g, 0, none⟩)), (2, .int .i64 ((width : Nat) : Int)), (6, .slice PA2 pn2 pc2), (10, .int .i64 (((pn2 * k : Nat) : Int) - (k : Int))), (11, .int .i64 ((nn : Nat) : Int))] wz rfl ⟨rfl, rfl, rfl, rfl, rfl, trivial⟩ ?_
    refine cw_seq ?_
    refine cw_seq ?_
    by_cases hnz : nn > pn2 * k
    ·
      refine cw_region ?_
      refine wl_move rfl rfl (by decide) ?_
      refine wl_move rfl rfl (by decide) ?_
      refine wl_move rfl rfl (by decide) ?_
      refine wl_pure rfl rfl (v := .pointer (some ⟨g, 0, none⟩)) (by decide) (by kernel_rfl) ?_
      refine wl_pure rfl rfl (v := .pointer (some ⟨g, 1, none⟩)) (by decide) (by kernel_rfl) ?_
      refine wl_load rfl rfl (load_cell (fun _ => by kernel_rfl) b_g rfl) (by decide) ?_
      refine wl_ar rfl rfl rfl ((pn2 * k : Nat) : Int) (ar_i64 (by omega) (by omega) (by omega)) (by decide) ?_
      refine wl_mm rfl rfl rfl (((pn2 * k : Nat) : Int)) (by omega) (by decide) ?_
      refine wl_cmp rfl rfl rfl true (cb_gt_t (a := nn) (b := pn2 * k) rfl rfl (by omega)) (by decide) ?_
      refine wl_nil ?_
      refine eo_then ?_
      refine cw_true rfl ?_
      refine cw_skip ?_
      refine eo_then ?_
      refine cw_seq ?_
      refine cw_block ?_
      refine cw_region ?_
      refine wl_move rfl rfl (by decide) ?_
      refine wl_move rfl rfl (by decide) ?_
      refine wl_pure rfl rfl (v := .pointer (some ⟨g, 0, none⟩)) (by decide) (by kernel_rfl) ?_
      refine wl_pure rfl rfl (v := .pointer (some ⟨g, 4, none⟩)) (by decide) (by kernel_rfl) ?_
      refine wl_load rfl rfl (load_cell (fun _ => by kernel_rfl) b_g rfl) (by decide) ?_
      refine wl_bslice rfl rfl (by decide) (k := 1) (e := 5) [.int .u8 48] (fun _ => by kernel_rfl) fun g4 v5 nb => ?_
      have hb6 := nb.bk
      have e7 := nb.ext
      clear nb
      have hw2 : UpdW lb w v5 := hw1.trans e7
      have ow8 := (hO2.ext e7)
      refine wl_app rfl rfl rfl un_u8 info8 rfl (by decide) (by decide) ow8 (Nat.le_trans hlb hw2.size) [.int .u8 48] rfl (one_news (x := 0) _ hb6) rfl (by omega) (by decide) fun A9 c10 v11 ho12 uo13 kp14 => ?_
      have kk15 := hkp.next kp14 hw2.size
      have hw3 : UpdW lb w v11 := hw2.updO uo13 (fun p hp => (ow8.block p hp).1) (fun p cs t fr hp h => Or.inr (kept_typ hO hkp p cs t fr hp h))
      refine wl_pure rfl rfl (v := .pointer (some ⟨g, 0, none⟩)) (by decide) (by kernel_rfl) ?_
      refine wl_pure rfl rfl (v := .pointer (some ⟨g, 4, none⟩)) (by decide) (by kernel_rfl) ?_
      have hb17 := ((b_g.ext e7).updO uo13 (own_ne ow8 (b_g.ext e7) (by decide)))
      refine wl_stored1 rfl rfl rfl (fun _ => by kernel_rfl) rfl hb17 (Nat.le_of_ble_eq_true rfl) rfl [.int .i64 (base : Int), .int .i64 (k : Int), .int .u64 (unit : Int), .slice PA pn pc, .slice A9 (ob + 1) c10] rfl fun v16 hb18 u19 hs20 => ?_
      have hw4 : UpdW lb w v16 := hw3.upd u19 hgl (fun _ _ _ h => Or.inl (bk_typ hW h))
      refine wl_nil ?_
      refine eo_block_normal ?_
      refine eo_then ?_
      refine cw_region ?_
      refine wl_move rfl rfl (by decide) ?_
      refine wl_ar rfl rfl rfl ((nn - 1 : Nat) : Int) (ai_sub (a := nn) (b := 1) rfl rfl (by omega) (by omega)) (by decide) ?_
      refine wl_assign rfl rfl (by decide) ?_
      refine wl_nil ?_
      refine eo_round (⟨v16, nn - 1, z + 1, A9, ob + 1, c10⟩ : World × Nat × Nat × Option Addr × Nat × Nat) ⟨hw4, (by omega), (by omega), (by omega), hb18, (by rw [rep_snoc]; exact (ho12.updT hb17 (by decide) u19)), kk15, (((hP2.ext e7).updOT ow8 (by decide) uo13).updT hb17 (by decide) u19), (Nat.le_trans hlb3 ((Nat.le_trans (Nat.le_trans e7.size uo13.size) u19.by_.size)))⟩ (show nn - 1 < nn by omega) rfl ⟨rfl, rfl, rfl, rfl, rfl, trivial⟩
    ·
      refine cw_region ?_
      refine wl_move rfl rfl (by decide) ?_
      refine wl_move rfl rfl (by decide) ?_
      refine wl_move rfl rfl (by decide) ?_
      refine wl_pure rfl rfl (v := .pointer (some ⟨g, 0, none⟩)) (by decide) (by kernel_rfl) ?_
      refine wl_pure rfl rfl (v := .pointer (some ⟨g, 1, none⟩)) (by decide) (by kernel_rfl) ?_
      refine wl_load rfl rfl (load_cell (fun _ => by kernel_rfl) b_g rfl) (by decide) ?_
      refine wl_ar rfl rfl rfl ((pn2 * k : Nat) : Int) (ar_i64 (by omega) (by omega) (by omega)) (by decide) ?_
      refine wl_mm rfl rfl rfl (((pn2 * k : Nat) : Int)) (by omega) (by decide) ?_
      refine wl_cmp rfl rfl rfl false (cb_gt_f (a := nn) (b := pn2 * k) rfl rfl (by omega)) (by decide) ?_
      refine wl_nil ?_
      refine eo_then ?_
      refine cw_false rfl ?_
      refine cw_exit ?_
      refine eo_thenX ?_
      refine eo_loopX ?_
      refine eo_block_here ?_
      refine eo_then ?_
      refine cw_seq ?_
      have hzf : z = width - pn2 * k := by omega
      refine cw_region ?_
      refine wl_move rfl rfl (by decide) ?_
      refine wl_pure rfl rfl (v := .int .i64 ((pn2 : Nat) : Int)) (by decide) (by kernel_rfl) ?_
      refine wl_ar rfl rfl rfl (((pn2 : Nat) : Int) - 1) (ar_i64s rfl (by omega) (by omega)) (by decide) ?_
      refine wl_assign rfl rfl (by decide) ?_
      refine wl_nil ?_
      refine eo_then ?_
      refine cw_block ?_
      refine cw_loop (T := World × Nat × Int × Option Addr × Nat × Nat)
        (fun ⟨wt, j, ii, OD, od, oc3⟩ => [(0, .pointer (some ⟨g, 0, none⟩)), (2, .int .i64 ((width : Nat) : Int)), (6, .slice PA2 pn2 pc2), (10, .int .i64 (((pn2 * k : Nat) : Int) - (k : Int))), (12, .int .i64 ii)])
        (fun ⟨wt, j, ii, OD, od, oc3⟩ => wt)
        (fun ⟨wt, j, ii, OD, od, oc3⟩ => (UpdW lb w wt) ∧ (j ≤ pn2) ∧ (ii = (j : Int) - 1) ∧ (od ≤ on + width + (pn2 - j) * 64) ∧ (Bk wt g 88 [.int .i64 (base : Int), .int .i64 (k : Int), .int .u64 (unit : Int), .slice PA pn pc, .slice OD od oc3]) ∧ (Own wt lb 5 1 OD od oc3 ((bs ++ List.replicate (width - pn2 * k) 48 ++ txt (catd base k (min (width + k - pn2 * k) k) (ps.drop j))).map B8)) ∧ (Kept w OA OD) ∧ (Own wt lb2 48 1 PA2 pn2 pc2 (ps.map W64)))
        (fun ⟨wt, j, ii, OD, od, oc3⟩ => j)
        (⟨wz, pn2, _, OB, ob, oc2⟩ : World × Nat × Int × Option Addr × Nat × Nat) ⟨hw1, (Nat.le_refl _), rfl, (by omega), b_g, (by rw [List.drop_of_length_le (by omega), show catd base k (min (width + k - pn2 * k) k) [] = [] from rfl, ← hzf]; simpa [txt] using (hO2)), hkp, hP2⟩ rfl ⟨rfl, rfl, rfl, rfl, rfl, trivial⟩ ?_
      rintro ⟨wt, j, ii, OD, od, oc3⟩ ⟨hw1, hj, hii, hob2, b_g, hO3, hkp, hP3⟩
      refine cw_re [(0, .pointer (some ⟨g, 0, none⟩)), (2, .int .i64 ((width : Nat) : Int)), (6, .slice PA2 pn2 pc2), (10, .int .i64 (((pn2 * k : Nat) : Int) - (k : Int))), (12, .int .i64 ii)] wt rfl ⟨rfl, rfl, rfl, rfl, rfl, trivial⟩ ?_
      refine cw_seq ?_
      refine cw_seq ?_
      by_cases hj0 : 0 < j
      ·
        obtain ⟨q, rfl⟩ : ∃ q, j = q + 1 := ⟨j - 1, by omega⟩
        obtain rfl : ii = (q : Int) := by omega
        have hxq : ps.getD q 0 ≤ 18446744073709551615 := by have := psW q; omega
        refine cw_region ?_
        refine wl_move rfl rfl (by decide) ?_
        refine wl_cmp rfl rfl rfl true (ge_t (by omega)) (by decide) ?_
        refine wl_nil ?_
        refine eo_then ?_
        refine cw_true rfl ?_
        refine cw_skip ?_
        refine eo_then ?_
        refine cw_seq ?_
        refine cw_block ?_
        refine cw_seq ?_
        refine cw_region ?_
        refine wl_move rfl rfl (by decide) ?_
        refine wl_pure rfl rfl (v := .pointer (some ⟨g, 0, none⟩)) (by decide) (by kernel_rfl) ?_
        refine wl_pure rfl rfl (v := .pointer (some ⟨g, 1, none⟩)) (by decide) (by kernel_rfl) ?_
        refine wl_load rfl rfl (load_cell (fun _ => by kernel_rfl) b_g rfl) (by decide) ?_
        refine wl_assign rfl rfl (by decide) ?_
        refine wl_nil ?_
        refine eo_then ?_
        refine cw_seq ?_
        refine cw_seq ?_
        by_cases htop : q + 1 = pn2
        ·
          refine cw_region ?_
          refine wl_move rfl rfl (by decide) ?_
          refine wl_move rfl rfl (by decide) ?_
          refine wl_pure rfl rfl (v := .int .i64 ((pn2 : Nat) : Int)) (by decide) (by kernel_rfl) ?_
          refine wl_ar rfl rfl rfl (((pn2 : Nat) : Int) - 1) (ar_i64s rfl (by omega) (by omega)) (by decide) ?_
          refine wl_cmp rfl rfl rfl true (eq_t (by omega)) (by decide) ?_
          refine wl_nil ?_
          refine eo_then ?_
          refine cw_true rfl ?_
          refine cw_region ?_
          refine wl_move rfl rfl (by decide) ?_
          refine wl_move rfl rfl (by decide) ?_
          refine wl_ar rfl rfl rfl (((width : Nat) : Int) - (((pn2 * k : Nat) : Int) - (k : Int))) (ar_i64s rfl (by have := hkk.le64; omega) (by have := hkk.le64; omega)) (by decide) ?_
          refine wl_mm rfl rfl rfl (((width + k - pn2 * k : Nat) : Int)) (by omega) (by decide) ?_
          refine wl_move rfl rfl (by decide) ?_
          refine wl_pure rfl rfl (v := .pointer (some ⟨g, 0, none⟩)) (by decide) (by kernel_rfl) ?_
          refine wl_pure rfl rfl (v := .pointer (some ⟨g, 1, none⟩)) (by decide) (by kernel_rfl) ?_
          refine wl_load rfl rfl (load_cell (fun _ => by kernel_rfl) b_g rfl) (by decide) ?_
          refine wl_mi rfl rfl rfl (((min (width + k - pn2 * k) k : Nat) : Int)) (by omega) (by decide) ?_
          refine wl_assign rfl rfl (by decide) ?_
          refine wl_nil ?_
          refine eo_then ?_
          refine cw_region ?_
          refine wl_move rfl rfl (by decide) ?_
          refine wl_move rfl rfl (by decide) ?_
          refine wl_move rfl rfl (by decide) ?_
          obtain ⟨pw, hpw, hcw, hvw⟩ := ((hP3).rd psWf).at (i := q) (by omega)
          refine wl_idx rfl rfl rfl un_u64 sz_u64 q rfl (by omega) pw hpw (by decide) ?_
          refine wl_load rfl rfl (load_cell1 ag_u64 hcw) (by decide) ?_
          refine wl_move rfl rfl (by decide) ?_
          refine wl_call rfl rfl (vs := [.pointer (some ⟨g, 0, none⟩), .int .u64 ((ps.getD q 0 : Nat) : Int), .int .i64 ((min (width + k - pn2 * k) k : Nat) : Int)]) (by kernel_rfl) (by decide) (rx_word (hw1.signs hS hgS) hgS hbl hbu b_g hO3 hgl (Nat.le_trans hlb hw1.size) hxq (by have := hkk.le64; omega) (by have := hkk.le64; omega)) ?_
          rintro _ v21 ⟨rfl, A23, n24, c25, hb26, ho27, uw28, kp29⟩
          refine ret_intro ?_
          have hw2 : UpdW lb w v21 := hw1.then uw28
          have kk30 := hkp.next kp29 hw1.size
          have hobn : n24 ≤ on + width + (pn2 - q) * 64 := by have h1 := (own_len ho27).symm; have h2 := own_len ho27; rw [h2, List.length_append, txt_len, len_padTo, ← own_len hO3]; have h3 : (db base (ps.getD q 0)).length ≤ 64 := len_db_le hbl (Nat.lt_of_lt_of_le (show ps.getD q 0 < 2 ^ 64 by omega) (Nat.pow_le_pow_left hbl 64)); have := hkk.le64; omega
          have hcont : bs ++ List.replicate (width - pn2 * k) 48 ++ txt (catd base k (min (width + k - pn2 * k) k) (ps.drop (q + 1))) ++ txt (padTo (db base (ps.getD q 0)) (min (width + k - pn2 * k) k)) = bs ++ List.replicate (width - pn2 * k) 48 ++ txt (catd base k (min (width + k - pn2 * k) k) (ps.drop q)) := by rw [drop_getD (by omega : q < ps.length), catd_cons, txt_app, List.append_assoc, if_pos (List.drop_of_length_le (by omega))]
          refine wl_nil ?_
          refine eo_block_normal ?_
          refine eo_then ?_
          refine cw_region ?_
          refine wl_move rfl rfl (by decide) ?_
          refine wl_ar rfl rfl rfl (((q : Nat) : Int) - 1) (ar_i64s rfl (by omega) (by omega)) (by decide) ?_
          refine wl_assign rfl rfl (by decide) ?_
          refine wl_nil ?_
          refine eo_round (⟨v21, q, (q : Int) - 1, A23, n24, c25⟩ : World × Nat × Int × Option Addr × Nat × Nat) ⟨hw2, (by omega), rfl, hobn, hb26, (hcont ▸ (ho27)), kk30, (uw28.own hP3 (by decide) (by decide))⟩ (show q < q + 1 by omega) rfl ⟨rfl, rfl, rfl, rfl, rfl, trivial⟩
        ·
          refine cw_region ?_
          refine wl_move rfl rfl (by decide) ?_
          refine wl_move rfl rfl (by decide) ?_
          refine wl_pure rfl rfl (v := .int .i64 ((pn2 : Nat) : Int)) (by decide) (by kernel_rfl) ?_
          refine wl_ar rfl rfl rfl (((pn2 : Nat) : Int) - 1) (ar_i64s rfl (by omega) (by omega)) (by decide) ?_
          refine wl_cmp rfl rfl rfl false (eq_f (by omega)) (by decide) ?_
          refine wl_nil ?_
          refine eo_then ?_
          refine cw_false rfl ?_
          refine cw_skip ?_
          refine eo_then ?_
          refine cw_region ?_
          refine wl_move rfl rfl (by decide) ?_
          refine wl_move rfl rfl (by decide) ?_
          refine wl_move rfl rfl (by decide) ?_
          obtain ⟨pw, hpw, hcw, hvw⟩ := ((hP3).rd psWf).at (i := q) (by omega)
          refine wl_idx rfl rfl rfl un_u64 sz_u64 q rfl (by omega) pw hpw (by decide) ?_
          refine wl_load rfl rfl (load_cell1 ag_u64 hcw) (by decide) ?_
          refine wl_move rfl rfl (by decide) ?_
          refine wl_call rfl rfl (vs := [.pointer (some ⟨g, 0, none⟩), .int .u64 ((ps.getD q 0 : Nat) : Int), .int .i64 ((k : Nat) : Int)]) (by kernel_rfl) (by decide) (rx_word (hw1.signs hS hgS) hgS hbl hbu b_g hO3 hgl (Nat.le_trans hlb hw1.size) hxq (by have := hkk.le64; omega) (by have := hkk.le64; omega)) ?_
          rintro _ v31 ⟨rfl, A33, n34, c35, hb36, ho37, uw38, kp39⟩
          refine ret_intro ?_
          have hw2 : UpdW lb w v31 := hw1.then uw38
          have kk40 := hkp.next kp39 hw1.size
          have hobn : n34 ≤ on + width + (pn2 - q) * 64 := by have h1 := (own_len ho37).symm; have h2 := own_len ho37; rw [h2, List.length_append, txt_len, len_padTo, ← own_len hO3]; have h3 : (db base (ps.getD q 0)).length ≤ 64 := len_db_le hbl (Nat.lt_of_lt_of_le (show ps.getD q 0 < 2 ^ 64 by omega) (Nat.pow_le_pow_left hbl 64)); have := hkk.le64; omega
          have hcont : bs ++ List.replicate (width - pn2 * k) 48 ++ txt (catd base k (min (width + k - pn2 * k) k) (ps.drop (q + 1))) ++ txt (padTo (db base (ps.getD q 0)) k) = bs ++ List.replicate (width - pn2 * k) 48 ++ txt (catd base k (min (width + k - pn2 * k) k) (ps.drop q)) := by rw [drop_getD (by omega : q < ps.length), catd_cons, txt_app, List.append_assoc, if_neg (fun e => by have := congrArg List.length e; rw [List.length_drop] at this; simp only [List.length_nil] at this; omega)]
          refine wl_nil ?_
          refine eo_block_normal ?_
          refine eo_then ?_
          refine cw_region ?_
          refine wl_move rfl rfl (by decide) ?_
          refine wl_ar rfl rfl rfl (((q : Nat) : Int) - 1) (ar_i64s rfl (by omega) (by omega)) (by decide) ?_
          refine wl_assign rfl rfl (by decide) ?_
          refine wl_nil ?_
          refine eo_round (⟨v31, q, (q : Int) - 1, A33, n34, c35⟩ : World × Nat × Int × Option Addr × Nat × Nat) ⟨hw2, (by omega), rfl, hobn, hb36, (hcont ▸ (ho37)), kk40, (uw38.own hP3 (by decide) (by decide))⟩ (show q < q + 1 by omega) rfl ⟨rfl, rfl, rfl, rfl, rfl, trivial⟩
      ·
        refine cw_region ?_
        refine wl_move rfl rfl (by decide) ?_
        refine wl_cmp rfl rfl rfl false (ge_f (by omega)) (by decide) ?_
        refine wl_nil ?_
        refine eo_then ?_
        refine cw_false rfl ?_
        refine cw_exit ?_
        refine eo_thenX ?_
        refine eo_loopX ?_
        refine eo_block_here ?_
        refine eo_end [] rfl trivial ?_
        have hj00 : j = 0 := by omega
        have hall : bs ++ List.replicate (width - pn2 * k) 48 ++ txt (catd base k (min (width + k - pn2 * k) k) (ps.drop j)) = bs ++ txt (padTo (db base m) width) := by rw [hj00, List.drop_zero, List.append_assoc, ← hdbm, hun, plain_all hbl hk1 (hun ▸ hu2) (by rw [← hun, hdbm, hpl])]
        exact ⟨rfl, OD, _, _, b_g, hall ▸ (hO3), hw1, hkp⟩
  ·
    have hbl0 : blen mm ≠ 0 := fun e => hm0 (blen_eq_zero.1 e)
    have hdb1 := db_pos hu2 hm0
    have hqb : (wd (mm / unit)).length ≤ 4194304 := Nat.le_trans (len_wd_mono (Nat.le_trans (Nat.div_le_self _ _) hms)) hml
    have hpq2 := len_db_small hu2 hml
    have hpq : ps.length < (db unit m).length := by rw [hdb, hdb1, List.length_append, List.length_cons]; omega
    refine cw_region ?_
    refine wl_move rfl rfl (by decide) ?_
    refine wl_call rfl rfl (vs := [.slice QA qn qc]) (by kernel_rfl) (by decide) (rx_BitLen hq (by omega)) ?_
    rintro _ v41 ⟨xr43, rfl, r43, e42⟩
    refine ret_intro ?_
    have hw2 : UpdW lb w v41 := hw1.trans e42
    have hx2 : Ext w v41 := hx1.trans e42
    obtain rfl := r43
    refine wl_cmp rfl rfl rfl true (cb_gt_t (a := blen mm) (b := 0) rfl rfl (by omega)) (by decide) ?_
    refine wl_nil ?_
    refine eo_then ?_
    refine cw_true rfl ?_
    refine cw_skip ?_
    refine eo_then ?_
    refine cw_block ?_
    refine cw_seq ?_
    refine cw_region ?_
    refine wl_move rfl rfl (by decide) ?_
    refine wl_move rfl rfl (by decide) ?_
    refine wl_pure rfl rfl (v := .pointer (some ⟨g, 0, none⟩)) (by decide) (by kernel_rfl) ?_
    refine wl_pure rfl rfl (v := .pointer (some ⟨g, 2, none⟩)) (by decide) (by kernel_rfl) ?_
    refine wl_load rfl rfl (load_cell (fun _ => by kernel_rfl) (hW.ext (hx1.trans e42)) rfl) (by decide) ?_
    have hbp := ((hP.ext e42)).block
    refine wl_call rfl rfl (vs := [.slice QA qn qc, .int .u64 ((unit : Nat) : Int)]) (by kernel_rfl) (by decide) (rx_Word (hq.ext e42) (by omega) (by omega) hum) ?_
    rintro _ v44 ⟨xr46, rfl, r46, e45⟩
    refine ret_intro ?_
    have hw3 : UpdW lb w v44 := hw2.trans e45
    have hx3 : Ext w v44 := hx2.trans e45
    obtain ⟨a47_0, a47_1, a47_2, rfl, r47_0, r47_1, r47_2⟩ := r46
    obtain ⟨A48, n48, c48, rfl, j48, o48⟩ := r47_0
    have hdis : ∀ p q, PA2 = some p → A48 = some q → p.block ≠ q.block := fun p q hp hq => by have := (hbp p hp).2; have := (o48.block q hq).1; omega
    obtain rfl := r47_1
    obtain rfl := r47_2
    refine wl_move rfl rfl (by decide) ?_
    refine wl_pure rfl rfl (v := .slice A48 n48 c48) (by decide) (by kernel_rfl) ?_
    refine wl_pure rfl rfl (v := .int .u64 ((mm % unit : Nat) : Int)) (by decide) (by kernel_rfl) ?_
    refine wl_pure rfl rfl (v := .int .i64 0) (by decide) (by kernel_rfl) ?_
    refine wl_assign rfl rfl (by decide) ?_
    refine wl_assign rfl rfl (by decide) ?_
    refine wl_assign rfl rfl (by decide) ?_
    refine wl_nil ?_
    refine eo_then ?_
    refine cw_seq ?_
    refine cw_region ?_
    refine wl_move rfl rfl (by decide) ?_
    refine wl_move rfl rfl (by decide) ?_
    refine wl_bslice rfl rfl (by decide) (k := 1) (e := 48) [.int .u64 ((mm % unit : Nat) : Int)] (fun _ => by kernel_rfl) fun g49 v50 nb => ?_
    have hb51 := nb.bk
    have e52 := nb.ext
    clear nb
    have hw4 : UpdW lb w v50 := hw3.trans e52
    have hx4 : Ext w v50 := hx3.trans e52
    have ow53 := (hP.ext (e42.trans (e45.trans e52)))
    refine wl_app rfl rfl rfl un_u64 info64 rfl (by decide) (by decide) ow53 (Nat.le_trans hlb2 ((Nat.le_trans (Nat.le_trans e42.size e45.size) e52.size))) [.int .u64 ((mm % unit : Nat) : Int)] rfl (one_news (x := 0) _ hb51) rfl (by omega) (by decide) fun A54 c55 v56 ho57 uo58 kp59 => ?_
    have hx5 : Ext w v56 := uo58.ext hx4 (fun p hp => by have := ow53.block p hp; omega)
    have hw5 : UpdW lb w v56 := (UpdW.refl lb w).trans hx5
    refine wl_assign rfl rfl (by decide) ?_
    refine wl_nil ?_
    refine eo_then ?_
    refine cw_region ?_
    refine wl_move rfl rfl (by decide) ?_
    refine wl_assign rfl rfl (by decide) ?_
    refine wl_nil ?_
    refine eo_block_normal ?_
    refine eo_round (⟨v56, A48, n48, c48, mm / unit, A54, pn2 + 1, c55, ps ++ [mm % unit]⟩ : World × Option Addr × Nat × Nat × Nat × Option Addr × Nat × Nat × List Nat) ⟨hw5, hx5, (Nat.le_trans hlb2 ((Nat.le_trans (Nat.le_trans (Nat.le_trans e42.size e45.size) e52.size) uo58.size))), (by rw [hdb, hdb1, List.append_assoc]; rfl), (by rw [List.length_append, hpl]; rfl), ((o48.ext e52).updO uo58 hdis).wi, (by rw [j48]; exact hqb), (by rw [List.map_append]; exact ho57), (Nat.le_trans (Nat.div_le_self _ _) hms)⟩ (Nat.div_lt_self (by omega) (by omega)) rfl ⟨rfl, rfl, rfl, rfl, trivial⟩
end Go.Proofs.YtmjdmjflgiicaaaDoor

namespace Go.Proofs.YtmjdmjflgiicaaaDoor
open Go.RowKit
/-- a number's text -/
def txtN (b m : Nat) : List Nat := if m = 0 then [48] else txt (db b m)
theorem push_foldl : ∀ (ns : List Nat) (r : ByteArray), (ns.map fun x : Nat => (x : Int)).foldl (fun r n => r.push (UInt8.ofNat n.toNat)) r = ⟨r.data ++ (ns.map UInt8.ofNat).toArray⟩
  | [], r => by simp
  | n :: ns, r => by
    rw [List.map_cons, List.foldl_cons, push_foldl ns]
    simp [ByteArray.push, Array.push, Array.append]
theorem run_toStr {P : Program} {w : World} {lb : Nat} {T : TypeId} {A : Option Addr} {n c : Nat} {bs : List Nat} (h : Own w lb T 1 A n c (bs.map B8)) : (Conv.bytesToString (.slice A n c)).run P w = .ok (.string (strB bs)) w := by
  cases A with
  | none =>
    rcases h with ⟨_, _, _, h⟩ | ⟨g, cs, hA, _⟩
    · rw [List.map_eq_nil_iff] at h; subst h; rfl
    · cases hA
  | some a =>
    have hn := own_len h
    have hl := run_loadCells (P := P) (w := w) (p := a) (bs.map B8) 0 #[] (fun j hj => by
      rw [List.length_map] at hj
      obtain ⟨a', ha, hc⟩ := h.rv.get j (by omega)
      cases ha
      rw [Nat.zero_add]; exact hc)
    have hr := run_bytesToString (P := P) w a n c (bs.map fun x : Nat => (x : Int)) (by
      rw [List.length_map, ← hn] at hl
      unfold loadCells
      rw [hl]
      congr 1
      simp [B8, Function.comp_def])
    rw [hr, push_foldl]
    rw [show ByteArray.empty.data = #[] from rfl, Array.empty_append]
    rfl
theorem wl_toStr {Q : Exit → Act → World → Prop} {n : Nat} {l : Fr} {w : World} {ops : Array Oper} {rest : List Oper} {d : Nat} {ty : TypeId} {pos : String} {af : Array Edge} {gd : Option (Nat × Bool)} {x : Operand} {lb k c : Nat} {T : TypeId} {A : Option Addr} {bs : List Nat} (hw : guardB ops l gd = some true)
    (hx : evo l x = some (.slice A k c)) (ho : Own w lb T 1 A k c (bs.map B8)) (hn : d < n) (h : wl Tryd.prog ops Q n rest ((d, .string (strB bs)) :: l) w) : wl Tryd.prog ops Q n (⟨some d, .convert 40 9 x, ty, pos, af, gd⟩ :: rest) l w := by
  refine wl_val hw hn (fun a' ha => ?_) h
  have e : (convert 40 9 (a'.eval x)).run Tryd.prog w = .ok (.string (strB bs)) w := by
    rw [ha.ev hx]
    have h1 : (underlying 40).run Tryd.prog w = .ok (.slice 5) w := run_underlying un_u8 w
    have h2 : (underlying 9).run Tryd.prog w = .ok .string w := run_underlying Tryd.underlying9 w
    have h3 : (underlying 5).run Tryd.prog w = .ok (.int .u8) w := run_underlying Tryd.underlying5 w
    unfold convert
    simp only [Sem.run_bind, h1, h2, h3, Result.andThen_ok]
    exact run_toStr ho
  show ((convert 40 9 (a'.eval x) >>= fun r => pure (Next.value r) : Sem Next)).run Tryd.prog w = _
  rw [Sem.run_bind, e]; rfl
theorem strB_add (a b : List Nat) : strB a ++ strB b = strB (a ++ b) := by
  unfold strB
  rw [ByteArray.mk_append_mk, List.map_append]
theorem strB_size (a : List Nat) : (strB a).size = a.length := by simp [strB, ByteArray.size]
theorem str_add {P : Program} {w : World} {t : TypeId} {a b : List Nat} (h : a.length + b.length ≤ 1099511627776) : (binOp .add t (.string (strB a)) (.string (strB b))).run P w = .ok (.string (strB (a ++ b))) w := by
  have h1 := run_string_add_sum (P := P) w (strB a) (strB b) (by rw [strB_size, strB_size]; omega)
  rw [strB_add] at h1
  simp [binOp, h1]
theorem g_nat_LeastW {w : World} {A : Option Addr} {n c m : Nat} (hx : Wi w A n c m) (hl : n ≤ 1099511627776) : Calls Tryd.prog 38 #[.slice A n c] w (Gv w (WR w.heap.size m)) := by
  obtain ⟨xs, h1, rfl⟩ := hx
  exact (nat_Least h1 hl).mono (gw (Nat.le_refl _))
theorem txtN_len {b m n : Nat} (hb : 2 ≤ b) (h : (wd m).length ≤ n) : (txtN b m).length ≤ 64 * n + 1 := by
  unfold txtN
  split
  · simp
  · rw [txt_len]; have := len_db_small hb h; omega
/-- an integer's text -/
def txtZ (x : Int) : List Nat := if x < 0 then [45] ++ txtN 10 x.natAbs else txtN 10 x.natAbs
set_option maxHeartbeats 4000000 in
theorem rx_halves_low {w : World} {g base k unit : Nat} {PA : Option Addr} {pn pc : Nat} {OA : Option Addr} {on oc lb : Nat} {bs : List Nat} (hS : Signs w) (hgS : 2 < lb) (hbl : 2 ≤ base) (hbu : base ≤ 36) (hW : Wr w g base k unit PA pn pc OA on oc) (hO : Own w lb 5 1 OA on oc (bs.map B8)) (hgl : lb ≤ g) (hlb : lb ≤ w.heap.size) {A : Option Addr} {an ac m width : Nat} (ha : Wi w A an ac m) (hal : an ≤ 4194304) (hun : unit = base ^ k) (hkk : PieceK base k) (hwd : width ≤ 137438953472) (hon : on ≤ 137438953472) :
    Calls Tryd.prog 68 #[.pointer (some ⟨g, 0, none⟩), .slice A an ac, .int .i64 (-1), .int .i64 ((width : Nat) : Int)] w (WrP w lb g base k unit PA pn pc OA (bs ++ txt (padTo (db base m) width))) := by
  refine sx_enter Tryd.func68 rfl (n := 74) rfl (Nat.le_of_ble_eq_true rfl) (args := [.pointer (some ⟨g, 0, none⟩), .slice A an ac, .int .i64 (-1), .int .i64 ((width : Nat) : Int)]) ?_
  refine cw_keep [(0, .pointer (some ⟨g, 0, none⟩)), (1, .slice A an ac), (2, .int .i64 (-1)), (3, .int .i64 ((width : Nat) : Int))] ⟨rfl, rfl, rfl, rfl, trivial⟩ ?_
  refine cw_seq ?_
  refine cw_seq ?_
  refine cw_region ?_
  refine wl_move rfl rfl (by decide) ?_
  refine wl_cmp rfl rfl rfl true (by decide) (by decide) ?_
  refine wl_move rfl rfl (by decide) ?_
  refine wl_off rfl (by decide) ?_
  refine wl_off rfl (by decide) ?_
  refine wl_off rfl (by decide) ?_
  refine wl_pure rfl rfl (v := .bool true) (by decide) (by kernel_rfl) ?_
  refine wl_nil ?_
  refine eo_then ?_
  refine cw_true rfl ?_
  refine cw_seq ?_
  refine cw_region ?_
  refine wl_move rfl rfl (by decide) ?_
  refine wl_move rfl rfl (by decide) ?_
  refine wl_move rfl rfl (by decide) ?_
  refine wl_call rfl rfl (vs := [.pointer (some ⟨g, 0, none⟩), .slice A an ac, .int .i64 ((width : Nat) : Int)]) (by kernel_rfl) (by decide) (rx_plain hS hgS hbl hbu hW hO hgl (Nat.le_trans hlb (UpdW.refl lb w).size) ha hal hun hkk hwd hon) ?_
  rintro _ v1 ⟨rfl, A2, n3, c4, hb5, ho6, uw7, kp8⟩
  refine ret_intro ?_
  have hw1 : UpdW lb w v1 := (UpdW.refl lb w).then uw7
  have kk9 := (Kept.refl w OA).next kp8 (UpdW.refl lb w).size
  refine wl_nil ?_
  refine eo_then ?_
  refine cw_ret ?_
  refine eo_thenR ?_
  refine eo_ret [] rfl trivial ?_
  exact ⟨rfl, A2, _, _, hb5, ho6, hw1, kk9⟩
set_option maxHeartbeats 4000000 in
theorem rx_Text_low {w : World} {A : Option Addr} {an ac m base : Nat} (hS : Signs w) (hx : Wi w A an ac m) (hal : an ≤ 4194304) (hbl : 2 ≤ base) (hbu : base ≤ 36) (hl12 : (wd m).length ≤ 12) :
    Calls Tryd.prog 36 #[.slice A an ac, .int .i64 ((base : Nat) : Int)] w (Gv w (T2 (Is (.string (strB (txtN base m)))) (Is (.int .i64 0)))) := by
  refine sx_enter Tryd.func36 rfl (n := 73) rfl (Nat.le_of_ble_eq_true rfl) (args := [.slice A an ac, .int .i64 ((base : Nat) : Int)]) ?_
  refine cw_keep [(0, .slice A an ac), (1, .int .i64 ((base : Nat) : Int))] ⟨rfl, rfl, trivial⟩ ?_
  refine cw_seq ?_
  refine cw_region ?_
  refine wl_assign rfl rfl (by decide) ?_
  refine wl_assign rfl rfl (by decide) ?_
  refine wl_nil ?_
  refine eo_then ?_
  refine cw_seq ?_
  refine cw_seq ?_
  refine cw_region ?_
  refine wl_move rfl rfl (by decide) ?_
  refine wl_cmp rfl rfl rfl false (cb_lt_f (a := base) (b := 2) rfl rfl (by omega)) (by decide) ?_
  refine wl_move rfl rfl (by decide) ?_
  refine wl_move rfl rfl (by decide) ?_
  refine wl_cmp rfl rfl rfl false (cb_gt_f (a := base) (b := 36) rfl rfl (by omega)) (by decide) ?_
  refine wl_pure rfl rfl (v := .bool false) (by decide) (by kernel_rfl) ?_
  refine wl_nil ?_
  refine eo_then ?_
  refine cw_false rfl ?_
  refine cw_skip ?_
  refine eo_then ?_
  refine cw_seq ?_
  refine cw_region ?_
  refine wl_move rfl rfl (by decide) ?_
  refine wl_call rfl rfl (vs := [.slice A an ac]) (by kernel_rfl) (by decide) (g_nat_LeastW (hx.ext (Ext.refl w)) (by omega)) ?_
  rintro _ v1 ⟨xr3, rfl, r3, e2⟩
  refine ret_intro ?_
  have hw1 : Ext w v1 := (Ext.refl w).trans e2
  obtain ⟨A4, n4, c4, rfl, j4, o4⟩ := r3
  refine wl_assign rfl rfl (by decide) ?_
  refine wl_nil ?_
  refine eo_then ?_
  refine cw_seq ?_
  refine cw_seq ?_
  by_cases hz0 : n4 = 0
  ·
    have hm0 : m = 0 := len_wd_zero.1 (by omega)
    refine cw_region ?_
    refine wl_move rfl rfl (by decide) ?_
    refine wl_pure rfl rfl (v := .int .i64 ((n4 : Nat) : Int)) (by decide) (by kernel_rfl) ?_
    refine wl_cmp rfl rfl rfl true (cb_eq_t (a := n4) (b := 0) rfl rfl (by omega)) (by decide) ?_
    refine wl_nil ?_
    refine eo_then ?_
    refine cw_true rfl ?_
    refine cw_seq ?_
    refine cw_region ?_
    refine wl_assign rfl rfl (by decide) ?_
    refine wl_assign rfl rfl (by decide) ?_
    refine wl_nil ?_
    refine eo_then ?_
    refine cw_ret ?_
    refine eo_thenR ?_
    refine eo_ret [.string (strB ([48])), .int .i64 0] rfl ⟨rfl, rfl, trivial⟩ ?_
    have hstr : ([48] : List Nat) = txtN base m := by subst hm0; rfl
    exact ⟨_, rfl, ⟨_, _, rfl, (show Value.string _ = Value.string _ from congrArg (fun l => Value.string (strB l)) hstr), rfl⟩, hw1⟩
  ·
    have hm0 : m ≠ 0 := fun e => hz0 (by rw [j4, e]; rfl)
    refine cw_region ?_
    refine wl_move rfl rfl (by decide) ?_
    refine wl_pure rfl rfl (v := .int .i64 ((n4 : Nat) : Int)) (by decide) (by kernel_rfl) ?_
    refine wl_cmp rfl rfl rfl false (cb_eq_f (a := n4) (b := 0) rfl rfl (by omega)) (by decide) ?_
    refine wl_nil ?_
    refine eo_then ?_
    refine cw_false rfl ?_
    refine cw_skip ?_
    refine eo_then ?_
    refine cw_seq ?_
    refine cw_region ?_
    refine wl_move rfl rfl (by decide) ?_
    refine wl_call rfl rfl (vs := [.int .i64 ((base : Nat) : Int)]) (by kernel_rfl) (by decide) (rx_piece hbl hbu) ?_
    rintro _ v5 ⟨k8, p9, xr7, rfl, r7, e6⟩
    refine ret_intro ?_
    have hw2 : Ext w v5 := hw1.trans e6
    obtain ⟨a10_0, a10_1, rfl, r10_0, r10_1⟩ := r7
    obtain rfl := r10_0
    obtain rfl := r10_1
    refine wl_move rfl rfl (by decide) ?_
    refine wl_pure rfl rfl (v := .int .i64 ((k8 : Nat) : Int)) (by decide) (by kernel_rfl) ?_
    refine wl_pure rfl rfl (v := .int .u64 ((base ^ k8 : Nat) : Int)) (by decide) (by kernel_rfl) ?_
    refine wl_assign rfl rfl (by decide) ?_
    refine wl_assign rfl rfl (by decide) ?_
    refine wl_nil ?_
    refine eo_then ?_
    refine cw_seq ?_
    refine cw_region ?_
    refine wl_move rfl rfl (by decide) ?_
    refine wl_move rfl rfl (by decide) ?_
    refine wl_move rfl rfl (by decide) ?_
    refine wl_pure rfl rfl (v := .agg #[.int .i64 ((base : Nat) : Int), .int .i64 ((k8 : Nat) : Int), .int .u64 ((base ^ k8 : Nat) : Int), .slice none 0 0, .slice none 0 0]) (by decide) (by kernel_rfl) ?_
    refine wl_box rfl rfl (vs := [.int .i64 ((base : Nat) : Int), .int .i64 ((k8 : Nat) : Int), .int .u64 ((base ^ k8 : Nat) : Int), .slice none 0 0, .slice none 0 0]) rfl (by decide) fun g11 v12 nb => ?_
    have hgl := Nat.le_of_eq nb.at_
    have hle0 : w.heap.size ≤ v5.heap.size := hw2.size
    have hb14 := nb.bk
    have ge15 : w.heap.size ≤ g11 := by rw [← nb.at_]; exact hw2.size
    have e13 := nb.ext
    clear nb
    have hw3 : Ext w v12 := hw2.trans e13
    refine wl_assign rfl rfl (by decide) ?_
    refine wl_nil ?_
    refine eo_then ?_
    refine cw_seq ?_
    refine cw_seq ?_
    refine cw_region ?_
    refine wl_move rfl rfl (by decide) ?_
    refine wl_pure rfl rfl (v := .int .i64 ((n4 : Nat) : Int)) (by decide) (by kernel_rfl) ?_
    refine wl_cmp rfl rfl rfl false (cb_gt_f (a := n4) (b := 12) rfl rfl (by omega)) (by decide) ?_
    refine wl_nil ?_
    refine eo_then ?_
    refine cw_false rfl ?_
    refine cw_skip ?_
    refine eo_then ?_
    refine cw_seq ?_
    refine cw_region ?_
    refine wl_move rfl rfl (by decide) ?_
    refine wl_move rfl rfl (by decide) ?_
    refine wl_move rfl rfl (by decide) ?_
    refine wl_pure rfl rfl (v := .pointer (some ⟨g11, 0, none⟩)) (by decide) (by kernel_rfl) ?_
    refine wl_pure rfl rfl (v := .pointer (some ⟨g11, 3, none⟩)) (by decide) (by kernel_rfl) ?_
    refine wl_load rfl rfl (load_cell (fun _ => by kernel_rfl) hb14 rfl) (by decide) ?_
    refine wl_pure rfl rfl (v := .int .i64 0) (by decide) (by kernel_rfl) ?_
    refine wl_ar rfl rfl rfl (-1) (ar_i64s rfl (by decide) (by decide)) (by decide) ?_
    refine wl_call rfl rfl (vs := [.pointer (some ⟨g11, 0, none⟩), .slice A4 n4 c4, .int .i64 (-1), .int .i64 0]) (by kernel_rfl) (by decide) (rx_halves_low (lb := v5.heap.size) (bs := []) (hS.ext hw3) (Nat.lt_of_lt_of_le (World.block_lt_of_cell? w _ (hS 0 (by decide))) hle0) hbl hbu hb14 (Own.nil _ _ _ _) hgl (e13.size) (o4.ext (e6.trans e13)).wi (by omega) rfl p9 (by decide) (by decide)) ?_
    rintro _ v16 ⟨rfl, A17, n18, c19, hb20, ho21, uw22, kp23⟩
    refine ret_intro ?_
    have hw4 : Ext w v16 := uw22.ext hw3 hle0
    refine wl_nil ?_
    refine eo_then ?_
    refine cw_seq ?_
    refine cw_region ?_
    refine wl_move rfl rfl (by decide) ?_
    refine wl_pure rfl rfl (v := .pointer (some ⟨g11, 0, none⟩)) (by decide) (by kernel_rfl) ?_
    refine wl_pure rfl rfl (v := .pointer (some ⟨g11, 4, none⟩)) (by decide) (by kernel_rfl) ?_
    refine wl_load rfl rfl (load_cell (fun _ => by kernel_rfl) hb20 rfl) (by decide) ?_
    refine wl_toStr rfl rfl ho21 (by decide) ?_
    refine wl_assign rfl rfl (by decide) ?_
    refine wl_assign rfl rfl (by decide) ?_
    refine wl_nil ?_
    refine eo_then ?_
    refine cw_ret ?_
    refine eo_ret [.string (strB ([] ++ txt (padTo (db base m) 0))), .int .i64 0] rfl ⟨rfl, rfl, trivial⟩ ?_
    have hstr : ([] ++ txt (padTo (db base m) 0) : List Nat) = txtN base m := by rw [List.nil_append, padTo_of (Nat.zero_le _), txtN, if_neg hm0]
    exact ⟨_, rfl, ⟨_, _, rfl, (show Value.string _ = Value.string _ from congrArg (fun l => Value.string (strB l)) hstr), rfl⟩, hw4⟩
set_option maxHeartbeats 4000000 in
theorem rx_Dec {w : World} {A : Option Addr} {an ac m : Nat} (hS : Signs w) (hx : Wi w A an ac m) (hal : an ≤ 4194304) (hl12 : (wd m).length ≤ 12)  :
    Calls Tryd.prog 42 #[.slice A an ac] w (Gv w (Is (.string (strB (txtN 10 m))))) := by
  refine sx_enter Tryd.func42 rfl (n := 11) rfl (Nat.le_of_ble_eq_true rfl) (args := [.slice A an ac]) ?_
  refine cw_keep [(0, .slice A an ac)] ⟨rfl, trivial⟩ ?_
  refine cw_seq ?_
  refine cw_region ?_
  refine wl_assign rfl rfl (by decide) ?_
  refine wl_nil ?_
  refine eo_then ?_
  refine cw_seq ?_
  refine cw_region ?_
  refine wl_move rfl rfl (by decide) ?_
  refine wl_call rfl rfl (vs := [.slice A an ac, .int .i64 10]) (by kernel_rfl) (by decide) (rx_Text_low (base := 10) (hS.ext (Ext.refl w)) hx (by omega) (by decide) (by decide) hl12) ?_
  rintro _ v1 ⟨xr3, rfl, r3, e2⟩
  refine ret_intro ?_
  have hw1 : Ext w v1 := (Ext.refl w).trans e2
  obtain ⟨a4_0, a4_1, rfl, r4_0, r4_1⟩ := r3
  obtain rfl := r4_0
  obtain rfl := r4_1
  refine wl_move rfl rfl (by decide) ?_
  refine wl_pure rfl rfl (v := .string (strB (txtN 10 m))) (by decide) (by kernel_rfl) ?_
  refine wl_pure rfl rfl (v := .int .i64 0) (by decide) (by kernel_rfl) ?_
  refine wl_assign rfl rfl (by decide) ?_
  refine wl_assign rfl rfl (by decide) ?_
  refine wl_nil ?_
  refine eo_then ?_
  refine cw_seq ?_
  refine cw_region ?_
  refine wl_move rfl rfl (by decide) ?_
  refine wl_assign rfl rfl (by decide) ?_
  refine wl_nil ?_
  refine eo_then ?_
  refine cw_ret ?_
  refine eo_ret [.string (strB (txtN 10 m))] rfl ⟨rfl, trivial⟩ ?_
  exact ⟨_, rfl, rfl, hw1⟩
set_option maxHeartbeats 4000000 in
theorem rx_zText {w : World} {sa : Bool} {Aa : Option Addr} {na ca : Nat} {x : Int} (hx : Zi w sa Aa na ca x) (la : na ≤ 4194304) (hS : Signs w) (hl12 : (wd x.natAbs).length ≤ 12) :
    Calls Tryd.prog 53 #[.agg #[.bool sa, .slice Aa na ca]] w (Gv w (Is (.string (strB (txtZ x))))) := by
  have Lx : ln x ≤ 4194304 := Nat.le_trans hx.ln la
  refine sx_enter Tryd.func53 rfl (n := 13) rfl (Nat.le_of_ble_eq_true rfl) (args := [.agg #[.bool sa, .slice Aa na ca]]) ?_
  refine cw_keep [(0, .agg #[.bool sa, .slice Aa na ca])] ⟨rfl, trivial⟩ ?_
  refine cw_seq ?_
  refine cw_region ?_
  refine wl_box rfl rfl (vs := [.bool sa, .slice Aa na ca]) rfl (by decide) fun g1 v2 nb => ?_
  have hb4 := nb.bk
  have ge5 : w.heap.size ≤ g1 := by rw [← nb.at_]; exact (Ext.refl w).size
  have e3 := nb.ext
  clear nb
  have hw1 : Ext w v2 := (Ext.refl w).trans e3
  refine wl_assign rfl rfl (by decide) ?_
  refine wl_nil ?_
  refine eo_then ?_
  refine cw_seq ?_
  refine cw_region ?_
  refine wl_pure rfl rfl (v := .pointer (some ⟨g1, 1, none⟩)) (by decide) (by kernel_rfl) ?_
  refine wl_load rfl rfl (load_cell cellWords hb4 rfl) (by decide) ?_
  refine wl_call rfl rfl (vs := [.slice Aa na ca]) (by kernel_rfl) (by decide) (rx_Dec (hS.ext hw1) (hx.ext hw1).wi (by omega) hl12) ?_
  rintro _ v6 ⟨xr8, rfl, r8, e7⟩
  refine ret_intro ?_
  have hw2 : Ext w v6 := hw1.trans e7
  obtain rfl := r8
  refine wl_assign rfl rfl (by decide) ?_
  refine wl_nil ?_
  refine eo_then ?_
  refine cw_seq ?_
  refine cw_seq ?_
  by_cases hx0 : x < 0
  ·
    refine cw_region ?_
    refine wl_load rfl rfl (load_agg aggInt (hb4.ext e7) [.bool sa, .slice Aa na ca] rfl (Nat.le_of_ble_eq_true rfl) rfl) (by decide) ?_
    refine wl_call rfl rfl (vs := [.agg #[.bool sa, .slice Aa na ca]]) (by kernel_rfl) (by decide) (g_zint_Sign (hx.ext hw2) (Nat.le_trans la (by decide))) ?_
    rintro _ v9 ⟨xr11, rfl, r11, e10⟩
    refine ret_intro ?_
    have hw3 : Ext w v9 := hw2.trans e10
    obtain rfl := r11
    refine wl_cmp rfl rfl rfl true (scmp_lt_t hx0) (by decide) ?_
    refine wl_nil ?_
    refine eo_then ?_
    refine cw_true rfl ?_
    refine cw_seq ?_
    refine cw_region ?_
    refine wl_move rfl rfl (by decide) ?_
    refine wl_op rfl rfl rfl (r := .string (strB (([45]) ++ (txtN 10 (Int.natAbs x))))) rfl (fun w => str_add (a := [45]) (b := txtN 10 (Int.natAbs x)) (by have := txtN_len (b := 10) (by decide) hl12; show 1 + _ ≤ _; omega)) (by decide) ?_
    refine wl_assign rfl rfl (by decide) ?_
    refine wl_nil ?_
    refine eo_then ?_
    refine cw_ret ?_
    refine eo_thenR ?_
    refine eo_ret [.string (strB (([45]) ++ (txtN 10 (Int.natAbs x))))] rfl ⟨rfl, trivial⟩ ?_
    exact ⟨_, rfl, (show Value.string _ = .string (strB (txtZ x)) by rw [txtZ, if_pos hx0]), hw3⟩
  ·
    refine cw_region ?_
    refine wl_load rfl rfl (load_agg aggInt (hb4.ext e7) [.bool sa, .slice Aa na ca] rfl (Nat.le_of_ble_eq_true rfl) rfl) (by decide) ?_
    refine wl_call rfl rfl (vs := [.agg #[.bool sa, .slice Aa na ca]]) (by kernel_rfl) (by decide) (g_zint_Sign (hx.ext hw2) (Nat.le_trans la (by decide))) ?_
    rintro _ v12 ⟨xr14, rfl, r14, e13⟩
    refine ret_intro ?_
    have hw3 : Ext w v12 := hw2.trans e13
    obtain rfl := r14
    refine wl_cmp rfl rfl rfl false (scmp_lt_f (by omega)) (by decide) ?_
    refine wl_nil ?_
    refine eo_then ?_
    refine cw_false rfl ?_
    refine cw_skip ?_
    refine eo_then ?_
    refine cw_seq ?_
    refine cw_region ?_
    refine wl_move rfl rfl (by decide) ?_
    refine wl_assign rfl rfl (by decide) ?_
    refine wl_nil ?_
    refine eo_then ?_
    refine cw_ret ?_
    refine eo_ret [.string (strB (txtN 10 (Int.natAbs x)))] rfl ⟨rfl, trivial⟩ ?_
    exact ⟨_, rfl, (show Value.string _ = .string (strB (txtZ x)) by rw [txtZ, if_neg hx0]), hw3⟩
end Go.Proofs.YtmjdmjflgiicaaaDoor

namespace Go.Proofs.YtmjdmjflgiicaaaDoor
open Go.RowKit
theorem g_same5 {w : World} {b b' : Nat} {A B : Option Addr} {n c m d k : Nat} (hx : Own w b 48 1 A n c ((wd k).map W64)) (hl : n ≤ 1099511627776) (hy : Own w b' 48 1 B m d ((wd k).map W64)) (hl' : m ≤ 1099511627776) :
    Calls Tryd.prog 37 #[.slice A n c, .slice B m d] w (Gv w (Is (.bool true))) := by
  have h := ref1_Same (hx.rd (Wf_wd _)) hl (hy.rd (Wf_wd _)) hl'
  rw [decide_eq_true rfl] at h
  exact h.mono gbool
theorem zi_m3 {w w' : World} {g : Nat} (h : NewBk w w' g 48 [.int .u64 3, .int .u64 0]) : Zi w' true (some ⟨g, 0, none⟩) 2 2 (-3) := by
  refine ⟨[3, 0], ⟨⟨rfl, Nat.le_refl _, by decide, fun i hi => ⟨_, rfl, ?_⟩, fun a ha _ => by cases ha; exact h.bk.lt⟩, ?_⟩, by decide +kernel⟩
  · rw [add_lit0, Nat.zero_add, h.bk.cell (by simpa using hi)]; rfl
  · intro x hx
    rw [WB_def]
    rcases List.mem_cons.1 hx with rfl | hx
    · decide
    · rw [List.mem_singleton] at hx; subst hx; decide
set_option maxHeartbeats 4000000 in
theorem g_law5_alike {w : World} {b1 b2 : Nat} {sa sb : Bool} {Aa Ab : Option Addr} {na ca nb cb : Nat} {x : Int} (ha : Zr w b1 sa Aa na ca x) (la : na ≤ 1099511627776) (hb : Zr w b2 sb Ab nb cb x) (lb : nb ≤ 1099511627776)  :
    Calls Tryd.prog 23 #[.agg #[.bool sa, .slice Aa na ca], .agg #[.bool sb, .slice Ab nb cb]] w (Gv w (Is (.bool true))) := by
  refine sx_enter Tryd.func23 rfl (n := 17) rfl (Nat.le_of_ble_eq_true rfl) (args := [.agg #[.bool sa, .slice Aa na ca], .agg #[.bool sb, .slice Ab nb cb]]) ?_
  refine cw_keep [(0, .agg #[.bool sa, .slice Aa na ca]), (1, .agg #[.bool sb, .slice Ab nb cb])] ⟨rfl, rfl, trivial⟩ ?_
  refine cw_seq ?_
  refine cw_region ?_
  refine wl_box rfl rfl (vs := [.bool sa, .slice Aa na ca]) rfl (by decide) fun g1 v2 nb => ?_
  have hb4 := nb.bk
  have ge5 : w.heap.size ≤ g1 := by rw [← nb.at_]; exact (Ext.refl w).size
  have e3 := nb.ext
  clear nb
  have hw1 : Ext w v2 := (Ext.refl w).trans e3
  refine wl_box rfl rfl (vs := [.bool sb, .slice Ab nb cb]) rfl (by decide) fun g6 v7 nb => ?_
  have hb9 := nb.bk
  have ge10 : w.heap.size ≤ g6 := by rw [← nb.at_]; exact hw1.size
  have q11 : g1 < g6 := by rw [← nb.at_]; exact hb4.lt
  have e8 := nb.ext
  clear nb
  have hw2 : Ext w v7 := hw1.trans e8
  refine wl_assign rfl rfl (by decide) ?_
  refine wl_nil ?_
  refine eo_then ?_
  refine cw_seq ?_
  by_cases hx0 : x < 0
  ·
    obtain rfl : sa = true := by rw [ha.sgn, decide_eq_true hx0]
    obtain rfl : sb = true := by rw [hb.sgn, decide_eq_true hx0]
    refine cw_region ?_
    refine wl_pure rfl rfl (v := .pointer (some ⟨g1, 0, none⟩)) (by decide) (by kernel_rfl) ?_
    refine wl_load rfl rfl (load_cell cellBool (hb4.ext e8) rfl) (by decide) ?_
    refine wl_pure rfl rfl (v := .pointer (some ⟨g6, 0, none⟩)) (by decide) (by kernel_rfl) ?_
    refine wl_load rfl rfl (load_cell cellBool hb9 rfl) (by decide) ?_
    refine wl_pure rfl rfl (v := .bool true) (by decide) (by kernel_rfl) ?_
    refine wl_move rfl rfl (by decide) ?_
    refine wl_pure rfl rfl (v := .pointer (some ⟨g1, 1, none⟩)) (by decide) (by kernel_rfl) ?_
    refine wl_load rfl rfl (load_cell cellWords (hb4.ext e8) rfl) (by decide) ?_
    refine wl_pure rfl rfl (v := .pointer (some ⟨g6, 1, none⟩)) (by decide) (by kernel_rfl) ?_
    refine wl_load rfl rfl (load_cell cellWords hb9 rfl) (by decide) ?_
    refine wl_call rfl rfl (vs := [.slice Aa na ca, .slice Ab nb cb]) (by kernel_rfl) (by decide) (g_same5 (ha.ext (e3.trans e8)).own la (hb.ext (e3.trans e8)).own lb) ?_
    rintro _ v12 ⟨xr14, rfl, r14, e13⟩
    refine ret_intro ?_
    have hw3 : Ext w v12 := hw2.trans e13
    obtain rfl := r14
    refine wl_pure rfl rfl (v := .bool true) (by decide) (by kernel_rfl) ?_
    refine wl_assign rfl rfl (by decide) ?_
    refine wl_nil ?_
    refine eo_then ?_
    refine cw_ret ?_
    refine eo_ret [.bool true] rfl ⟨rfl, trivial⟩ ?_
    exact ⟨_, rfl, rfl, hw3⟩
  ·
    obtain rfl : sa = false := by rw [ha.sgn, decide_eq_false hx0]
    obtain rfl : sb = false := by rw [hb.sgn, decide_eq_false hx0]
    refine cw_region ?_
    refine wl_pure rfl rfl (v := .pointer (some ⟨g1, 0, none⟩)) (by decide) (by kernel_rfl) ?_
    refine wl_load rfl rfl (load_cell cellBool (hb4.ext e8) rfl) (by decide) ?_
    refine wl_pure rfl rfl (v := .pointer (some ⟨g6, 0, none⟩)) (by decide) (by kernel_rfl) ?_
    refine wl_load rfl rfl (load_cell cellBool hb9 rfl) (by decide) ?_
    refine wl_pure rfl rfl (v := .bool true) (by decide) (by kernel_rfl) ?_
    refine wl_move rfl rfl (by decide) ?_
    refine wl_pure rfl rfl (v := .pointer (some ⟨g1, 1, none⟩)) (by decide) (by kernel_rfl) ?_
    refine wl_load rfl rfl (load_cell cellWords (hb4.ext e8) rfl) (by decide) ?_
    refine wl_pure rfl rfl (v := .pointer (some ⟨g6, 1, none⟩)) (by decide) (by kernel_rfl) ?_
    refine wl_load rfl rfl (load_cell cellWords hb9 rfl) (by decide) ?_
    refine wl_call rfl rfl (vs := [.slice Aa na ca, .slice Ab nb cb]) (by kernel_rfl) (by decide) (g_same5 (ha.ext (e3.trans e8)).own la (hb.ext (e3.trans e8)).own lb) ?_
    rintro _ v15 ⟨xr17, rfl, r17, e16⟩
    refine ret_intro ?_
    have hw3 : Ext w v15 := hw2.trans e16
    obtain rfl := r17
    refine wl_pure rfl rfl (v := .bool true) (by decide) (by kernel_rfl) ?_
    refine wl_assign rfl rfl (by decide) ?_
    refine wl_nil ?_
    refine eo_then ?_
    refine cw_ret ?_
    refine eo_ret [.bool true] rfl ⟨rfl, trivial⟩ ?_
    exact ⟨_, rfl, rfl, hw3⟩
set_option maxHeartbeats 4000000 in
theorem g_law5_awake {w : World} (hS : Signs w) :
    Calls Tryd.prog 14 #[] w (Gv w (Is (.bool true))) := by
  refine sx_enter Tryd.func14 rfl (n := 29) rfl (Nat.le_of_ble_eq_true rfl) (args := []) ?_
  refine cw_keep [] trivial ?_
  refine cw_seq ?_
  refine cw_region ?_
  refine wl_assign rfl rfl (by decide) ?_
  refine wl_nil ?_
  refine eo_then ?_
  refine cw_seq ?_
  refine cw_region ?_
  refine wl_bslice rfl rfl (by decide) (k := 2) (e := 48) [.int .u64 3, .int .u64 0] (fun _ => by kernel_rfl) fun g1 v2 nb => ?_
  have z4 := zi_m3 nb
  have e3 := nb.ext
  clear nb
  have hw1 : Ext w v2 := (Ext.refl w).trans e3
  refine wl_pure rfl rfl (v := .agg #[.bool true, .slice (some ⟨g1, 0, none⟩) 2 2]) (by decide) (by kernel_rfl) ?_
  refine wl_bslice rfl rfl (by decide) (k := 1) (e := 48) [.int .u64 5] (fun _ => by kernel_rfl) fun g5 v6 nb7 => ?_
  have o8 := O1.mk_ (x := 5) (b := w.heap.size) nb7 hw1.size
  have e9 := nb7.ext
  have hw2 : Ext w v6 := hw1.trans e9
  have o11 := own1_wd o8 (by decide : 5 ≤ 18446744073709551615) (by decide : 5 ≠ 0)
  have j10 := len1 (by decide : 5 ≤ 18446744073709551615) (by decide : 5 ≠ 0)
  refine wl_pure rfl rfl (v := .agg #[.bool false, .slice (some ⟨g5, 0, none⟩) 1 1]) (by decide) (by kernel_rfl) ?_
  refine wl_call rfl rfl (vs := [.agg #[.bool true, .slice (some ⟨g1, 0, none⟩) 2 2], .agg #[.bool false, .slice (some ⟨g5, 0, none⟩) 1 1]]) (by kernel_rfl) (by decide) (g_zint_Mul hw2.size (z4.ext e9) (by decide) (Zr_nat j10 o11).zi ((Zr_nat j10 o11).le (Nat.le_trans (show ln ((5 : Nat) : Int) ≤ 1 by rw [ln_nat]; exact (Nat.le_of_eq j10.symm)) (by decide)))) ?_
  rintro _ v12 ⟨xr14, rfl, r14, e13⟩
  refine ret_intro ?_
  have hw3 : Ext w v12 := hw2.trans e13
  obtain ⟨s15, A15, n15, c15, rfl, z15⟩ := r14
  refine wl_alloc rfl (z := .agg #[.bool false, .slice none 0 0]) (vs := [.bool false, .slice none 0 0]) (fun _ => by kernel_rfl) rfl (by decide) fun g16 v17 nb => ?_
  have hb19 := nb.bk
  have ge20 : w.heap.size ≤ g16 := by rw [← nb.at_]; exact hw3.size
  have e18 := nb.ext
  clear nb
  have hw4 : Ext w v17 := hw3.trans e18
  have hb22 := hb19
  refine wl_stored rfl rfl rfl aggInt rfl hb22 (Nat.le_of_ble_eq_true rfl) rfl [.bool s15, .slice A15 n15 c15] rfl fun v21 hb23 u24 hs25 => ?_
  have hw5 : Ext w v21 := u24.ext hw4 ge20
  refine wl_nil ?_
  refine eo_then ?_
  refine cw_seq ?_
  refine cw_region ?_
  refine wl_load rfl rfl (load_agg aggInt hb23 [.bool s15, .slice A15 n15 c15] rfl (Nat.le_of_ble_eq_true rfl) rfl) (by decide) ?_
  refine wl_call rfl rfl (vs := [.agg #[.bool s15, .slice A15 n15 c15]]) (by kernel_rfl) (by decide) (by have h := rx_zText (x := -3 * ((5 : Nat) : Int)) ((z15.ext e18).updT hb22 u24).zi (z15.le (Nat.le_trans (show ln (-3 * ((5 : Nat) : Int)) ≤ 1 by decide +kernel) (by decide))) (hS.ext hw5) (by decide +kernel); rw [show txtZ (-3 * ((5 : Nat) : Int)) = [45, 49, 53] by decide +kernel] at h; exact h) ?_
  rintro _ v26 ⟨xr28, rfl, r28, e27⟩
  refine ret_intro ?_
  have hw6 : Ext w v26 := hw5.trans e27
  obtain rfl := r28
  refine wl_assign rfl rfl (by decide) ?_
  refine wl_nil ?_
  refine eo_then ?_
  refine cw_seq ?_
  have hlen := (((z15.ext e18).updT hb22 u24).ext e27).len
  rw [show ln (-3 * ((5 : Nat) : Int)) = 1 by decide +kernel] at hlen
  obtain rfl : s15 = true := by rw [(((z15.ext e18).updT hb22 u24).ext e27).sgn]; decide
  refine cw_region ?_
  refine wl_move rfl rfl (by decide) ?_
  refine wl_pure rfl rfl (v := .bool true) (by decide) (by kernel_rfl) ?_
  refine wl_move rfl rfl (by decide) ?_
  refine wl_pure rfl rfl (v := .pointer (some ⟨g16, 0, none⟩)) (by decide) (by kernel_rfl) ?_
  refine wl_load rfl rfl (load_cell cellBool (hb23.ext e27) rfl) (by decide) ?_
  refine wl_pure rfl rfl (v := .bool true) (by decide) (by kernel_rfl) ?_
  refine wl_move rfl rfl (by decide) ?_
  refine wl_pure rfl rfl (v := .pointer (some ⟨g16, 1, none⟩)) (by decide) (by kernel_rfl) ?_
  refine wl_load rfl rfl (load_cell cellWords (hb23.ext e27) rfl) (by decide) ?_
  refine wl_pure rfl rfl (v := .int .i64 ((n15 : Nat) : Int)) (by decide) (by kernel_rfl) ?_
  refine wl_cmp rfl rfl rfl true (eq_t (by omega)) (by decide) ?_
  refine wl_pure rfl rfl (v := .bool true) (by decide) (by kernel_rfl) ?_
  refine wl_move rfl rfl (by decide) ?_
  refine wl_pure rfl rfl (v := .pointer (some ⟨g16, 1, none⟩)) (by decide) (by kernel_rfl) ?_
  refine wl_load rfl rfl (load_cell cellWords (hb23.ext e27) rfl) (by decide) ?_
  obtain ⟨p9, hp9, hc9, hv9⟩ := (((z15.ext e18).updT hb22 u24).ext e27).rd.at (i := 0) (by omega)
  rw [show (wd (Int.natAbs (-3 * ((5 : Nat) : Int)))).getD 0 0 = 15 by decide +kernel] at hc9
  refine wl_idx rfl rfl rfl un_u64 sz_u64 0 rfl (by omega) p9 hp9 (by decide) ?_
  refine wl_load rfl rfl (load_cell1 ag_u64 hc9) (by decide) ?_
  refine wl_cmp rfl rfl rfl true (by decide) (by decide) ?_
  refine wl_pure rfl rfl (v := .bool true) (by decide) (by kernel_rfl) ?_
  refine wl_assign rfl rfl (by decide) ?_
  refine wl_nil ?_
  refine eo_then ?_
  refine cw_ret ?_
  refine eo_ret [.bool true] rfl ⟨rfl, trivial⟩ ?_
  exact ⟨_, rfl, rfl, hw6⟩
end Go.Proofs.YtmjdmjflgiicaaaDoor

namespace Go.Proofs.YtmjdmjflgiicaaaDoor
open Go.RowKit
theorem g_zint_CmpAbs {w : World} {s t : Bool} {A B : Option Addr} {n cap m cap' : Nat} {x y : Int} (hx : Zi w s A n cap x) (hl : n ≤ 68719476736) (hy : Zi w t B m cap' y) (hl' : m ≤ 68719476736) :
    Calls Tryd.prog 32 #[.agg #[.bool s, .slice A n cap], .agg #[.bool t, .slice B m cap']] w (Gv w (Is (.int .i64 (cmp3 (Int.natAbs x) (Int.natAbs y))))) := by
  refine (zint_CmpAbs hx hl hy hl').mono fun e w' h => ?_
  obtain ⟨c, h1, _, _, rfl, h2⟩ := h
  exact ⟨_, rfl, (show Value.int .i64 c = _ by rw [h1.out]), h2⟩
theorem scmp_cases (x y : Int) : (x < y ∧ scmp x y = -1) ∨ (x = y ∧ scmp x y = 0) ∨ (y < x ∧ scmp x y = 1) := by unfold scmp; split <;> (try split) <;> omega
theorem scmp_mul_bd (x y z t : Int) : -1 ≤ scmp x y * scmp z t ∧ scmp x y * scmp z t ≤ 1 := by
  rcases scmp_cases x y with ⟨_, e⟩ | ⟨_, e⟩ | ⟨_, e⟩ <;> rw [e] <;> have := scmp_bd z t <;> omega
theorem cmp3_lt5 {x y : Nat} (h : x < y) : cmpB .lss (cmp3 x y) 0 = some true := lt_t (cmp3_neg.2 h)
theorem cmp3_ge5 {x y : Nat} (h : x < y) : cmpB .geq (cmp3 x y) 0 = some false := ge_f (cmp3_neg.2 h)
set_option maxHeartbeats 4000000 in
theorem g_law5_within {w : World} {sa : Bool} {Aa : Option Addr} {na ca : Nat} {x : Int} {sb : Bool} {Ab : Option Addr} {nb cb : Nat} {y : Int} (hx : Zi w sa Aa na ca x) (la : na ≤ 17179869184) (hy : Zi w sb Ab nb cb y) (lb : nb ≤ 17179869184) (h0 : 0 ≤ x) (h1 : x < y.natAbs) :
    Calls Tryd.prog 18 #[.agg #[.bool sa, .slice Aa na ca], .agg #[.bool sb, .slice Ab nb cb]] w (Gv w (Is (.bool true))) := by
  have Lx : ln x ≤ 17179869184 := Nat.le_trans hx.ln la
  have Ly : ln y ≤ 17179869184 := Nat.le_trans hy.ln lb
  refine sx_enter Tryd.func18 rfl (n := 14) rfl (Nat.le_of_ble_eq_true rfl) (args := [.agg #[.bool sa, .slice Aa na ca], .agg #[.bool sb, .slice Ab nb cb]]) ?_
  refine cw_keep [(0, .agg #[.bool sa, .slice Aa na ca]), (1, .agg #[.bool sb, .slice Ab nb cb])] ⟨rfl, rfl, trivial⟩ ?_
  refine cw_seq ?_
  refine cw_region ?_
  refine wl_box rfl rfl (vs := [.bool sa, .slice Aa na ca]) rfl (by decide) fun g1 v2 nb => ?_
  have hb4 := nb.bk
  have ge5 : w.heap.size ≤ g1 := by rw [← nb.at_]; exact (Ext.refl w).size
  have e3 := nb.ext
  clear nb
  have hw1 : Ext w v2 := (Ext.refl w).trans e3
  refine wl_box rfl rfl (vs := [.bool sb, .slice Ab nb cb]) rfl (by decide) fun g6 v7 nb => ?_
  have hb9 := nb.bk
  have ge10 : w.heap.size ≤ g6 := by rw [← nb.at_]; exact hw1.size
  have q11 : g1 < g6 := by rw [← nb.at_]; exact hb4.lt
  have e8 := nb.ext
  clear nb
  have hw2 : Ext w v7 := hw1.trans e8
  refine wl_assign rfl rfl (by decide) ?_
  refine wl_nil ?_
  refine eo_then ?_
  refine cw_seq ?_
  refine cw_region ?_
  refine wl_load rfl rfl (load_agg aggInt (hb4.ext e8) [.bool sa, .slice Aa na ca] rfl (Nat.le_of_ble_eq_true rfl) rfl) (by decide) ?_
  refine wl_call rfl rfl (vs := [.agg #[.bool sa, .slice Aa na ca]]) (by kernel_rfl) (by decide) (g_zint_Sign (hx.ext hw2) (Nat.le_trans la (by decide))) ?_
  rintro _ v12 ⟨xr14, rfl, r14, e13⟩
  refine ret_intro ?_
  have hw3 : Ext w v12 := hw2.trans e13
  obtain rfl := r14
  refine wl_cmp rfl rfl rfl true (scmp_ge_t h0) (by decide) ?_
  refine wl_move rfl rfl (by decide) ?_
  refine wl_load rfl rfl (load_agg aggInt (hb4.ext (e8.trans e13)) [.bool sa, .slice Aa na ca] rfl (Nat.le_of_ble_eq_true rfl) rfl) (by decide) ?_
  refine wl_load rfl rfl (load_agg aggInt (hb9.ext e13) [.bool sb, .slice Ab nb cb] rfl (Nat.le_of_ble_eq_true rfl) rfl) (by decide) ?_
  refine wl_call rfl rfl (vs := [.agg #[.bool sa, .slice Aa na ca], .agg #[.bool sb, .slice Ab nb cb]]) (by kernel_rfl) (by decide) (g_zint_CmpAbs (hx.ext hw3) (Nat.le_trans la (by decide)) (hy.ext hw3) (Nat.le_trans lb (by decide))) ?_
  rintro _ v15 ⟨xr17, rfl, r17, e16⟩
  refine ret_intro ?_
  have hw4 : Ext w v15 := hw3.trans e16
  obtain rfl := r17
  refine wl_cmp rfl rfl rfl true (cmp3_lt5 (by omega)) (by decide) ?_
  refine wl_pure rfl rfl (v := .bool true) (by decide) (by kernel_rfl) ?_
  refine wl_assign rfl rfl (by decide) ?_
  refine wl_nil ?_
  refine eo_then ?_
  refine cw_ret ?_
  refine eo_ret [.bool true] rfl ⟨rfl, trivial⟩ ?_
  exact ⟨_, rfl, rfl, hw4⟩
end Go.Proofs.YtmjdmjflgiicaaaDoor

namespace Go.Proofs.YtmjdmjflgiicaaaDoor
open Go.RowKit
set_option maxHeartbeats 8000000 in
theorem zint_Floor_bad {w : World} {s t : Bool} {A B : Option Addr} {n cap m cap' : Nat} {x y : Int} (hx : Zi w s A n cap x) (hl : n ≤ 68719476736) (hy : Zi w t B m cap' y) (hl' : m ≤ 68719476736) (h0 : y = 0) :
    Calls Tryd.prog 28 #[.agg #[.bool s, .slice A n cap], .agg #[.bool t, .slice B m cap']] w (RetZZE w 0 0 4) := by
  have H0 := Lib.hid h0
  clear h0
  go_enter Tryd.func28, Tryd.ntmps28
  go_upto_region 1 with (fail)
  obtain ⟨g, g2, g3, g4, wa, hg4, hg3, hg2, hg, hwa, hb1, hb2, hb3, hb4, hea, l12, l23, l34, l4, n12, n21, n13, n31, n23, n32, n14, n41, n24, n42, n34, n43⟩ := boxes4 w 24 24 24 24 (.bool s) (.slice A n cap) (.bool t) (.slice B m cap') (.bool false) (.slice none 0 0) (.bool false) (.slice none 0 0)
  rw [hg4, hg3, hg2, hg, hwa]
  have hgw : w.heap.size ≤ g := Nat.le_of_eq hg
  clear hwa hg hg2 hg3 hg4
  obtain ⟨f1, f2, f3, f4⟩ := hb1.two
  obtain ⟨h1, h2, h3, h4⟩ := hb2.two
  go_wp2_with fail
  refine (zint_Trunc_bad (hx.ext hea) hl (hy.ext hea) hl' H0.out).mono ?_
  rintro e w1 ⟨sq, Aq, nq, cq, sr, Ar, nr, cr, rfl, zq, zr, hx1⟩
  clear f1 f2 f3 f4 h1 h2 h3 h4
  go_upto_region 2 with (fail)
  obtain ⟨g7, g8, v1, hg8, hg7, hv1, hb7, hb8, he, l78, l8, n78, n87⟩ := boxN2 w1 24 24 [.bool sq, .slice Aq nq cq] [.bool sr, .slice Ar nr cr]
  rw [hg8, hg7, hv1]
  have hs7 : w1.heap.size ≤ g7 := Nat.le_of_eq hg7
  have zq := zq.ext he
  have zr := zr.ext he
  have x1 := hx1.trans he
  have hb3 := hb3.ext x1
  have hb4 := hb4.ext x1
  have e1 := hea.trans x1
  have sz1 := hx1.size
  clear hg8 hg7 hv1 he hb1 hx1
  have hn37 : g3 ≠ g7 := by omega
  have hn38 : g3 ≠ g8 := by omega
  have hn47 : g4 ≠ g7 := by omega
  have hn48 : g4 ≠ g8 := by omega
  have hn73 := hn37.symm
  have hn83 := hn38.symm
  have hn74 := hn47.symm
  have hn84 := hn48.symm
  go_upto_region 5 with (fail)
  obtain ⟨f1, f2, f3, f4⟩ := hb7.two
  obtain ⟨h1, h2, h3, h4⟩ := hb8.two
  obtain ⟨i1, i2, i3, i4⟩ := hb3.two
  obtain ⟨k1, k2, k3, k4⟩ := hb4.two
  go_region_held3 (fun w' => w'.cell? ⟨g7, 0, none⟩ = some (.bool sq) ∧ w'.cell? ⟨g7, 1, none⟩ = some (.slice Aq nq cq) ∧ w'.cell? ⟨g8, 0, none⟩ = some (.bool sr) ∧ w'.cell? ⟨g8, 1, none⟩ = some (.slice Ar nr cr)) (go_keep) (fail)
  all_goals
    go_wp2_with fail
    first
    | (refine bodyPost_ret (res_iie rfl rfl rfl rfl (((hb3.drew).two_set _ _).two_far n34 _ _) (((hb4.drew).two_far n43 _ _).two_set _ _)) rfl ?_
       exact ⟨_, _, _, _, _, _, _, _, rfl, (((zq.ext (Ext.refl _).drew).upd (by omega) (Upd.two _ _)).upd (by omega) (Upd.two _ _)).mono (by omega), (((zr.ext (Ext.refl _).drew).upd (by omega) (Upd.two _ _)).upd (by omega) (Upd.two _ _)).mono (by omega), (Upd.two _ _).ext ((Upd.two _ _).ext e1.drew (by omega)) (by omega)⟩)
    | (refine bodyPost_ret (res_iie rfl rfl rfl rfl (((hb3.drew).two_far n34 _ _).two_set _ _) (((hb4.drew).two_set _ _).two_far n43 _ _)) rfl ?_
       exact ⟨_, _, _, _, _, _, _, _, rfl, (((zq.ext (Ext.refl _).drew).upd (by omega) (Upd.two _ _)).upd (by omega) (Upd.two _ _)).mono (by omega), (((zr.ext (Ext.refl _).drew).upd (by omega) (Upd.two _ _)).upd (by omega) (Upd.two _ _)).mono (by omega), (Upd.two _ _).ext ((Upd.two _ _).ext e1.drew (by omega)) (by omega)⟩)
end Go.Proofs.YtmjdmjflgiicaaaDoor
