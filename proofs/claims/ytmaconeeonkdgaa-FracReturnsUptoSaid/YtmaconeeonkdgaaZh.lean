/- zint: Euclid, Mod, Exact -/
import Derived.Test.YtmaconeeonkdgaaZg
namespace Go.Proofs.Ytmaconeeonkdgaa
open Go.RowKit

theorem ln_tdiv (x y : Int) : ln (x.tdiv y) ≤ ln x := ln_mono (by rw [Int.natAbs_tdiv]; exact Nat.div_le_self _ _)
theorem ln_tmod (x y : Int) : ln (x.tmod y) ≤ ln x := ln_mono (by rw [Int.natAbs_tmod]; exact Nat.mod_le _ _)
theorem ln_tmod' {x y : Int} (h : y ≠ 0) : ln (x.tmod y) ≤ ln y := ln_mono (Nat.le_of_lt (tmod_abs h))
theorem ediv_pos {x y : Int} (h : 0 ≤ x.tmod y) : x.tdiv y = x / y ∧ x.tmod y = x % y := by
  have h1 := Int.tdiv_mul_add_tmod x y
  rcases Int.lt_trichotomy y 0 with hy | hy | hy
  · have h2 : x.tmod y < -y := by have := tmod_abs (x := x) (y := y) (by omega); omega
    have e : x.tmod y = x % y := by
      have : x % y = (x.tmod y + y * x.tdiv y) % y := by rw [Int.mul_comm y]; congr 1; omega
      rw [this, Int.add_mul_emod_self_left, ← Int.emod_neg, Int.emod_eq_of_lt h h2]
    refine ⟨?_, e⟩
    have h3 := Int.mul_ediv_add_emod x y
    rw [← e] at h3
    refine Int.eq_of_mul_eq_mul_left (a := y) (by omega) ?_
    rw [Int.mul_comm y (x.tdiv y)]; omega
  · subst hy; simp
  · have h2 := Int.tmod_lt_of_pos x hy
    have e : x.tmod y = x % y := by
      have : x % y = (x.tmod y + y * x.tdiv y) % y := by rw [Int.mul_comm y]; congr 1; omega
      rw [this, Int.add_mul_emod_self_left, Int.emod_eq_of_lt h h2]
    refine ⟨?_, e⟩
    have h3 := Int.mul_ediv_add_emod x y
    rw [← e] at h3
    refine Int.eq_of_mul_eq_mul_left (a := y) (by omega) ?_
    rw [Int.mul_comm y (x.tdiv y)]; omega
theorem ediv_neg' {x y : Int} (h : x.tmod y < 0) (hy : y < 0) : x.tdiv y + 1 = x / y ∧ x.tmod y - y = x % y := by
  have h1 := Int.tdiv_mul_add_tmod x y
  have h2 : -(x.tmod y) < -y := by have := tmod_abs (x := x) (y := y) (by omega); omega
  have e : x.tmod y - y = x % y := by
    have : x % y = ((x.tmod y - y) + y * (x.tdiv y + 1)) % y := by rw [Int.mul_add, Int.mul_comm y]; congr 1; omega
    rw [this, Int.add_mul_emod_self_left, ← Int.emod_neg, Int.emod_eq_of_lt (by omega) (by omega)]
  refine ⟨?_, e⟩
  have h3 := Int.mul_ediv_add_emod x y
  rw [← e] at h3
  refine Int.eq_of_mul_eq_mul_left (a := y) (by omega) ?_
  rw [Int.mul_add, Int.mul_comm y (x.tdiv y)]; omega
theorem ediv_pos' {x y : Int} (h : x.tmod y < 0) (hy : 0 < y) : x.tdiv y - 1 = x / y ∧ x.tmod y + y = x % y := by
  have h1 := Int.tdiv_mul_add_tmod x y
  have h2 : -(x.tmod y) < y := by have := tmod_abs (x := x) (y := y) (by omega); omega
  have e : x.tmod y + y = x % y := by
    have : x % y = ((x.tmod y + y) + y * (x.tdiv y - 1)) % y := by rw [Int.mul_sub, Int.mul_comm y]; congr 1; omega
    rw [this, Int.add_mul_emod_self_left, Int.emod_eq_of_lt (by omega) (by omega)]
  refine ⟨?_, e⟩
  have h3 := Int.mul_ediv_add_emod x y
  rw [← e] at h3
  refine Int.eq_of_mul_eq_mul_left (a := y) (by omega) ?_
  rw [Int.mul_sub, Int.mul_comm y (x.tdiv y)]; omega

theorem g_zint_EuclidI {w : World} {sa : Bool} {Aa : Option Addr} {na ca : Nat} {x : Int} {sb : Bool} {Ab : Option Addr} {nb cb : Nat} {y : Int} (hx : Zi w sa Aa na ca x) (la : na ≤ 68719476736) (hy : Zi w sb Ab nb cb y) (lb : nb ≤ 68719476736) (h0 : y ≠ 0) :
    Calls Try.prog 89 #[.agg #[.bool sa, .slice Aa na ca], .agg #[.bool sb, .slice Ab nb cb]] w (Gv w (T3 (ZR w.heap.size (x / y)) (ZR w.heap.size (x % y)) (Is (.int .i64 0)))) := by
  have Lx : ln x ≤ 68719476736 := Nat.le_trans hx.ln la
  have Ly : ln y ≤ 68719476736 := Nat.le_trans hy.ln lb
  refine sx_enter Try.func89 rfl (n := 41) rfl (Nat.le_of_ble_eq_true rfl) (args := [.agg #[.bool sa, .slice Aa na ca], .agg #[.bool sb, .slice Ab nb cb]]) ?_
  refine cw_keep [(0, .agg #[.bool sa, .slice Aa na ca]), (1, .agg #[.bool sb, .slice Ab nb cb])] ⟨rfl, rfl, trivial⟩ ?_
  refine cw_seq ?_
  -- region 0
  refine cw_region ?_
  refine wl_box rfl rfl (vs := [.bool sa, .slice Aa na ca]) rfl (by decide) fun g1 v2 nb => ?_
  have hb4 := nb.bk
  have ge5 : w.heap.size ≤ g1 := by rw [← nb.at_]; exact (Ext.refl w).size
  have e3 := nb.ext
  clear nb
  have hw1 : Ext w v2 := (Ext.refl w).trans e3
  refine wl_box rfl rfl (vs := [.bool sb, .slice Ab nb cb]) rfl (by decide) fun g6 v7 nb => ?_
  have hb9 := nb.bk
  have ge10 : w.heap.size ≤ g6 := by rw [← nb.at_]; exact hw1.size
  have q11 : g1 < g6 := by rw [← nb.at_]; exact hb4.lt
  have e8 := nb.ext
  clear nb
  have hw2 : Ext w v7 := hw1.trans e8
  refine wl_alloc rfl (z := .agg #[.bool false, .slice none 0 0]) (vs := [.bool false, .slice none 0 0]) (fun _ => by kernel_rfl) rfl (by decide) fun g12 v13 nb => ?_
  have hb15 := nb.bk
  have ge16 : w.heap.size ≤ g12 := by rw [← nb.at_]; exact hw2.size
  have q17 : g6 < g12 := by rw [← nb.at_]; exact hb9.lt
  have e14 := nb.ext
  clear nb
  have hw3 : Ext w v13 := hw2.trans e14
  refine wl_alloc rfl (z := .agg #[.bool false, .slice none 0 0]) (vs := [.bool false, .slice none 0 0]) (fun _ => by kernel_rfl) rfl (by decide) fun g18 v19 nb => ?_
  have hb21 := nb.bk
  have ge22 : w.heap.size ≤ g18 := by rw [← nb.at_]; exact hw3.size
  have q23 : g12 < g18 := by rw [← nb.at_]; exact hb15.lt
  have e20 := nb.ext
  clear nb
  have hw4 : Ext w v19 := hw3.trans e20
  refine wl_assign rfl rfl (by decide) ?_
  refine wl_nil ?_
  refine eo_then ?_
  refine cw_seq ?_
  -- region 1
  refine cw_region ?_
  refine wl_load rfl rfl (load_agg aggInt (hb4.ext (e8.trans (e14.trans e20))) [.bool sa, .slice Aa na ca] rfl (Nat.le_of_ble_eq_true rfl) rfl) (by decide) ?_
  refine wl_load rfl rfl (load_agg aggInt (hb9.ext (e14.trans e20)) [.bool sb, .slice Ab nb cb] rfl (Nat.le_of_ble_eq_true rfl) rfl) (by decide) ?_
  have L24 : ln ((x).tdiv y) ≤ 68719476736 := Nat.le_trans (ln_tdiv _ _) Lx
  have L25 : ln ((x).tmod y) ≤ 68719476736 := Nat.le_trans (ln_tmod _ _) Lx
  refine wl_call rfl rfl (vs := [.agg #[.bool sa, .slice Aa na ca], .agg #[.bool sb, .slice Ab nb cb]]) (by kernel_rfl) (by decide) (g_zint_Trunc hw4.size (hx.ext hw4) (Nat.le_trans la (by decide)) (hy.ext hw4) (Nat.le_trans lb (by decide)) h0) ?_
  rintro _ v26 ⟨xr28, rfl, r28, e27⟩
  refine ret_intro ?_
  have hw5 : Ext w v26 := hw4.trans e27
  obtain ⟨a29_0, a29_1, a29_2, rfl, r29_0, r29_1, r29_2⟩ := r28
  obtain ⟨s30, A30, n30, c30, rfl, z30⟩ := r29_0
  obtain ⟨s31, A31, n31, c31, rfl, z31⟩ := r29_1
  obtain rfl := r29_2
  refine wl_move rfl rfl (by decide) ?_
  refine wl_pure rfl rfl (v := .agg #[.bool s30, .slice A30 n30 c30]) (by decide) (by kernel_rfl) ?_
  refine wl_pure rfl rfl (v := .agg #[.bool s31, .slice A31 n31 c31]) (by decide) (by kernel_rfl) ?_
  refine wl_pure rfl rfl (v := .int .i64 0) (by decide) (by kernel_rfl) ?_
  refine wl_alloc rfl (z := .agg #[.bool false, .slice none 0 0]) (vs := [.bool false, .slice none 0 0]) (fun _ => by kernel_rfl) rfl (by decide) fun g32 v33 nb => ?_
  have hb35 := nb.bk
  have ge36 : w.heap.size ≤ g32 := by rw [← nb.at_]; exact hw5.size
  have q37 : g18 < g32 := by rw [← nb.at_]; exact (hb21.ext e27).lt
  have e34 := nb.ext
  clear nb
  have hw6 : Ext w v33 := hw5.trans e34
  refine wl_alloc rfl (z := .agg #[.bool false, .slice none 0 0]) (vs := [.bool false, .slice none 0 0]) (fun _ => by kernel_rfl) rfl (by decide) fun g38 v39 nb => ?_
  have hb41 := nb.bk
  have ge42 : w.heap.size ≤ g38 := by rw [← nb.at_]; exact hw6.size
  have q43 : g32 < g38 := by rw [← nb.at_]; exact hb35.lt
  have e40 := nb.ext
  clear nb
  have hw7 : Ext w v39 := hw6.trans e40
  have hb45 := (hb35.ext e40)
  refine wl_stored rfl rfl rfl aggInt rfl hb45 (Nat.le_of_ble_eq_true rfl) rfl [.bool s30, .slice A30 n30 c30] rfl fun v44 hb46 u47 hs48 => ?_
  have hw8 : Ext w v44 := u47.ext hw7 ge36
  have hb50 := (hb41.updN u47 (by omega))
  refine wl_stored rfl rfl rfl aggInt rfl hb50 (Nat.le_of_ble_eq_true rfl) rfl [.bool s31, .slice A31 n31 c31] rfl fun v49 hb51 u52 hs53 => ?_
  have hw9 : Ext w v49 := u52.ext hw8 ge42
  refine wl_assign rfl rfl (by decide) ?_
  refine wl_nil ?_
  refine eo_then ?_
  refine cw_seq ?_
  refine cw_seq ?_
  by_cases hr : x.tmod y < 0
  ·
    obtain rfl : s31 = true := by rw [z31.sgn]; exact decide_eq_true hr
    -- region 2
    refine cw_region ?_
    refine wl_move rfl rfl (by decide) ?_
    refine wl_pure rfl rfl (v := .bool false) (by decide) (by kernel_rfl) ?_
    refine wl_move rfl rfl (by decide) ?_
    refine wl_pure rfl rfl (v := .pointer (some ⟨g38, 0, none⟩)) (by decide) (by kernel_rfl) ?_
    refine wl_load rfl rfl (load_cell cellBool hb51 rfl) (by decide) ?_
    refine wl_pure rfl rfl (v := .bool false) (by decide) (by kernel_rfl) ?_
    refine wl_pure rfl rfl (v := .bool false) (by decide) (by kernel_rfl) ?_
    refine wl_nil ?_
    refine eo_then ?_
    refine cw_false rfl ?_
    refine cw_skip ?_
    refine eo_then ?_
    refine cw_seq ?_
    refine cw_seq ?_
    by_cases hyn : y < 0
    ·
      obtain rfl : sb = true := by rw [hy.sgn h0]; exact decide_eq_true hyn
      have hq := ediv_neg' hr hyn
      -- region 4
      refine cw_region ?_
      refine wl_pure rfl rfl (v := .pointer (some ⟨g6, 0, none⟩)) (by decide) (by kernel_rfl) ?_
      refine wl_load rfl rfl (load_cell cellBool (((hb9.ext (e14.trans (e20.trans (e27.trans (e34.trans e40))))).updN u47 (by omega)).updN u52 (by omega)) rfl) (by decide) ?_
      refine wl_nil ?_
      refine eo_then ?_
      refine cw_true rfl ?_
      refine cw_seq ?_
      -- region 5, in whatever order
      have L55 : ln ((x.tdiv y) + 1) ≤ 68719476737 := Nat.le_trans (ln_add L24 (show ln (1) ≤ 1 by decide +kernel)) (by decide)
      have L57 : ln ((x.tmod y) - y) ≤ 68719476737 := Nat.le_trans (ln_sub L25 Ly) (by decide)
      refine cw_draw mix 6 [] [Is (.agg #[.bool s30, .slice A30 n30 c30]), ZR w.heap.size (1), ZR w.heap.size ((x.tdiv y) + 1), Is (.agg #[.bool true, .slice A31 n31 c31]), Is (.agg #[.bool true, .slice Ab nb cb]), ZR w.heap.size ((x.tmod y) - y)] [[], [], [0, 1], [], [], [3, 4]] [[], [], [0, 1], [], [], [0, 1, 2, 3, 4], [0, 1, 2, 3, 4, 5], [0, 1, 2, 3, 4, 5, 6], [0, 1, 2, 3, 4, 5, 6, 7]] rfl
        (obs_cons rfl rfl (hob rfl rfl ?_) (obs_cons rfl rfl (hob rfl rfl ?_) (obs_cons rfl rfl (hob rfl rfl ?_) (obs_cons rfl rfl (hob rfl rfl ?_) (obs_cons rfl rfl (hob rfl rfl ?_) (obs_cons rfl rfl (hob rfl rfl ?_) obs_nil)))))) ?_
      · -- 0
        intro v59 e60
        have hw10 : Ext w v59 := hw9.trans e60
        refine deps_nil ?_
        refine wl_load rfl rfl (load_agg aggInt ((hb46.updN u52 (by omega)).ext e60) [.bool s30, .slice A30 n30 c30] rfl (Nat.le_of_ble_eq_true rfl) rfl) (by decide) ?_
        exact pi_done rfl (Ext.refl _) rfl
      · -- 1
        intro v61 e62
        have hw10 : Ext w v61 := hw9.trans e62
        refine deps_nil ?_
        refine wl_call rfl rfl (vs := [.int .i64 1]) (by kernel_rfl) (by decide) (g_zint_Of hw10.size (by decide) (by decide)) ?_
        rintro _ v63 ⟨xr65, rfl, r65, e64⟩
        refine ret_intro ?_
        have hw11 : Ext w v63 := hw10.trans e64
        obtain ⟨s66, A66, n66, c66, rfl, z66⟩ := r65
        exact pi_done rfl e64 ⟨_, _, _, _, rfl, z66⟩
      · -- 2
        intro v67 e68
        have hw10 : Ext w v67 := hw9.trans e68
        refine deps_cons rfl rfl fun x69 y70 h71 e72 f73 => ?_
        obtain rfl := h71
        refine deps_cons rfl rfl fun x74 y75 h76 e77 f78 => ?_
        obtain ⟨s79, A79, n79, c79, rfl, z79⟩ := h76
        have z79 := z79.ext f78
        refine deps_nil ?_
        have L80 : ln ((x.tdiv y) + 1) ≤ 68719476737 := Nat.le_trans (ln_add L24 (show ln (1) ≤ 1 by decide +kernel)) (by decide)
        refine wl_call rfl rfl (vs := [.agg #[.bool s30, .slice A30 n30 c30], .agg #[.bool s79, .slice A79 n79 c79]]) (by kernel_rfl) (by decide) (g_zint_Add hw10.size ((((z30.ext (e34.trans e40)).updT hb45 u47).updT hb50 u52).ext e68).zi (z30.le (Nat.le_trans L24 (by decide))) z79.zi (z79.le (Nat.le_trans (show ln (1) ≤ 1 by decide +kernel) (by decide)))) ?_
        rintro _ v81 ⟨xr83, rfl, r83, e82⟩
        refine ret_intro ?_
        have hw11 : Ext w v81 := hw10.trans e82
        obtain ⟨s84, A84, n84, c84, rfl, z84⟩ := r83
        exact pi_done rfl e82 ⟨_, _, _, _, rfl, z84⟩
      · -- 3
        intro v85 e86
        have hw10 : Ext w v85 := hw9.trans e86
        refine deps_nil ?_
        refine wl_load rfl rfl (load_agg aggInt (hb51.ext e86) [.bool true, .slice A31 n31 c31] rfl (Nat.le_of_ble_eq_true rfl) rfl) (by decide) ?_
        exact pi_done rfl (Ext.refl _) rfl
      · -- 4
        intro v87 e88
        have hw10 : Ext w v87 := hw9.trans e88
        refine deps_nil ?_
        refine wl_load rfl rfl (load_agg aggInt ((((hb9.ext (e14.trans (e20.trans (e27.trans (e34.trans e40))))).updN u47 (by omega)).updN u52 (by omega)).ext e88) [.bool true, .slice Ab nb cb] rfl (Nat.le_of_ble_eq_true rfl) rfl) (by decide) ?_
        exact pi_done rfl (Ext.refl _) rfl
      · -- 5
        intro v89 e90
        have hw10 : Ext w v89 := hw9.trans e90
        refine deps_cons rfl rfl fun x91 y92 h93 e94 f95 => ?_
        obtain rfl := h93
        refine deps_cons rfl rfl fun x96 y97 h98 e99 f100 => ?_
        obtain rfl := h98
        refine deps_nil ?_
        have L101 : ln ((x.tmod y) - y) ≤ 68719476737 := Nat.le_trans (ln_sub L25 Ly) (by decide)
        refine wl_call rfl rfl (vs := [.agg #[.bool true, .slice A31 n31 c31], .agg #[.bool true, .slice Ab nb cb]]) (by kernel_rfl) (by decide) (g_zint_Sub hw10.size ((((z31.ext (e34.trans e40)).updT hb45 u47).updT hb50 u52).ext e90).zi (z31.le (Nat.le_trans L25 (by decide))) (hy.ext hw10) (Nat.le_trans lb (by decide))) ?_
        rintro _ v102 ⟨xr104, rfl, r104, e103⟩
        refine ret_intro ?_
        have hw11 : Ext w v102 := hw10.trans e103
        obtain ⟨s105, A105, n105, c105, rfl, z105⟩ := r104
        exact pi_done rfl e103 ⟨_, _, _, _, rfl, z105⟩
      · -- all
        intro v106 e107
        have hw10 : Ext w v106 := hw9.trans e107
        refine deps_cons rfl rfl fun x108 y109 h110 e111 f112 => ?_
        obtain rfl := h110
        refine deps_cons rfl rfl fun x113 y114 h115 e116 f117 => ?_
        obtain ⟨s118, A118, n118, c118, rfl, z118⟩ := h115
        have z118 := z118.ext f117
        refine deps_cons rfl rfl fun x119 y120 h121 e122 f123 => ?_
        obtain ⟨s124, A124, n124, c124, rfl, z124⟩ := h121
        have z124 := z124.ext f123
        refine deps_cons rfl rfl fun x125 y126 h127 e128 f129 => ?_
        obtain rfl := h127
        refine deps_cons rfl rfl fun x130 y131 h132 e133 f134 => ?_
        obtain rfl := h132
        refine deps_cons rfl rfl fun x135 y136 h137 e138 f139 => ?_
        obtain ⟨s140, A140, n140, c140, rfl, z140⟩ := h137
        have z140 := z140.ext f139
        refine deps_nil ?_
        have hb142 := ((((hb15.ext (e20.trans (e27.trans (e34.trans e40)))).updN u47 (by omega)).updN u52 (by omega)).ext e107)
        refine wl_stored rfl rfl rfl aggInt rfl hb142 (Nat.le_of_ble_eq_true rfl) rfl [.bool s124, .slice A124 n124 c124] rfl fun v141 hb143 u144 hs145 => ?_
        have hw11 : Ext w v141 := u144.ext hw10 ge16
        have hb147 := (((((hb21.ext (e27.trans (e34.trans e40))).updN u47 (by omega)).updN u52 (by omega)).ext e107).updN u144 (by omega))
        refine wl_stored rfl rfl rfl aggInt rfl hb147 (Nat.le_of_ble_eq_true rfl) rfl [.bool s140, .slice A140 n140 c140] rfl fun v146 hb148 u149 hs150 => ?_
        have hw12 : Ext w v146 := u149.ext hw11 ge22
        refine wl_assign rfl rfl (by decide) ?_
        refine wl_nil ?_
        refine eo_np ?_
        refine eo_then ?_
        refine cw_ret ?_
        refine eo_thenR ?_
        refine eo_ret [.agg #[.bool s124, .slice A124 n124 c124], .agg #[.bool s140, .slice A140 n140 c140], .int .i64 0] rfl ⟨⟨_, rfl, load_agg aggInt (hb143.updN u149 (by omega)) [.bool s124, .slice A124 n124 c124] rfl (Nat.le_of_ble_eq_true rfl) rfl⟩, ⟨_, rfl, load_agg aggInt hb148 [.bool s140, .slice A140 n140 c140] rfl (Nat.le_of_ble_eq_true rfl) rfl⟩, rfl, trivial⟩ ?_
        exact ⟨_, rfl, ⟨_, _, _, rfl, ⟨_, _, _, _, rfl, (((z124.updT hb142 u144).updT hb147 u149)).cast (hq.1)⟩, ⟨_, _, _, _, rfl, (((z140.updT hb142 u144).updT hb147 u149)).cast (hq.2)⟩, rfl⟩, hw12⟩
    ·
      obtain rfl : sb = false := by rw [hy.sgn h0]; exact decide_eq_false hyn
      have hq := ediv_pos' hr (by omega)
      -- region 4
      refine cw_region ?_
      refine wl_pure rfl rfl (v := .pointer (some ⟨g6, 0, none⟩)) (by decide) (by kernel_rfl) ?_
      refine wl_load rfl rfl (load_cell cellBool (((hb9.ext (e14.trans (e20.trans (e27.trans (e34.trans e40))))).updN u47 (by omega)).updN u52 (by omega)) rfl) (by decide) ?_
      refine wl_nil ?_
      refine eo_then ?_
      refine cw_false rfl ?_
      refine cw_skip ?_
      refine eo_then ?_
      refine cw_seq ?_
      -- region 6, in whatever order
      have L152 : ln ((x.tdiv y) - 1) ≤ 68719476737 := Nat.le_trans (ln_sub L24 (show ln (1) ≤ 1 by decide +kernel)) (by decide)
      have L154 : ln ((x.tmod y) + y) ≤ 68719476737 := Nat.le_trans (ln_add L25 Ly) (by decide)
      refine cw_draw mix 6 [] [Is (.agg #[.bool s30, .slice A30 n30 c30]), ZR w.heap.size (1), ZR w.heap.size ((x.tdiv y) - 1), Is (.agg #[.bool true, .slice A31 n31 c31]), Is (.agg #[.bool false, .slice Ab nb cb]), ZR w.heap.size ((x.tmod y) + y)] [[], [], [0, 1], [], [], [3, 4]] [[], [], [0, 1], [], [], [0, 1, 2, 3, 4], [0, 1, 2, 3, 4, 5], [0, 1, 2, 3, 4, 5, 6], [0, 1, 2, 3, 4, 5, 6, 7]] rfl
        (obs_cons rfl rfl (hob rfl rfl ?_) (obs_cons rfl rfl (hob rfl rfl ?_) (obs_cons rfl rfl (hob rfl rfl ?_) (obs_cons rfl rfl (hob rfl rfl ?_) (obs_cons rfl rfl (hob rfl rfl ?_) (obs_cons rfl rfl (hob rfl rfl ?_) obs_nil)))))) ?_
      · -- 0
        intro v156 e157
        have hw10 : Ext w v156 := hw9.trans e157
        refine deps_nil ?_
        refine wl_load rfl rfl (load_agg aggInt ((hb46.updN u52 (by omega)).ext e157) [.bool s30, .slice A30 n30 c30] rfl (Nat.le_of_ble_eq_true rfl) rfl) (by decide) ?_
        exact pi_done rfl (Ext.refl _) rfl
      · -- 1
        intro v158 e159
        have hw10 : Ext w v158 := hw9.trans e159
        refine deps_nil ?_
        refine wl_call rfl rfl (vs := [.int .i64 1]) (by kernel_rfl) (by decide) (g_zint_Of hw10.size (by decide) (by decide)) ?_
        rintro _ v160 ⟨xr162, rfl, r162, e161⟩
        refine ret_intro ?_
        have hw11 : Ext w v160 := hw10.trans e161
        obtain ⟨s163, A163, n163, c163, rfl, z163⟩ := r162
        exact pi_done rfl e161 ⟨_, _, _, _, rfl, z163⟩
      · -- 2
        intro v164 e165
        have hw10 : Ext w v164 := hw9.trans e165
        refine deps_cons rfl rfl fun x166 y167 h168 e169 f170 => ?_
        obtain rfl := h168
        refine deps_cons rfl rfl fun x171 y172 h173 e174 f175 => ?_
        obtain ⟨s176, A176, n176, c176, rfl, z176⟩ := h173
        have z176 := z176.ext f175
        refine deps_nil ?_
        have L177 : ln ((x.tdiv y) - 1) ≤ 68719476737 := Nat.le_trans (ln_sub L24 (show ln (1) ≤ 1 by decide +kernel)) (by decide)
        refine wl_call rfl rfl (vs := [.agg #[.bool s30, .slice A30 n30 c30], .agg #[.bool s176, .slice A176 n176 c176]]) (by kernel_rfl) (by decide) (g_zint_Sub hw10.size ((((z30.ext (e34.trans e40)).updT hb45 u47).updT hb50 u52).ext e165).zi (z30.le (Nat.le_trans L24 (by decide))) z176.zi (z176.le (Nat.le_trans (show ln (1) ≤ 1 by decide +kernel) (by decide)))) ?_
        rintro _ v178 ⟨xr180, rfl, r180, e179⟩
        refine ret_intro ?_
        have hw11 : Ext w v178 := hw10.trans e179
        obtain ⟨s181, A181, n181, c181, rfl, z181⟩ := r180
        exact pi_done rfl e179 ⟨_, _, _, _, rfl, z181⟩
      · -- 3
        intro v182 e183
        have hw10 : Ext w v182 := hw9.trans e183
        refine deps_nil ?_
        refine wl_load rfl rfl (load_agg aggInt (hb51.ext e183) [.bool true, .slice A31 n31 c31] rfl (Nat.le_of_ble_eq_true rfl) rfl) (by decide) ?_
        exact pi_done rfl (Ext.refl _) rfl
      · -- 4
        intro v184 e185
        have hw10 : Ext w v184 := hw9.trans e185
        refine deps_nil ?_
        refine wl_load rfl rfl (load_agg aggInt ((((hb9.ext (e14.trans (e20.trans (e27.trans (e34.trans e40))))).updN u47 (by omega)).updN u52 (by omega)).ext e185) [.bool false, .slice Ab nb cb] rfl (Nat.le_of_ble_eq_true rfl) rfl) (by decide) ?_
        exact pi_done rfl (Ext.refl _) rfl
      · -- 5
        intro v186 e187
        have hw10 : Ext w v186 := hw9.trans e187
        refine deps_cons rfl rfl fun x188 y189 h190 e191 f192 => ?_
        obtain rfl := h190
        refine deps_cons rfl rfl fun x193 y194 h195 e196 f197 => ?_
        obtain rfl := h195
        refine deps_nil ?_
        have L198 : ln ((x.tmod y) + y) ≤ 68719476737 := Nat.le_trans (ln_add L25 Ly) (by decide)
        refine wl_call rfl rfl (vs := [.agg #[.bool true, .slice A31 n31 c31], .agg #[.bool false, .slice Ab nb cb]]) (by kernel_rfl) (by decide) (g_zint_Add hw10.size ((((z31.ext (e34.trans e40)).updT hb45 u47).updT hb50 u52).ext e187).zi (z31.le (Nat.le_trans L25 (by decide))) (hy.ext hw10) (Nat.le_trans lb (by decide))) ?_
        rintro _ v199 ⟨xr201, rfl, r201, e200⟩
        refine ret_intro ?_
        have hw11 : Ext w v199 := hw10.trans e200
        obtain ⟨s202, A202, n202, c202, rfl, z202⟩ := r201
        exact pi_done rfl e200 ⟨_, _, _, _, rfl, z202⟩
      · -- all
        intro v203 e204
        have hw10 : Ext w v203 := hw9.trans e204
        refine deps_cons rfl rfl fun x205 y206 h207 e208 f209 => ?_
        obtain rfl := h207
        refine deps_cons rfl rfl fun x210 y211 h212 e213 f214 => ?_
        obtain ⟨s215, A215, n215, c215, rfl, z215⟩ := h212
        have z215 := z215.ext f214
        refine deps_cons rfl rfl fun x216 y217 h218 e219 f220 => ?_
        obtain ⟨s221, A221, n221, c221, rfl, z221⟩ := h218
        have z221 := z221.ext f220
        refine deps_cons rfl rfl fun x222 y223 h224 e225 f226 => ?_
        obtain rfl := h224
        refine deps_cons rfl rfl fun x227 y228 h229 e230 f231 => ?_
        obtain rfl := h229
        refine deps_cons rfl rfl fun x232 y233 h234 e235 f236 => ?_
        obtain ⟨s237, A237, n237, c237, rfl, z237⟩ := h234
        have z237 := z237.ext f236
        refine deps_nil ?_
        have hb239 := ((((hb15.ext (e20.trans (e27.trans (e34.trans e40)))).updN u47 (by omega)).updN u52 (by omega)).ext e204)
        refine wl_stored rfl rfl rfl aggInt rfl hb239 (Nat.le_of_ble_eq_true rfl) rfl [.bool s221, .slice A221 n221 c221] rfl fun v238 hb240 u241 hs242 => ?_
        have hw11 : Ext w v238 := u241.ext hw10 ge16
        have hb244 := (((((hb21.ext (e27.trans (e34.trans e40))).updN u47 (by omega)).updN u52 (by omega)).ext e204).updN u241 (by omega))
        refine wl_stored rfl rfl rfl aggInt rfl hb244 (Nat.le_of_ble_eq_true rfl) rfl [.bool s237, .slice A237 n237 c237] rfl fun v243 hb245 u246 hs247 => ?_
        have hw12 : Ext w v243 := u246.ext hw11 ge22
        refine wl_assign rfl rfl (by decide) ?_
        refine wl_nil ?_
        refine eo_np ?_
        refine eo_then ?_
        refine cw_ret ?_
        refine eo_ret [.agg #[.bool s221, .slice A221 n221 c221], .agg #[.bool s237, .slice A237 n237 c237], .int .i64 0] rfl ⟨⟨_, rfl, load_agg aggInt (hb240.updN u246 (by omega)) [.bool s221, .slice A221 n221 c221] rfl (Nat.le_of_ble_eq_true rfl) rfl⟩, ⟨_, rfl, load_agg aggInt hb245 [.bool s237, .slice A237 n237 c237] rfl (Nat.le_of_ble_eq_true rfl) rfl⟩, rfl, trivial⟩ ?_
        exact ⟨_, rfl, ⟨_, _, _, rfl, ⟨_, _, _, _, rfl, (((z221.updT hb239 u241).updT hb244 u246)).cast (hq.1)⟩, ⟨_, _, _, _, rfl, (((z237.updT hb239 u241).updT hb244 u246)).cast (hq.2)⟩, rfl⟩, hw12⟩
  ·
    obtain rfl : s31 = false := by rw [z31.sgn]; exact decide_eq_false hr
    -- region 2
    refine cw_region ?_
    refine wl_move rfl rfl (by decide) ?_
    refine wl_pure rfl rfl (v := .bool false) (by decide) (by kernel_rfl) ?_
    refine wl_move rfl rfl (by decide) ?_
    refine wl_pure rfl rfl (v := .pointer (some ⟨g38, 0, none⟩)) (by decide) (by kernel_rfl) ?_
    refine wl_load rfl rfl (load_cell cellBool hb51 rfl) (by decide) ?_
    refine wl_pure rfl rfl (v := .bool true) (by decide) (by kernel_rfl) ?_
    refine wl_pure rfl rfl (v := .bool true) (by decide) (by kernel_rfl) ?_
    refine wl_nil ?_
    refine eo_then ?_
    refine cw_true rfl ?_
    refine cw_seq ?_
    -- region 3, certain
    refine cw_keep [(0, .agg #[.bool sa, .slice Aa na ca]), (1, .agg #[.bool sb, .slice Ab nb cb]), (2, .pointer (some ⟨g1, 0, none⟩)), (3, .pointer (some ⟨g6, 0, none⟩)), (4, .pointer (some ⟨g12, 0, none⟩)), (5, .pointer (some ⟨g18, 0, none⟩)), (11, .agg #[.bool sa, .slice Aa na ca]), (12, .agg #[.bool sb, .slice Ab nb cb]), (13, .tuple #[.agg #[.bool s30, .slice A30 n30 c30], .agg #[.bool false, .slice A31 n31 c31], .int .i64 0]), (10, .tuple #[.agg #[.bool s30, .slice A30 n30 c30], .agg #[.bool false, .slice A31 n31 c31], .int .i64 0]), (14, .agg #[.bool s30, .slice A30 n30 c30]), (15, .agg #[.bool false, .slice A31 n31 c31]), (16, .int .i64 0), (7, .pointer (some ⟨g32, 0, none⟩)), (8, .pointer (some ⟨g38, 0, none⟩)), (9, .int .i64 0), (17, .int .i64 0), (18, .bool false), (19, .bool false), (20, .pointer (some ⟨g38, 0, none⟩)), (21, .bool false), (22, .bool true), (23, .bool true)] ⟨rfl, rfl, rfl, rfl, rfl, rfl, rfl, rfl, rfl, rfl, rfl, rfl, rfl, rfl, rfl, rfl, rfl, rfl, rfl, rfl, rfl, rfl, rfl, trivial⟩ ?_
    obtain ⟨v248, hv, e249⟩ : ∃ v, v = v49.drew ∧ Ext v49 v := ⟨_, rfl, (Ext.refl _).drew⟩
    have hw10 : Ext w v248 := hw9.trans e249
    have hb251 := ((((hb15.ext (e20.trans (e27.trans (e34.trans e40)))).updN u47 (by omega)).updN u52 (by omega)).ext e249)
    obtain ⟨v250, hr255, hb252, u253, hs254⟩ := run_stored (P := Try.prog) (us := [.bool s30, .slice A30 n30 c30]) (off := 0) aggInt rfl hb251 (Nat.le_of_ble_eq_true rfl) rfl [.bool s30, .slice A30 n30 c30] rfl
    have hw11 : Ext w v250 := u253.ext hw10 ge16
    have hb257 := (((((hb21.ext (e27.trans (e34.trans e40))).updN u47 (by omega)).updN u52 (by omega)).ext e249).updN u253 (by omega))
    obtain ⟨v256, hr261, hb258, u259, hs260⟩ := run_stored (P := Try.prog) (us := [.bool false, .slice A31 n31 c31]) (off := 0) aggInt rfl hb257 (Nat.le_of_ble_eq_true rfl) rfl [.bool false, .slice A31 n31 c31] rfl
    have hw12 : Ext w v256 := u259.ext hw11 ge22
    refine cw_det mix (w := v248) [.agg #[.bool s30, .slice A30 n30 c30], .agg #[.bool false, .slice A31 n31 c31], .int .i64 0, undef, undef, .int .i64 0] [v248, v250, v256] [3, 4] [[], [], [], [0], [1], [2]] [[], [], [], [0], [0, 1, 3], [0, 1, 2, 3, 4]] [(0, 0), (1, 0), (1, 1), (2, 0), (2, 1), (2, 2), (3, 0), (4, 1), (5, 2)] rfl hv ?_ ?_
    ·
      refine dobs_val ([(0, .agg #[.bool sa, .slice Aa na ca]), (1, .agg #[.bool sb, .slice Ab nb cb]), (2, .pointer (some ⟨g1, 0, none⟩)), (3, .pointer (some ⟨g6, 0, none⟩)), (4, .pointer (some ⟨g12, 0, none⟩)), (5, .pointer (some ⟨g18, 0, none⟩)), (11, .agg #[.bool sa, .slice Aa na ca]), (12, .agg #[.bool sb, .slice Ab nb cb]), (13, .tuple #[.agg #[.bool s30, .slice A30 n30 c30], .agg #[.bool false, .slice A31 n31 c31], .int .i64 0]), (10, .tuple #[.agg #[.bool s30, .slice A30 n30 c30], .agg #[.bool false, .slice A31 n31 c31], .int .i64 0]), (14, .agg #[.bool s30, .slice A30 n30 c30]), (15, .agg #[.bool false, .slice A31 n31 c31]), (16, .int .i64 0), (7, .pointer (some ⟨g32, 0, none⟩)), (8, .pointer (some ⟨g38, 0, none⟩)), (9, .int .i64 0), (17, .int .i64 0), (18, .bool false), (19, .bool false), (20, .pointer (some ⟨g38, 0, none⟩)), (21, .bool false), (22, .bool true), (23, .bool true)]) rfl rfl rfl rfl rfl (rd_load rfl (load_agg aggInt ((hb46.updN u52 (by omega)).ext e249) [.bool s30, .slice A30 n30 c30] rfl (Nat.le_of_ble_eq_true rfl) rfl)) ?_
      refine dobs_val ([(0, .agg #[.bool sa, .slice Aa na ca]), (1, .agg #[.bool sb, .slice Ab nb cb]), (2, .pointer (some ⟨g1, 0, none⟩)), (3, .pointer (some ⟨g6, 0, none⟩)), (4, .pointer (some ⟨g12, 0, none⟩)), (5, .pointer (some ⟨g18, 0, none⟩)), (11, .agg #[.bool sa, .slice Aa na ca]), (12, .agg #[.bool sb, .slice Ab nb cb]), (13, .tuple #[.agg #[.bool s30, .slice A30 n30 c30], .agg #[.bool false, .slice A31 n31 c31], .int .i64 0]), (10, .tuple #[.agg #[.bool s30, .slice A30 n30 c30], .agg #[.bool false, .slice A31 n31 c31], .int .i64 0]), (14, .agg #[.bool s30, .slice A30 n30 c30]), (15, .agg #[.bool false, .slice A31 n31 c31]), (16, .int .i64 0), (7, .pointer (some ⟨g32, 0, none⟩)), (8, .pointer (some ⟨g38, 0, none⟩)), (9, .int .i64 0), (17, .int .i64 0), (18, .bool false), (19, .bool false), (20, .pointer (some ⟨g38, 0, none⟩)), (21, .bool false), (22, .bool true), (23, .bool true)]) rfl rfl rfl rfl rfl (rd_load rfl (load_agg aggInt (hb51.ext e249) [.bool false, .slice A31 n31 c31] rfl (Nat.le_of_ble_eq_true rfl) rfl)) ?_
      refine dobs_val ([(0, .agg #[.bool sa, .slice Aa na ca]), (1, .agg #[.bool sb, .slice Ab nb cb]), (2, .pointer (some ⟨g1, 0, none⟩)), (3, .pointer (some ⟨g6, 0, none⟩)), (4, .pointer (some ⟨g12, 0, none⟩)), (5, .pointer (some ⟨g18, 0, none⟩)), (11, .agg #[.bool sa, .slice Aa na ca]), (12, .agg #[.bool sb, .slice Ab nb cb]), (13, .tuple #[.agg #[.bool s30, .slice A30 n30 c30], .agg #[.bool false, .slice A31 n31 c31], .int .i64 0]), (10, .tuple #[.agg #[.bool s30, .slice A30 n30 c30], .agg #[.bool false, .slice A31 n31 c31], .int .i64 0]), (14, .agg #[.bool s30, .slice A30 n30 c30]), (15, .agg #[.bool false, .slice A31 n31 c31]), (16, .int .i64 0), (7, .pointer (some ⟨g32, 0, none⟩)), (8, .pointer (some ⟨g38, 0, none⟩)), (9, .int .i64 0), (17, .int .i64 0), (18, .bool false), (19, .bool false), (20, .pointer (some ⟨g38, 0, none⟩)), (21, .bool false), (22, .bool true), (23, .bool true)]) rfl rfl rfl rfl rfl (rd_load rfl (load_agg aggInt ((hb51.ext e249).updN u253 (by omega)) [.bool false, .slice A31 n31 c31] rfl (Nat.le_of_ble_eq_true rfl) rfl)) ?_
      refine dobs_val ([(0, .agg #[.bool sa, .slice Aa na ca]), (1, .agg #[.bool sb, .slice Ab nb cb]), (2, .pointer (some ⟨g1, 0, none⟩)), (3, .pointer (some ⟨g6, 0, none⟩)), (4, .pointer (some ⟨g12, 0, none⟩)), (5, .pointer (some ⟨g18, 0, none⟩)), (11, .agg #[.bool sa, .slice Aa na ca]), (12, .agg #[.bool sb, .slice Ab nb cb]), (13, .tuple #[.agg #[.bool s30, .slice A30 n30 c30], .agg #[.bool false, .slice A31 n31 c31], .int .i64 0]), (10, .tuple #[.agg #[.bool s30, .slice A30 n30 c30], .agg #[.bool false, .slice A31 n31 c31], .int .i64 0]), (14, .agg #[.bool s30, .slice A30 n30 c30]), (15, .agg #[.bool false, .slice A31 n31 c31]), (16, .int .i64 0), (7, .pointer (some ⟨g32, 0, none⟩)), (8, .pointer (some ⟨g38, 0, none⟩)), (9, .int .i64 0), (17, .int .i64 0), (18, .bool false), (19, .bool false), (20, .pointer (some ⟨g38, 0, none⟩)), (21, .bool false), (22, .bool true), (23, .bool true)]) rfl rfl rfl rfl rfl (rd_move rfl) ?_
      refine dobs_val ([(0, .agg #[.bool sa, .slice Aa na ca]), (1, .agg #[.bool sb, .slice Ab nb cb]), (2, .pointer (some ⟨g1, 0, none⟩)), (3, .pointer (some ⟨g6, 0, none⟩)), (4, .pointer (some ⟨g12, 0, none⟩)), (5, .pointer (some ⟨g18, 0, none⟩)), (11, .agg #[.bool sa, .slice Aa na ca]), (12, .agg #[.bool sb, .slice Ab nb cb]), (13, .tuple #[.agg #[.bool s30, .slice A30 n30 c30], .agg #[.bool false, .slice A31 n31 c31], .int .i64 0]), (10, .tuple #[.agg #[.bool s30, .slice A30 n30 c30], .agg #[.bool false, .slice A31 n31 c31], .int .i64 0]), (14, .agg #[.bool s30, .slice A30 n30 c30]), (15, .agg #[.bool false, .slice A31 n31 c31]), (16, .int .i64 0), (7, .pointer (some ⟨g32, 0, none⟩)), (8, .pointer (some ⟨g38, 0, none⟩)), (9, .int .i64 0), (17, .int .i64 0), (18, .bool false), (19, .bool false), (20, .pointer (some ⟨g38, 0, none⟩)), (21, .bool false), (22, .bool true), (23, .bool true)]) rfl rfl rfl rfl rfl (rd_move rfl) ?_
      refine dobs_val ([(0, .agg #[.bool sa, .slice Aa na ca]), (1, .agg #[.bool sb, .slice Ab nb cb]), (2, .pointer (some ⟨g1, 0, none⟩)), (3, .pointer (some ⟨g6, 0, none⟩)), (4, .pointer (some ⟨g12, 0, none⟩)), (5, .pointer (some ⟨g18, 0, none⟩)), (11, .agg #[.bool sa, .slice Aa na ca]), (12, .agg #[.bool sb, .slice Ab nb cb]), (13, .tuple #[.agg #[.bool s30, .slice A30 n30 c30], .agg #[.bool false, .slice A31 n31 c31], .int .i64 0]), (10, .tuple #[.agg #[.bool s30, .slice A30 n30 c30], .agg #[.bool false, .slice A31 n31 c31], .int .i64 0]), (14, .agg #[.bool s30, .slice A30 n30 c30]), (15, .agg #[.bool false, .slice A31 n31 c31]), (16, .int .i64 0), (7, .pointer (some ⟨g32, 0, none⟩)), (8, .pointer (some ⟨g38, 0, none⟩)), (9, .int .i64 0), (17, .int .i64 0), (18, .bool false), (19, .bool false), (20, .pointer (some ⟨g38, 0, none⟩)), (21, .bool false), (22, .bool true), (23, .bool true)]) rfl rfl rfl rfl rfl (rd_move rfl) ?_
      refine dobs_sto ((24, .agg #[.bool s30, .slice A30 n30 c30]) :: [(0, .agg #[.bool sa, .slice Aa na ca]), (1, .agg #[.bool sb, .slice Ab nb cb]), (2, .pointer (some ⟨g1, 0, none⟩)), (3, .pointer (some ⟨g6, 0, none⟩)), (4, .pointer (some ⟨g12, 0, none⟩)), (5, .pointer (some ⟨g18, 0, none⟩)), (11, .agg #[.bool sa, .slice Aa na ca]), (12, .agg #[.bool sb, .slice Ab nb cb]), (13, .tuple #[.agg #[.bool s30, .slice A30 n30 c30], .agg #[.bool false, .slice A31 n31 c31], .int .i64 0]), (10, .tuple #[.agg #[.bool s30, .slice A30 n30 c30], .agg #[.bool false, .slice A31 n31 c31], .int .i64 0]), (14, .agg #[.bool s30, .slice A30 n30 c30]), (15, .agg #[.bool false, .slice A31 n31 c31]), (16, .int .i64 0), (7, .pointer (some ⟨g32, 0, none⟩)), (8, .pointer (some ⟨g38, 0, none⟩)), (9, .int .i64 0), (17, .int .i64 0), (18, .bool false), (19, .bool false), (20, .pointer (some ⟨g38, 0, none⟩)), (21, .bool false), (22, .bool true), (23, .bool true)]) rfl rfl rfl rfl rfl (rd_store rfl rfl hr255) ?_
      refine dobs_sto ((25, .agg #[.bool false, .slice A31 n31 c31]) :: [(0, .agg #[.bool sa, .slice Aa na ca]), (1, .agg #[.bool sb, .slice Ab nb cb]), (2, .pointer (some ⟨g1, 0, none⟩)), (3, .pointer (some ⟨g6, 0, none⟩)), (4, .pointer (some ⟨g12, 0, none⟩)), (5, .pointer (some ⟨g18, 0, none⟩)), (11, .agg #[.bool sa, .slice Aa na ca]), (12, .agg #[.bool sb, .slice Ab nb cb]), (13, .tuple #[.agg #[.bool s30, .slice A30 n30 c30], .agg #[.bool false, .slice A31 n31 c31], .int .i64 0]), (10, .tuple #[.agg #[.bool s30, .slice A30 n30 c30], .agg #[.bool false, .slice A31 n31 c31], .int .i64 0]), (14, .agg #[.bool s30, .slice A30 n30 c30]), (15, .agg #[.bool false, .slice A31 n31 c31]), (16, .int .i64 0), (7, .pointer (some ⟨g32, 0, none⟩)), (8, .pointer (some ⟨g38, 0, none⟩)), (9, .int .i64 0), (17, .int .i64 0), (18, .bool false), (19, .bool false), (20, .pointer (some ⟨g38, 0, none⟩)), (21, .bool false), (22, .bool true), (23, .bool true)]) rfl rfl rfl rfl rfl (rd_store rfl rfl hr261) ?_
      refine dobs_val ((26, .int .i64 0) :: [(0, .agg #[.bool sa, .slice Aa na ca]), (1, .agg #[.bool sb, .slice Ab nb cb]), (2, .pointer (some ⟨g1, 0, none⟩)), (3, .pointer (some ⟨g6, 0, none⟩)), (4, .pointer (some ⟨g12, 0, none⟩)), (5, .pointer (some ⟨g18, 0, none⟩)), (11, .agg #[.bool sa, .slice Aa na ca]), (12, .agg #[.bool sb, .slice Ab nb cb]), (13, .tuple #[.agg #[.bool s30, .slice A30 n30 c30], .agg #[.bool false, .slice A31 n31 c31], .int .i64 0]), (10, .tuple #[.agg #[.bool s30, .slice A30 n30 c30], .agg #[.bool false, .slice A31 n31 c31], .int .i64 0]), (14, .agg #[.bool s30, .slice A30 n30 c30]), (15, .agg #[.bool false, .slice A31 n31 c31]), (16, .int .i64 0), (7, .pointer (some ⟨g32, 0, none⟩)), (8, .pointer (some ⟨g38, 0, none⟩)), (9, .int .i64 0), (17, .int .i64 0), (18, .bool false), (19, .bool false), (20, .pointer (some ⟨g38, 0, none⟩)), (21, .bool false), (22, .bool true), (23, .bool true)]) rfl rfl rfl rfl rfl (rd_assign rfl) ?_
      exact dobs_nil
    clear hv
    refine eo_keep [(0, .agg #[.bool sa, .slice Aa na ca]), (1, .agg #[.bool sb, .slice Ab nb cb]), (2, .pointer (some ⟨g1, 0, none⟩)), (3, .pointer (some ⟨g6, 0, none⟩)), (4, .pointer (some ⟨g12, 0, none⟩)), (5, .pointer (some ⟨g18, 0, none⟩)), (11, .agg #[.bool sa, .slice Aa na ca]), (12, .agg #[.bool sb, .slice Ab nb cb]), (13, .tuple #[.agg #[.bool s30, .slice A30 n30 c30], .agg #[.bool false, .slice A31 n31 c31], .int .i64 0]), (10, .tuple #[.agg #[.bool s30, .slice A30 n30 c30], .agg #[.bool false, .slice A31 n31 c31], .int .i64 0]), (14, .agg #[.bool s30, .slice A30 n30 c30]), (15, .agg #[.bool false, .slice A31 n31 c31]), (16, .int .i64 0), (7, .pointer (some ⟨g32, 0, none⟩)), (8, .pointer (some ⟨g38, 0, none⟩)), (9, .int .i64 0), (17, .int .i64 0), (18, .bool false), (19, .bool false), (20, .pointer (some ⟨g38, 0, none⟩)), (21, .bool false), (22, .bool true), (23, .bool true), (24, .agg #[.bool s30, .slice A30 n30 c30]), (25, .agg #[.bool false, .slice A31 n31 c31]), (26, .int .i64 0), (6, .int .i64 0)] ⟨rfl, rfl, rfl, rfl, rfl, rfl, rfl, rfl, rfl, rfl, rfl, rfl, rfl, rfl, rfl, rfl, rfl, rfl, rfl, rfl, rfl, rfl, rfl, rfl, rfl, rfl, rfl, trivial⟩ ?_
    refine eo_then ?_
    refine cw_ret ?_
    refine eo_thenR ?_
    refine eo_ret [.agg #[.bool s30, .slice A30 n30 c30], .agg #[.bool false, .slice A31 n31 c31], .int .i64 0] rfl ⟨⟨_, rfl, load_agg aggInt (hb252.updN u259 (by omega)) [.bool s30, .slice A30 n30 c30] rfl (Nat.le_of_ble_eq_true rfl) rfl⟩, ⟨_, rfl, load_agg aggInt hb258 [.bool false, .slice A31 n31 c31] rfl (Nat.le_of_ble_eq_true rfl) rfl⟩, rfl, trivial⟩ ?_
    exact ⟨_, rfl, ⟨_, _, _, rfl, ⟨_, _, _, _, rfl, (((((((z30.ext (e34.trans e40)).updT hb45 u47).updT hb50 u52).ext e249).updT hb251 u253).updT hb257 u259)).cast ((ediv_pos (by omega)).1)⟩, ⟨_, _, _, _, rfl, (((((((z31.ext (e34.trans e40)).updT hb45 u47).updT hb50 u52).ext e249).updT hb251 u253).updT hb257 u259)).cast ((ediv_pos (by omega)).2)⟩, rfl⟩, hw12⟩
theorem g_zint_Euclid {w : World} {sa : Bool} {Aa : Option Addr} {na ca : Nat} {x : Int} {sb : Bool} {Ab : Option Addr} {nb cb : Nat} {y : Int} {b : Nat} (hb : b ≤ w.heap.size)  (hx : Zi w sa Aa na ca x) (la : na ≤ 68719476736) (hy : Zi w sb Ab nb cb y) (lb : nb ≤ 68719476736) (h0 : y ≠ 0) :
    Calls Try.prog 89 #[.agg #[.bool sa, .slice Aa na ca], .agg #[.bool sb, .slice Ab nb cb]] w (Gv w (T3 (ZR b (x / y)) (ZR b (x % y)) (Is (.int .i64 0)))) := (g_zint_EuclidI hx la hy lb h0).mono (Gv.imp (T3.imp (ZR.imp hb) (ZR.imp hb) Is.imp))

theorem Zi.sg_ {w : World} {s : Bool} {A : Option Addr} {n c : Nat} {z : Int} (h : Zi w s A n c z) : sg s z.natAbs = z := by
  obtain ⟨xs, h1, rfl⟩ := h
  rw [sg_abs]
theorem ln_ediv (x y : Int) : ln (x / y) ≤ ln x + 1 := by
  by_cases h : x.tmod y < 0
  · rcases Int.lt_trichotomy y 0 with hy | hy | hy
    · rw [← (ediv_neg' h hy).1]
      exact Nat.le_trans (ln_add (ln_tdiv x y) (Nat.le_refl _)) (by
        have h1 : x ≠ 0 := fun e => by subst e; simp at h
        have h2 : ln 1 = 1 := ln_one
        have h3 : 0 < ln x := by
          refine Nat.pos_of_ne_zero fun e => h1 ?_
          have := len_wd_zero.1 (show (wd x.natAbs).length = 0 from e)
          omega
        omega)
    · subst hy; simp [ln_zero]
    · rw [← (ediv_pos' h hy).1]
      exact Nat.le_trans (ln_sub (ln_tdiv x y) (Nat.le_refl _)) (by
        have h1 : x ≠ 0 := fun e => by subst e; simp at h
        have h2 : ln 1 = 1 := ln_one
        have h3 : 0 < ln x := by
          refine Nat.pos_of_ne_zero fun e => h1 ?_
          have := len_wd_zero.1 (show (wd x.natAbs).length = 0 from e)
          omega
        omega)
  · rw [← (ediv_pos (by omega)).1]
    exact Nat.le_trans (ln_tdiv x y) (Nat.le_succ _)
theorem ln_emod {x y : Int} (h : y ≠ 0) : ln (x % y) ≤ ln y := by
  refine ln_mono ?_
  have h1 := Int.emod_nonneg x h
  have h2 := Int.emod_lt x h
  omega

theorem g_zint_ModI {w : World} {sa : Bool} {Aa : Option Addr} {na ca : Nat} {x : Int} {sb : Bool} {Ab : Option Addr} {nb cb : Nat} {y : Int} (hx : Zi w sa Aa na ca x) (la : na ≤ 68719476736) (hy : Zi w sb Ab nb cb y) (lb : nb ≤ 68719476736) (h0 : y ≠ 0) :
    Calls Try.prog 69 #[.agg #[.bool sa, .slice Aa na ca], .agg #[.bool sb, .slice Ab nb cb]] w (Gv w (T2 (ZR w.heap.size (x % y)) (Is (.int .i64 0)))) := by
  have Lx : ln x ≤ 68719476736 := Nat.le_trans hx.ln la
  have Ly : ln y ≤ 68719476736 := Nat.le_trans hy.ln lb
  refine sx_enter Try.func69 rfl (n := 18) rfl (Nat.le_of_ble_eq_true rfl) (args := [.agg #[.bool sa, .slice Aa na ca], .agg #[.bool sb, .slice Ab nb cb]]) ?_
  refine cw_keep [(0, .agg #[.bool sa, .slice Aa na ca]), (1, .agg #[.bool sb, .slice Ab nb cb])] ⟨rfl, rfl, trivial⟩ ?_
  refine cw_seq ?_
  -- region 0
  refine cw_region ?_
  refine wl_box rfl rfl (vs := [.bool sa, .slice Aa na ca]) rfl (by decide) fun g1 v2 nb => ?_
  have hb4 := nb.bk
  have ge5 : w.heap.size ≤ g1 := by rw [← nb.at_]; exact (Ext.refl w).size
  have e3 := nb.ext
  clear nb
  have hw1 : Ext w v2 := (Ext.refl w).trans e3
  refine wl_box rfl rfl (vs := [.bool sb, .slice Ab nb cb]) rfl (by decide) fun g6 v7 nb => ?_
  have hb9 := nb.bk
  have ge10 : w.heap.size ≤ g6 := by rw [← nb.at_]; exact hw1.size
  have q11 : g1 < g6 := by rw [← nb.at_]; exact hb4.lt
  have e8 := nb.ext
  clear nb
  have hw2 : Ext w v7 := hw1.trans e8
  refine wl_alloc rfl (z := .agg #[.bool false, .slice none 0 0]) (vs := [.bool false, .slice none 0 0]) (fun _ => by kernel_rfl) rfl (by decide) fun g12 v13 nb => ?_
  have hb15 := nb.bk
  have ge16 : w.heap.size ≤ g12 := by rw [← nb.at_]; exact hw2.size
  have q17 : g6 < g12 := by rw [← nb.at_]; exact hb9.lt
  have e14 := nb.ext
  clear nb
  have hw3 : Ext w v13 := hw2.trans e14
  refine wl_assign rfl rfl (by decide) ?_
  refine wl_nil ?_
  refine eo_then ?_
  refine cw_seq ?_
  -- region 1
  refine cw_region ?_
  refine wl_load rfl rfl (load_agg aggInt (hb4.ext (e8.trans e14)) [.bool sa, .slice Aa na ca] rfl (Nat.le_of_ble_eq_true rfl) rfl) (by decide) ?_
  refine wl_load rfl rfl (load_agg aggInt (hb9.ext e14) [.bool sb, .slice Ab nb cb] rfl (Nat.le_of_ble_eq_true rfl) rfl) (by decide) ?_
  have L18 : ln (x / y) ≤ 68719476737 := Nat.le_trans (ln_ediv _ _) (Nat.succ_le_succ Lx)
  have L19 : ln (x % y) ≤ 68719476736 := Nat.le_trans (ln_emod h0) Ly
  refine wl_call rfl rfl (vs := [.agg #[.bool sa, .slice Aa na ca], .agg #[.bool sb, .slice Ab nb cb]]) (by kernel_rfl) (by decide) (g_zint_Euclid hw3.size (hx.ext hw3) (Nat.le_trans la (by decide)) (hy.ext hw3) (Nat.le_trans lb (by decide)) h0) ?_
  rintro _ v20 ⟨xr22, rfl, r22, e21⟩
  refine ret_intro ?_
  have hw4 : Ext w v20 := hw3.trans e21
  obtain ⟨a23_0, a23_1, a23_2, rfl, r23_0, r23_1, r23_2⟩ := r22
  obtain ⟨s24, A24, n24, c24, rfl, z24⟩ := r23_0
  obtain ⟨s25, A25, n25, c25, rfl, z25⟩ := r23_1
  obtain rfl := r23_2
  refine wl_move rfl rfl (by decide) ?_
  refine wl_pure rfl rfl (v := .agg #[.bool s24, .slice A24 n24 c24]) (by decide) (by kernel_rfl) ?_
  refine wl_pure rfl rfl (v := .agg #[.bool s25, .slice A25 n25 c25]) (by decide) (by kernel_rfl) ?_
  refine wl_pure rfl rfl (v := .int .i64 0) (by decide) (by kernel_rfl) ?_
  refine wl_alloc rfl (z := .agg #[.bool false, .slice none 0 0]) (vs := [.bool false, .slice none 0 0]) (fun _ => by kernel_rfl) rfl (by decide) fun g26 v27 nb => ?_
  have hb29 := nb.bk
  have ge30 : w.heap.size ≤ g26 := by rw [← nb.at_]; exact hw4.size
  have q31 : g12 < g26 := by rw [← nb.at_]; exact (hb15.ext e21).lt
  have e28 := nb.ext
  clear nb
  have hw5 : Ext w v27 := hw4.trans e28
  refine wl_alloc rfl (z := .agg #[.bool false, .slice none 0 0]) (vs := [.bool false, .slice none 0 0]) (fun _ => by kernel_rfl) rfl (by decide) fun g32 v33 nb => ?_
  have hb35 := nb.bk
  have ge36 : w.heap.size ≤ g32 := by rw [← nb.at_]; exact hw5.size
  have q37 : g26 < g32 := by rw [← nb.at_]; exact hb29.lt
  have e34 := nb.ext
  clear nb
  have hw6 : Ext w v33 := hw5.trans e34
  have hb39 := (hb29.ext e34)
  refine wl_stored rfl rfl rfl aggInt rfl hb39 (Nat.le_of_ble_eq_true rfl) rfl [.bool s24, .slice A24 n24 c24] rfl fun v38 hb40 u41 hs42 => ?_
  have hw7 : Ext w v38 := u41.ext hw6 ge30
  have hb44 := (hb35.updN u41 (by omega))
  refine wl_stored rfl rfl rfl aggInt rfl hb44 (Nat.le_of_ble_eq_true rfl) rfl [.bool s25, .slice A25 n25 c25] rfl fun v43 hb45 u46 hs47 => ?_
  have hw8 : Ext w v43 := u46.ext hw7 ge36
  refine wl_assign rfl rfl (by decide) ?_
  refine wl_nil ?_
  refine eo_then ?_
  refine cw_seq ?_
  -- region 2
  refine cw_region ?_
  refine wl_load rfl rfl (load_agg aggInt hb45 [.bool s25, .slice A25 n25 c25] rfl (Nat.le_of_ble_eq_true rfl) rfl) (by decide) ?_
  refine wl_move rfl rfl (by decide) ?_
  have hb49 := (((hb15.ext (e21.trans (e28.trans e34))).updN u41 (by omega)).updN u46 (by omega))
  refine wl_stored rfl rfl rfl aggInt rfl hb49 (Nat.le_of_ble_eq_true rfl) rfl [.bool s25, .slice A25 n25 c25] rfl fun v48 hb50 u51 hs52 => ?_
  have hw9 : Ext w v48 := u51.ext hw8 ge16
  refine wl_assign rfl rfl (by decide) ?_
  refine wl_nil ?_
  refine eo_then ?_
  refine cw_ret ?_
  refine eo_ret [.agg #[.bool s25, .slice A25 n25 c25], .int .i64 0] rfl ⟨⟨_, rfl, load_agg aggInt hb50 [.bool s25, .slice A25 n25 c25] rfl (Nat.le_of_ble_eq_true rfl) rfl⟩, rfl, trivial⟩ ?_
  exact ⟨_, rfl, ⟨_, _, rfl, ⟨_, _, _, _, rfl, ((((z25.ext (e28.trans e34)).updT hb39 u41).updT hb44 u46).updT hb49 u51)⟩, rfl⟩, hw9⟩
theorem g_zint_Mod {w : World} {sa : Bool} {Aa : Option Addr} {na ca : Nat} {x : Int} {sb : Bool} {Ab : Option Addr} {nb cb : Nat} {y : Int} {b : Nat} (hb : b ≤ w.heap.size)  (hx : Zi w sa Aa na ca x) (la : na ≤ 68719476736) (hy : Zi w sb Ab nb cb y) (lb : nb ≤ 68719476736) (h0 : y ≠ 0) :
    Calls Try.prog 69 #[.agg #[.bool sa, .slice Aa na ca], .agg #[.bool sb, .slice Ab nb cb]] w (Gv w (T2 (ZR b (x % y)) (Is (.int .i64 0)))) := (g_zint_ModI hx la hy lb h0).mono (Gv.imp (T2.imp (ZR.imp hb) Is.imp))

theorem g_zint_Exact_badI {w : World} {sa : Bool} {Aa : Option Addr} {na ca : Nat} {x : Int} {sb : Bool} {Ab : Option Addr} {nb cb : Nat} {y : Int} (hx : Zi w sa Aa na ca x) (la : na ≤ 68719476736) (hy : Zi w sb Ab nb cb y) (lb : nb ≤ 68719476736) (h0 : y = 0) :
    Calls Try.prog 60 #[.agg #[.bool sa, .slice Aa na ca], .agg #[.bool sb, .slice Ab nb cb]] w (Gv w (T2 (ZR w.heap.size (0)) (Is (.int .i64 4)))) := by
  have Lx : ln x ≤ 68719476736 := Nat.le_trans hx.ln la
  have Ly : ln y ≤ 68719476736 := Nat.le_trans hy.ln lb
  refine sx_enter Try.func60 rfl (n := 27) rfl (Nat.le_of_ble_eq_true rfl) (args := [.agg #[.bool sa, .slice Aa na ca], .agg #[.bool sb, .slice Ab nb cb]]) ?_
  refine cw_keep [(0, .agg #[.bool sa, .slice Aa na ca]), (1, .agg #[.bool sb, .slice Ab nb cb])] ⟨rfl, rfl, trivial⟩ ?_
  refine cw_seq ?_
  -- region 0
  refine cw_region ?_
  refine wl_box rfl rfl (vs := [.bool sa, .slice Aa na ca]) rfl (by decide) fun g1 v2 nb => ?_
  have hb4 := nb.bk
  have ge5 : w.heap.size ≤ g1 := by rw [← nb.at_]; exact (Ext.refl w).size
  have e3 := nb.ext
  clear nb
  have hw1 : Ext w v2 := (Ext.refl w).trans e3
  refine wl_box rfl rfl (vs := [.bool sb, .slice Ab nb cb]) rfl (by decide) fun g6 v7 nb => ?_
  have hb9 := nb.bk
  have ge10 : w.heap.size ≤ g6 := by rw [← nb.at_]; exact hw1.size
  have q11 : g1 < g6 := by rw [← nb.at_]; exact hb4.lt
  have e8 := nb.ext
  clear nb
  have hw2 : Ext w v7 := hw1.trans e8
  refine wl_alloc rfl (z := .agg #[.bool false, .slice none 0 0]) (vs := [.bool false, .slice none 0 0]) (fun _ => by kernel_rfl) rfl (by decide) fun g12 v13 nb => ?_
  have hb15 := nb.bk
  have ge16 : w.heap.size ≤ g12 := by rw [← nb.at_]; exact hw2.size
  have q17 : g6 < g12 := by rw [← nb.at_]; exact hb9.lt
  have e14 := nb.ext
  clear nb
  have hw3 : Ext w v13 := hw2.trans e14
  refine wl_assign rfl rfl (by decide) ?_
  refine wl_nil ?_
  refine eo_then ?_
  refine cw_seq ?_
  -- region 1
  refine cw_region ?_
  refine wl_pure rfl rfl (v := .pointer (some ⟨g1, 1, none⟩)) (by decide) (by kernel_rfl) ?_
  refine wl_load rfl rfl (load_cell cellWords (hb4.ext (e8.trans e14)) rfl) (by decide) ?_
  refine wl_pure rfl rfl (v := .pointer (some ⟨g6, 1, none⟩)) (by decide) (by kernel_rfl) ?_
  refine wl_load rfl rfl (load_cell cellWords (hb9.ext e14) rfl) (by decide) ?_
  refine wl_call rfl rfl (vs := [.slice Aa na ca, .slice Ab nb cb]) (by kernel_rfl) (by decide) (g_divnat_Exact_bad (i := 0) (hy.ext hw3).wi (Nat.le_trans lb (by decide)) (by omega)) ?_
  rintro _ v18 ⟨xr20, rfl, r20, e19⟩
  refine ret_intro ?_
  have hw4 : Ext w v18 := hw3.trans e19
  obtain rfl := r20
  refine wl_move rfl rfl (by decide) ?_
  refine wl_pure rfl rfl (v := .slice none 0 0) (by decide) (by kernel_rfl) ?_
  refine wl_pure rfl rfl (v := .int .i64 4) (by decide) (by kernel_rfl) ?_
  refine wl_assign rfl rfl (by decide) ?_
  refine wl_assign rfl rfl (by decide) ?_
  refine wl_nil ?_
  refine eo_then ?_
  refine cw_seq ?_
  refine cw_seq ?_
  -- region 2
  refine cw_region ?_
  refine wl_move rfl rfl (by decide) ?_
  refine wl_pure rfl rfl (v := .bool true) (by decide) (by kernel_rfl) ?_
  refine wl_nil ?_
  refine eo_then ?_
  refine cw_true rfl ?_
  refine cw_seq ?_
  -- region 3
  refine cw_region ?_
  refine wl_pure rfl rfl (v := .agg #[.bool false, .slice none 0 0]) (by decide) (by kernel_rfl) ?_
  refine wl_move rfl rfl (by decide) ?_
  have hb22 := (hb15.ext e19)
  refine wl_stored rfl rfl rfl aggInt rfl hb22 (Nat.le_of_ble_eq_true rfl) rfl [.bool false, .slice none 0 0] rfl fun v21 hb23 u24 hs25 => ?_
  have hw5 : Ext w v21 := u24.ext hw4 ge16
  refine wl_assign rfl rfl (by decide) ?_
  refine wl_nil ?_
  refine eo_then ?_
  refine cw_ret ?_
  refine eo_thenR ?_
  refine eo_ret [.agg #[.bool false, .slice none 0 0], .int .i64 4] rfl ⟨⟨_, rfl, load_agg aggInt hb23 [.bool false, .slice none 0 0] rfl (Nat.le_of_ble_eq_true rfl) rfl⟩, rfl, trivial⟩ ?_
  exact ⟨_, rfl, ⟨_, _, rfl, ⟨_, _, _, _, rfl, ((Zr.zero (w := v18) (base := w.heap.size)).updT hb22 u24)⟩, rfl⟩, hw5⟩
theorem g_zint_Exact_bad {w : World} {sa : Bool} {Aa : Option Addr} {na ca : Nat} {x : Int} {sb : Bool} {Ab : Option Addr} {nb cb : Nat} {y : Int} {b : Nat} (hb : b ≤ w.heap.size)  (hx : Zi w sa Aa na ca x) (la : na ≤ 68719476736) (hy : Zi w sb Ab nb cb y) (lb : nb ≤ 68719476736) (h0 : y = 0) :
    Calls Try.prog 60 #[.agg #[.bool sa, .slice Aa na ca], .agg #[.bool sb, .slice Ab nb cb]] w (Gv w (T2 (ZR b (0)) (Is (.int .i64 4)))) := (g_zint_Exact_badI hx la hy lb h0).mono (Gv.imp (T2.imp (ZR.imp hb) Is.imp))

theorem g_zint_Exact_notI {w : World} {sa : Bool} {Aa : Option Addr} {na ca : Nat} {x : Int} {sb : Bool} {Ab : Option Addr} {nb cb : Nat} {y : Int} (hx : Zi w sa Aa na ca x) (la : na ≤ 68719476736) (hy : Zi w sb Ab nb cb y) (lb : nb ≤ 68719476736) (h0 : y ≠ 0) (hd : x.natAbs % y.natAbs ≠ 0) :
    Calls Try.prog 60 #[.agg #[.bool sa, .slice Aa na ca], .agg #[.bool sb, .slice Ab nb cb]] w (Gv w (T2 (ZR w.heap.size (0)) (Is (.int .i64 8)))) := by
  have Lx : ln x ≤ 68719476736 := Nat.le_trans hx.ln la
  have Ly : ln y ≤ 68719476736 := Nat.le_trans hy.ln lb
  refine sx_enter Try.func60 rfl (n := 27) rfl (Nat.le_of_ble_eq_true rfl) (args := [.agg #[.bool sa, .slice Aa na ca], .agg #[.bool sb, .slice Ab nb cb]]) ?_
  refine cw_keep [(0, .agg #[.bool sa, .slice Aa na ca]), (1, .agg #[.bool sb, .slice Ab nb cb])] ⟨rfl, rfl, trivial⟩ ?_
  refine cw_seq ?_
  -- region 0
  refine cw_region ?_
  refine wl_box rfl rfl (vs := [.bool sa, .slice Aa na ca]) rfl (by decide) fun g1 v2 nb => ?_
  have hb4 := nb.bk
  have ge5 : w.heap.size ≤ g1 := by rw [← nb.at_]; exact (Ext.refl w).size
  have e3 := nb.ext
  clear nb
  have hw1 : Ext w v2 := (Ext.refl w).trans e3
  refine wl_box rfl rfl (vs := [.bool sb, .slice Ab nb cb]) rfl (by decide) fun g6 v7 nb => ?_
  have hb9 := nb.bk
  have ge10 : w.heap.size ≤ g6 := by rw [← nb.at_]; exact hw1.size
  have q11 : g1 < g6 := by rw [← nb.at_]; exact hb4.lt
  have e8 := nb.ext
  clear nb
  have hw2 : Ext w v7 := hw1.trans e8
  refine wl_alloc rfl (z := .agg #[.bool false, .slice none 0 0]) (vs := [.bool false, .slice none 0 0]) (fun _ => by kernel_rfl) rfl (by decide) fun g12 v13 nb => ?_
  have hb15 := nb.bk
  have ge16 : w.heap.size ≤ g12 := by rw [← nb.at_]; exact hw2.size
  have q17 : g6 < g12 := by rw [← nb.at_]; exact hb9.lt
  have e14 := nb.ext
  clear nb
  have hw3 : Ext w v13 := hw2.trans e14
  refine wl_assign rfl rfl (by decide) ?_
  refine wl_nil ?_
  refine eo_then ?_
  refine cw_seq ?_
  -- region 1
  refine cw_region ?_
  refine wl_pure rfl rfl (v := .pointer (some ⟨g1, 1, none⟩)) (by decide) (by kernel_rfl) ?_
  refine wl_load rfl rfl (load_cell cellWords (hb4.ext (e8.trans e14)) rfl) (by decide) ?_
  refine wl_pure rfl rfl (v := .pointer (some ⟨g6, 1, none⟩)) (by decide) (by kernel_rfl) ?_
  refine wl_load rfl rfl (load_cell cellWords (hb9.ext e14) rfl) (by decide) ?_
  refine wl_call rfl rfl (vs := [.slice Aa na ca, .slice Ab nb cb]) (by kernel_rfl) (by decide) (g_divnat_Exact_not (hx.ext hw3).wi (Nat.le_trans la (by decide)) (hy.ext hw3).wi (Nat.le_trans lb (by decide)) (by omega) hd) ?_
  rintro _ v18 ⟨xr20, rfl, r20, e19⟩
  refine ret_intro ?_
  have hw4 : Ext w v18 := hw3.trans e19
  obtain rfl := r20
  refine wl_move rfl rfl (by decide) ?_
  refine wl_pure rfl rfl (v := .slice none 0 0) (by decide) (by kernel_rfl) ?_
  refine wl_pure rfl rfl (v := .int .i64 8) (by decide) (by kernel_rfl) ?_
  refine wl_assign rfl rfl (by decide) ?_
  refine wl_assign rfl rfl (by decide) ?_
  refine wl_nil ?_
  refine eo_then ?_
  refine cw_seq ?_
  refine cw_seq ?_
  -- region 2
  refine cw_region ?_
  refine wl_move rfl rfl (by decide) ?_
  refine wl_pure rfl rfl (v := .bool true) (by decide) (by kernel_rfl) ?_
  refine wl_nil ?_
  refine eo_then ?_
  refine cw_true rfl ?_
  refine cw_seq ?_
  -- region 3
  refine cw_region ?_
  refine wl_pure rfl rfl (v := .agg #[.bool false, .slice none 0 0]) (by decide) (by kernel_rfl) ?_
  refine wl_move rfl rfl (by decide) ?_
  have hb22 := (hb15.ext e19)
  refine wl_stored rfl rfl rfl aggInt rfl hb22 (Nat.le_of_ble_eq_true rfl) rfl [.bool false, .slice none 0 0] rfl fun v21 hb23 u24 hs25 => ?_
  have hw5 : Ext w v21 := u24.ext hw4 ge16
  refine wl_assign rfl rfl (by decide) ?_
  refine wl_nil ?_
  refine eo_then ?_
  refine cw_ret ?_
  refine eo_thenR ?_
  refine eo_ret [.agg #[.bool false, .slice none 0 0], .int .i64 8] rfl ⟨⟨_, rfl, load_agg aggInt hb23 [.bool false, .slice none 0 0] rfl (Nat.le_of_ble_eq_true rfl) rfl⟩, rfl, trivial⟩ ?_
  exact ⟨_, rfl, ⟨_, _, rfl, ⟨_, _, _, _, rfl, ((Zr.zero (w := v18) (base := w.heap.size)).updT hb22 u24)⟩, rfl⟩, hw5⟩
theorem g_zint_Exact_not {w : World} {sa : Bool} {Aa : Option Addr} {na ca : Nat} {x : Int} {sb : Bool} {Ab : Option Addr} {nb cb : Nat} {y : Int} {b : Nat} (hb : b ≤ w.heap.size)  (hx : Zi w sa Aa na ca x) (la : na ≤ 68719476736) (hy : Zi w sb Ab nb cb y) (lb : nb ≤ 68719476736) (h0 : y ≠ 0) (hd : x.natAbs % y.natAbs ≠ 0) :
    Calls Try.prog 60 #[.agg #[.bool sa, .slice Aa na ca], .agg #[.bool sb, .slice Ab nb cb]] w (Gv w (T2 (ZR b (0)) (Is (.int .i64 8)))) := (g_zint_Exact_notI hx la hy lb h0 hd).mono (Gv.imp (T2.imp (ZR.imp hb) Is.imp))

theorem g_zint_Exact_okI {w : World} {sa : Bool} {Aa : Option Addr} {na ca : Nat} {x : Int} {sb : Bool} {Ab : Option Addr} {nb cb : Nat} {y : Int} (hx : Zi w sa Aa na ca x) (la : na ≤ 68719476736) (hy : Zi w sb Ab nb cb y) (lb : nb ≤ 68719476736) (h0 : y ≠ 0) (hd : x.natAbs % y.natAbs = 0) :
    Calls Try.prog 60 #[.agg #[.bool sa, .slice Aa na ca], .agg #[.bool sb, .slice Ab nb cb]] w (Gv w (T2 (ZR w.heap.size (x.tdiv y)) (Is (.int .i64 0)))) := by
  have Lx : ln x ≤ 68719476736 := Nat.le_trans hx.ln la
  have Ly : ln y ≤ 68719476736 := Nat.le_trans hy.ln lb
  refine sx_enter Try.func60 rfl (n := 27) rfl (Nat.le_of_ble_eq_true rfl) (args := [.agg #[.bool sa, .slice Aa na ca], .agg #[.bool sb, .slice Ab nb cb]]) ?_
  refine cw_keep [(0, .agg #[.bool sa, .slice Aa na ca]), (1, .agg #[.bool sb, .slice Ab nb cb])] ⟨rfl, rfl, trivial⟩ ?_
  refine cw_seq ?_
  -- region 0
  refine cw_region ?_
  refine wl_box rfl rfl (vs := [.bool sa, .slice Aa na ca]) rfl (by decide) fun g1 v2 nb => ?_
  have hb4 := nb.bk
  have ge5 : w.heap.size ≤ g1 := by rw [← nb.at_]; exact (Ext.refl w).size
  have e3 := nb.ext
  clear nb
  have hw1 : Ext w v2 := (Ext.refl w).trans e3
  refine wl_box rfl rfl (vs := [.bool sb, .slice Ab nb cb]) rfl (by decide) fun g6 v7 nb => ?_
  have hb9 := nb.bk
  have ge10 : w.heap.size ≤ g6 := by rw [← nb.at_]; exact hw1.size
  have q11 : g1 < g6 := by rw [← nb.at_]; exact hb4.lt
  have e8 := nb.ext
  clear nb
  have hw2 : Ext w v7 := hw1.trans e8
  refine wl_alloc rfl (z := .agg #[.bool false, .slice none 0 0]) (vs := [.bool false, .slice none 0 0]) (fun _ => by kernel_rfl) rfl (by decide) fun g12 v13 nb => ?_
  have hb15 := nb.bk
  have ge16 : w.heap.size ≤ g12 := by rw [← nb.at_]; exact hw2.size
  have q17 : g6 < g12 := by rw [← nb.at_]; exact hb9.lt
  have e14 := nb.ext
  clear nb
  have hw3 : Ext w v13 := hw2.trans e14
  refine wl_assign rfl rfl (by decide) ?_
  refine wl_nil ?_
  refine eo_then ?_
  refine cw_seq ?_
  -- region 1
  refine cw_region ?_
  refine wl_pure rfl rfl (v := .pointer (some ⟨g1, 1, none⟩)) (by decide) (by kernel_rfl) ?_
  refine wl_load rfl rfl (load_cell cellWords (hb4.ext (e8.trans e14)) rfl) (by decide) ?_
  refine wl_pure rfl rfl (v := .pointer (some ⟨g6, 1, none⟩)) (by decide) (by kernel_rfl) ?_
  refine wl_load rfl rfl (load_cell cellWords (hb9.ext e14) rfl) (by decide) ?_
  have L1 : (wd (x.natAbs / y.natAbs)).length ≤ 68719476736 := Nat.le_trans (len_wd_mono (Nat.div_le_self _ _)) Lx
  refine wl_call rfl rfl (vs := [.slice Aa na ca, .slice Ab nb cb]) (by kernel_rfl) (by decide) (g_divnat_Exact hw3.size (hx.ext hw3).wi (Nat.le_trans la (by decide)) (hy.ext hw3).wi (Nat.le_trans lb (by decide)) (by omega) hd) ?_
  rintro _ v18 ⟨xr20, rfl, r20, e19⟩
  refine ret_intro ?_
  have hw4 : Ext w v18 := hw3.trans e19
  obtain ⟨a21_0, a21_1, rfl, r21_0, r21_1⟩ := r20
  obtain ⟨A22, n22, c22, rfl, j22, o22⟩ := r21_0
  obtain rfl := r21_1
  refine wl_move rfl rfl (by decide) ?_
  refine wl_pure rfl rfl (v := .slice A22 n22 c22) (by decide) (by kernel_rfl) ?_
  refine wl_pure rfl rfl (v := .int .i64 0) (by decide) (by kernel_rfl) ?_
  refine wl_assign rfl rfl (by decide) ?_
  refine wl_assign rfl rfl (by decide) ?_
  refine wl_nil ?_
  refine eo_then ?_
  refine cw_seq ?_
  refine cw_seq ?_
  -- region 2
  refine cw_region ?_
  refine wl_move rfl rfl (by decide) ?_
  refine wl_pure rfl rfl (v := .bool false) (by decide) (by kernel_rfl) ?_
  refine wl_nil ?_
  refine eo_then ?_
  refine cw_false rfl ?_
  refine cw_skip ?_
  refine eo_then ?_
  refine cw_seq ?_
  -- region 4
  refine cw_region ?_
  refine wl_pure rfl rfl (v := .pointer (some ⟨g1, 0, none⟩)) (by decide) (by kernel_rfl) ?_
  refine wl_load rfl rfl (load_cell cellBool (hb4.ext (e8.trans (e14.trans e19))) rfl) (by decide) ?_
  refine wl_pure rfl rfl (v := .pointer (some ⟨g6, 0, none⟩)) (by decide) (by kernel_rfl) ?_
  refine wl_load rfl rfl (load_cell cellBool (hb9.ext (e14.trans e19)) rfl) (by decide) ?_
  refine wl_pure rfl rfl (v := .bool (!(sa == sb))) (by decide) (by kernel_rfl) ?_
  refine wl_move rfl rfl (by decide) ?_
  have L23 : ln (sg (!(sa == sb)) (Int.natAbs x / Int.natAbs y)) ≤ 68719476736 := (show (wd (sg _ _).natAbs).length ≤ _ by rw [sg_abs]; exact L1)
  refine wl_call rfl rfl (vs := [.bool (!(sa == sb)), .slice A22 n22 c22]) (by kernel_rfl) (by decide) (g_zint_of j22 o22) ?_
  rintro _ v24 ⟨xr26, rfl, r26, e25⟩
  refine ret_intro ?_
  have hw5 : Ext w v24 := hw4.trans e25
  obtain ⟨s27, A27, n27, c27, rfl, z27⟩ := r26
  have hb29 := (hb15.ext (e19.trans e25))
  refine wl_stored rfl rfl rfl aggInt rfl hb29 (Nat.le_of_ble_eq_true rfl) rfl [.bool s27, .slice A27 n27 c27] rfl fun v28 hb30 u31 hs32 => ?_
  have hw6 : Ext w v28 := u31.ext hw5 ge16
  refine wl_assign rfl rfl (by decide) ?_
  refine wl_nil ?_
  refine eo_then ?_
  refine cw_ret ?_
  refine eo_ret [.agg #[.bool s27, .slice A27 n27 c27], .int .i64 0] rfl ⟨⟨_, rfl, load_agg aggInt hb30 [.bool s27, .slice A27 n27 c27] rfl (Nat.le_of_ble_eq_true rfl) rfl⟩, rfl, trivial⟩ ?_
  exact ⟨_, rfl, ⟨_, _, rfl, ⟨_, _, _, _, rfl, ((z27.updT hb29 u31)).cast (by rw [show (!(sa == sb)) = (sa != sb) from rfl, sg_tdiv, hx.sg_, hy.sg_])⟩, rfl⟩, hw6⟩
theorem g_zint_Exact_ok {w : World} {sa : Bool} {Aa : Option Addr} {na ca : Nat} {x : Int} {sb : Bool} {Ab : Option Addr} {nb cb : Nat} {y : Int} {b : Nat} (hb : b ≤ w.heap.size)  (hx : Zi w sa Aa na ca x) (la : na ≤ 68719476736) (hy : Zi w sb Ab nb cb y) (lb : nb ≤ 68719476736) (h0 : y ≠ 0) (hd : x.natAbs % y.natAbs = 0) :
    Calls Try.prog 60 #[.agg #[.bool sa, .slice Aa na ca], .agg #[.bool sb, .slice Ab nb cb]] w (Gv w (T2 (ZR b (x.tdiv y)) (Is (.int .i64 0)))) := (g_zint_Exact_okI hx la hy lb h0 hd).mono (Gv.imp (T2.imp (ZR.imp hb) Is.imp))

end Go.Proofs.Ytmaconeeonkdgaa
