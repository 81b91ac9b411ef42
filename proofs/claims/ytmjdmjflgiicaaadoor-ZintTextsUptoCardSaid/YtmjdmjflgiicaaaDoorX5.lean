/- Parts Law5x, joined. -/
import Derived.Test.YtmjdmjflgiicaaaDoorX4

namespace Go.Proofs.YtmjdmjflgiicaaaDoor
open Go.RowKit
theorem txtN_first {m : Nat} (h : m ≠ 0) : 49 ≤ (txtN 10 m).getD 0 0 ∧ (txtN 10 m).getD 0 0 ≤ 57 := by
  rw [txtN, if_neg h]
  unfold txt
  have h1 := db_top (b := 10) (by decide) m
  have h0 : (db 10 m).length ≠ 0 := fun e => h ((len_db_zero (by decide)).1 e)
  have h2 : (db 10 m).getD ((db 10 m).length - 1) 0 ≠ 0 := h1.resolve_left h0
  have h3 : ((db 10 m).reverse.map sgn).getD 0 0 = sgn ((db 10 m).getD ((db 10 m).length - 1) 0) := by
    simp only [List.getD_eq_getElem?_getD, List.getElem?_map]
    rw [List.getElem?_reverse (by omega), Nat.sub_zero, List.getElem?_eq_getElem (show (db 10 m).length - 1 < (db 10 m).length by omega)]
    rfl
  have h4 : (db 10 m).getD ((db 10 m).length - 1) 0 < 10 := by
    rw [List.getD_eq_getElem?_getD, List.getElem?_eq_getElem (show (db 10 m).length - 1 < (db 10 m).length by omega)]
    exact Wfb_db (by decide) m _ (List.getElem_mem _)
  rw [h3]; unfold sgn; rw [if_pos h4]; omega
theorem lt256_45 {D : List Nat} (h : ∀ b, b ∈ D → b < 256) : ∀ b, b ∈ [45] ++ D → b < 256 := fun b hb => by
  rcases List.mem_append.1 hb with h1 | h1
  · rw [List.mem_singleton] at h1; omega
  · exact h b h1
theorem good_take {D : List Nat} (hD : Good 10 D) {c : Nat} {k : Nat} {l : List Nat} (hc : ¬ dv c < 10) (h : D.take (k + 1) = c :: l) : False := by
  cases D with
  | nil => cases h
  | cons x r =>
    rw [List.take_succ_cons] at h
    injection h with h1 _
    subst h1
    exact hc (hD.2 _ (by simp))
theorem ztl_dig {D : List Nat} (hD : Good 10 D) : ztl D = D ∧ zng D = false := by
  have h1 : ¬ D.take 1 = [43] := fun e => good_take hD (by decide) e
  have h2 : ¬ D.take 1 = [45] := fun e => good_take hD (by decide) e
  have h3 : ¬ D.take 3 = [226, 136, 146] := fun e => good_take hD (by decide) e
  exact ⟨by unfold ztl; rw [if_neg h1, if_neg h2, if_neg h3], by unfold zng; rw [if_neg h1, if_neg h2, if_neg h3]⟩
theorem ztl_minus (D : List Nat) : ztl ([45] ++ D) = D ∧ zng ([45] ++ D) = true := by
  have h1 : ¬ ([45] ++ D).take 1 = [43] := by simp
  have h2 : ([45] ++ D).take 1 = [45] := by simp
  exact ⟨by unfold ztl; rw [if_neg h1, if_pos h2]; rfl, by unfold zng; rw [if_neg h1, if_pos h2]⟩
theorem ztl_plus (D : List Nat) : ztl ([43, 48, 48] ++ D) = [48, 48] ++ D ∧ zng ([43, 48, 48] ++ D) = false := by
  have h1 : ([43, 48, 48] ++ D).take 1 = [43] := by simp
  exact ⟨by unfold ztl; rw [if_pos h1]; rfl, by unfold zng; rw [if_pos h1]⟩
theorem ztl_long (D : List Nat) : ztl ([226, 136, 146, 48] ++ D) = [48] ++ D ∧ zng ([226, 136, 146, 48] ++ D) = true := by
  have h1 : ¬ ([226, 136, 146, 48] ++ D).take 1 = [43] := by simp
  have h2 : ¬ ([226, 136, 146, 48] ++ D).take 1 = [45] := by simp
  have h3 : ([226, 136, 146, 48] ++ D).take 3 = [226, 136, 146] := by simp
  exact ⟨by unfold ztl; rw [if_neg h1, if_neg h2, if_pos h3]; rfl, by unfold zng; rw [if_neg h1, if_neg h2, if_pos h3]⟩
theorem good_zero {D : List Nat} (hD : Good 10 D) : Good 10 ([48] ++ D) := ⟨by simp, fun c hc => by
  rcases List.mem_append.1 hc with h1 | h1
  · rw [List.mem_singleton] at h1; subst h1; decide
  · exact hD.2 c h1⟩
theorem vald_zero {D : List Nat} : vald 10 (([48] ++ D).map dv) = vald 10 (D.map dv) := by
  rw [List.map_append, vald_append]
  rw [show vald 10 ([48].map dv) = 0 by decide, Nat.zero_mul, Nat.zero_add]
theorem lt256_app {p D : List Nat} (h : ∀ b, b ∈ D → b < 256) (hp : ∀ b, b ∈ p → b < 256) : ∀ b, b ∈ p ++ D → b < 256 := fun b hb => by
  rcases List.mem_append.1 hb with h1 | h1
  · exact hp b h1
  · exact h b h1
section
variable {w : World} {b : Nat} {D : List Nat} {m : Nat} {z : Int}
theorem rd_plain (hb : b ≤ w.heap.size) (hg : Good 10 D) (h : ∀ b, b ∈ D → b < 256) (hl : D.length ≤ 67108865) (hv : vald 10 (D.map dv) = m) (hz : (m : Int) = z) : Calls Tryd.prog 54 #[.string (strB D)] w (Gv w (T2 (ZR b z) (Is (.int .i64 0)))) :=
  rx_zRead hb h (by omega) (ztl_dig hg).1 hg (by rw [zval_pos (ztl_dig hg).1 (ztl_dig hg).2, hv, hz])
theorem rd_minus (hb : b ≤ w.heap.size) (hg : Good 10 D) (h : ∀ b, b ∈ D → b < 256) (hl : D.length ≤ 67108865) (hv : vald 10 (D.map dv) = m) (hz : -(m : Int) = z) : Calls Tryd.prog 54 #[.string (strB ([45] ++ D))] w (Gv w (T2 (ZR b z) (Is (.int .i64 0)))) :=
  rx_zRead hb (lt256_app h (by decide)) (by rw [List.length_append]; simp only [List.length_cons, List.length_nil]; omega) (ztl_minus D).1 hg (by rw [zval_neg (ztl_minus D).1 (ztl_minus D).2, hv, hz])
theorem rd_plus (hb : b ≤ w.heap.size) (hg : Good 10 D) (h : ∀ b, b ∈ D → b < 256) (hl : D.length ≤ 67108865) (hv : vald 10 (D.map dv) = m) (hz : (m : Int) = z) : Calls Tryd.prog 54 #[.string (strB ([43, 48, 48] ++ D))] w (Gv w (T2 (ZR b z) (Is (.int .i64 0)))) :=
  rx_zRead hb (lt256_app h (by decide)) (by rw [List.length_append]; simp only [List.length_cons, List.length_nil]; omega) (ztl_plus D).1 (good_zero (good_zero hg)) (by rw [zval_pos (ztl_plus D).1 (ztl_plus D).2]; show ((vald 10 (([48] ++ ([48] ++ D)).map dv) : Nat) : Int) = z; rw [vald_zero, vald_zero, hv, hz])
theorem rd_long (hb : b ≤ w.heap.size) (hg : Good 10 D) (h : ∀ b, b ∈ D → b < 256) (hl : D.length ≤ 67108865) (hv : vald 10 (D.map dv) = m) (hz : -(m : Int) = z) : Calls Tryd.prog 54 #[.string (strB ([226, 136, 146, 48] ++ D))] w (Gv w (T2 (ZR b z) (Is (.int .i64 0)))) :=
  rx_zRead hb (lt256_app h (by decide)) (by rw [List.length_append]; simp only [List.length_cons, List.length_nil]; omega) (ztl_long D).1 (good_zero hg) (by rw [zval_neg (ztl_long D).1 (ztl_long D).2, vald_zero, hv, hz])
end
set_option maxHeartbeats 8000000 in
set_option maxRecDepth 20000 in
theorem law_ZintTexts_pos {w : World} {sa : Bool} {Aa : Option Addr} {na ca : Nat} {x : Int} (hx : Zi w sa Aa na ca x) (la : na ≤ 1048576) {bs : List Nat} (hbs : ∀ b, b ∈ bs → b < 256) (hlen : bs.length ≤ 1048576) (hS : Signs w) (h0 : 0 < x) :
    Calls Tryd.prog 13 #[.agg #[.bool sa, .slice Aa na ca], .string (strB bs)] w (Gv w (Is (.bool true))) := by
  have Lx : ln x ≤ 1048576 := Nat.le_trans hx.ln la
  have hm0 : x.natAbs ≠ 0 := by omega
  obtain ⟨D, hD⟩ : ∃ D, D = txtN 10 x.natAbs := ⟨_, rfl⟩
  have hDg : Good 10 D := by rw [hD]; exact good_txtN (by decide) (by decide)
  have hD256 : ∀ b, b ∈ D → b < 256 := by rw [hD]; exact txtN_lt (by decide) (by decide)
  have hDv : vald 10 (D.map dv) = x.natAbs := by rw [hD]; exact vald_txtN (by decide) (by decide)
  have hDl : D.length ≤ 67108865 := by rw [hD]; exact txtN_len5 (by decide) Lx
  have hD0 : 0 < D.length := List.length_pos_iff.2 hDg.1
  have hDf : 49 ≤ D.getD 0 0 ∧ D.getD 0 0 ≤ 57 := by rw [hD]; exact txtN_first hm0
  have hZ1 : txtZ x = D := by rw [txtZ, if_neg (by omega), hD]
  have hZ2 : txtZ (-x) = [45] ++ D := by rw [txtZ, if_pos (by omega), Int.natAbs_neg, hD]
  have hX : ((x.natAbs : Nat) : Int) = x := by omega
  refine sx_enter Tryd.func13 rfl (n := 107) rfl (Nat.le_of_ble_eq_true rfl) (args := [.agg #[.bool sa, .slice Aa na ca], .string (strB bs)]) ?_
  refine cw_keep [(0, .agg #[.bool sa, .slice Aa na ca]), (1, .string (strB bs))] ⟨rfl, rfl, trivial⟩ ?_
  refine cw_seq ?_
  refine cw_region ?_
  refine wl_box rfl rfl (vs := [.bool sa, .slice Aa na ca]) rfl (by decide) fun g1 v2 nb => ?_
  have hb4 := nb.bk
  have ge5 : w.heap.size ≤ g1 := by rw [← nb.at_]; exact (Ext.refl w).size
  have e3 := nb.ext
  clear nb
  have hw1 : Ext w v2 := (Ext.refl w).trans e3
  refine wl_assign rfl rfl (by decide) ?_
  refine wl_nil ?_
  refine eo_then ?_
  refine cw_seq ?_
  refine cw_seq ?_
  refine cw_region ?_
  refine wl_call rfl rfl (vs := []) (by kernel_rfl) (by decide) (g_law5_awake (hS.ext hw1)) ?_
  rintro _ v6 ⟨xr8, rfl, r8, e7⟩
  refine ret_intro ?_
  have hw2 : Ext w v6 := hw1.trans e7
  obtain rfl := r8
  refine wl_pure rfl rfl (v := .bool false) (by decide) (by kernel_rfl) ?_
  refine wl_move rfl rfl (by decide) ?_
  refine wl_move rfl rfl (by decide) ?_
  refine wl_call rfl rfl (vs := [.string (strB bs)]) (by kernel_rfl) (by decide) (g_law5_reads hbs hlen) ?_
  rintro _ v9 ⟨xr11, rfl, r11, e10⟩
  refine ret_intro ?_
  have hw3 : Ext w v9 := hw2.trans e10
  obtain rfl := r11
  refine wl_pure rfl rfl (v := .bool false) (by decide) (by kernel_rfl) ?_
  refine wl_pure rfl rfl (v := .bool false) (by decide) (by kernel_rfl) ?_
  refine wl_nil ?_
  refine eo_then ?_
  refine cw_false rfl ?_
  refine cw_skip ?_
  refine eo_then ?_
  refine cw_seq ?_
  refine cw_region ?_
  refine wl_load rfl rfl (load_agg aggInt (hb4.ext (e7.trans e10)) [.bool sa, .slice Aa na ca] rfl (Nat.le_of_ble_eq_true rfl) rfl) (by decide) ?_
  refine wl_call rfl rfl (vs := [.agg #[.bool sa, .slice Aa na ca]]) (by kernel_rfl) (by decide) (by have h := rx_zTextF (x := x) (hx.ext hw3) (Nat.le_trans la (by decide)) (hS.ext hw3); rw [hZ1] at h; exact h) ?_
  rintro _ v12 ⟨xr14, rfl, r14, e13⟩
  refine ret_intro ?_
  have hw4 : Ext w v12 := hw3.trans e13
  obtain rfl := r14
  refine wl_assign rfl rfl (by decide) ?_
  refine wl_nil ?_
  refine eo_then ?_
  refine cw_seq ?_
  refine cw_region ?_
  refine wl_move rfl rfl (by decide) ?_
  refine wl_call rfl rfl (vs := [.string (strB D)]) (by kernel_rfl) (by decide) (rd_plain (z := x) hw4.size hDg hD256 (by omega) hDv (by omega)) ?_
  rintro _ v15 ⟨xr17, rfl, r17, e16⟩
  refine ret_intro ?_
  have hw5 : Ext w v15 := hw4.trans e16
  obtain ⟨a18_0, a18_1, rfl, r18_0, r18_1⟩ := r17
  obtain ⟨s19, A19, n19, c19, rfl, z19⟩ := r18_0
  obtain rfl := r18_1
  refine wl_move rfl rfl (by decide) ?_
  refine wl_pure rfl rfl (v := .agg #[.bool s19, .slice A19 n19 c19]) (by decide) (by kernel_rfl) ?_
  refine wl_pure rfl rfl (v := .int .i64 0) (by decide) (by kernel_rfl) ?_
  refine wl_alloc rfl (z := .agg #[.bool false, .slice none 0 0]) (vs := [.bool false, .slice none 0 0]) (fun _ => by kernel_rfl) rfl (by decide) fun g20 v21 nb => ?_
  have hb23 := nb.bk
  have ge24 : w.heap.size ≤ g20 := by rw [← nb.at_]; exact hw5.size
  have q25 : g1 < g20 := by rw [← nb.at_]; exact (hb4.ext (e7.trans (e10.trans (e13.trans e16)))).lt
  have e22 := nb.ext
  clear nb
  have hw6 : Ext w v21 := hw5.trans e22
  have hb27 := hb23
  refine wl_stored rfl rfl rfl aggInt rfl hb27 (Nat.le_of_ble_eq_true rfl) rfl [.bool s19, .slice A19 n19 c19] rfl fun v26 hb28 u29 hs30 => ?_
  have hw7 : Ext w v26 := u29.ext hw6 ge24
  refine wl_assign rfl rfl (by decide) ?_
  refine wl_nil ?_
  refine eo_then ?_
  refine cw_seq ?_
  refine cw_seq ?_
  refine cw_draw mix 13 [] [Is (.int .i64 0), Is (.bool false), Is (.bool false), Is (.agg #[.bool s19, .slice A19 n19 c19]), Is (.agg #[.bool sa, .slice Aa na ca]), ZR w.heap.size (x), Is (.bool true), Is (.bool false), Is (.bool false), Is (.bool false), Is (.string (strB D)), Is (.bool false), Is (.bool false)] [[], [0], [1], [2], [2], [2, 4], [2, 3, 5], [2, 6], [2, 7], [8], [9], [9, 10], [9, 11]] [[], [0], [0, 1], [0, 1, 2], [0, 1, 2], [0, 1, 2, 4], [0, 1, 2, 3, 4, 5], [0, 1, 2, 3, 4, 5, 6], [0, 1, 2, 3, 4, 5, 6, 7], [0, 1, 2, 3, 4, 5, 6, 7, 8], [0, 1, 2, 3, 4, 5, 6, 7, 8, 9], [0, 1, 2, 3, 4, 5, 6, 7, 8, 9, 10], [0, 1, 2, 3, 4, 5, 6, 7, 8, 9, 10, 11]] rfl
    (obs_cons rfl rfl (hob rfl rfl ?_) (obs_cons rfl rfl (hob rfl rfl ?_) (obs_cons rfl rfl (hob rfl rfl ?_) (obs_cons rfl rfl (hob rfl rfl ?_) (obs_cons rfl rfl (hob rfl rfl ?_) (obs_cons rfl rfl (hob rfl rfl ?_) (obs_cons rfl rfl (hob rfl rfl ?_) (obs_cons rfl rfl (hob rfl rfl ?_) (obs_cons rfl rfl (hob rfl rfl ?_) (obs_cons rfl rfl (hob rfl rfl ?_) (obs_cons rfl rfl (hob rfl rfl ?_) (obs_cons rfl rfl (hob rfl rfl ?_) (obs_cons rfl rfl (hob rfl rfl ?_) obs_nil))))))))))))) ?_
  · -- 0
    intro v32 e33
    have hw8 : Ext w v32 := hw7.trans e33
    refine deps_nil ?_
    refine wl_move rfl rfl (by decide) ?_
    exact pi_done rfl (Ext.refl _) rfl
  · -- 1
    intro v34 e35
    have hw8 : Ext w v34 := hw7.trans e35
    refine deps_cons rfl rfl fun x36 y37 h38 e39 f40 => ?_
    obtain rfl := h38
    refine deps_nil ?_
    refine wl_cmp rfl rfl rfl false (by decide) (by decide) ?_
    exact pi_done rfl (Ext.refl _) rfl
  · -- 2
    intro v41 e42
    have hw8 : Ext w v41 := hw7.trans e42
    refine deps_cons rfl rfl fun x43 y44 h45 e46 f47 => ?_
    obtain rfl := h45
    refine deps_nil ?_
    refine wl_move rfl rfl (by decide) ?_
    exact pi_done rfl (Ext.refl _) rfl
  · -- 3
    intro v48 e49
    have hw8 : Ext w v48 := hw7.trans e49
    refine deps_cons rfl rfl fun x50 y51 h52 e53 f54 => ?_
    obtain rfl := h52
    refine deps_nil ?_
    refine wl_load rfl rfl (load_agg aggInt (hb28.ext e49) [.bool s19, .slice A19 n19 c19] rfl (Nat.le_of_ble_eq_true rfl) rfl) (by decide) ?_
    exact pi_done rfl (Ext.refl _) rfl
  · -- 4
    intro v55 e56
    have hw8 : Ext w v55 := hw7.trans e56
    refine deps_cons rfl rfl fun x57 y58 h59 e60 f61 => ?_
    obtain rfl := h59
    refine deps_nil ?_
    refine wl_load rfl rfl (load_agg aggInt (((hb4.ext (e7.trans (e10.trans (e13.trans (e16.trans e22))))).updN u29 (by omega)).ext e56) [.bool sa, .slice Aa na ca] rfl (Nat.le_of_ble_eq_true rfl) rfl) (by decide) ?_
    exact pi_done rfl (Ext.refl _) rfl
  · -- 5
    intro v62 e63
    have hw8 : Ext w v62 := hw7.trans e63
    refine deps_cons rfl rfl fun x64 y65 h66 e67 f68 => ?_
    obtain rfl := h66
    refine deps_cons rfl rfl fun x69 y70 h71 e72 f73 => ?_
    obtain rfl := h71
    refine deps_nil ?_
    refine wl_call rfl rfl (vs := [.agg #[.bool sa, .slice Aa na ca]]) (by kernel_rfl) (by decide) (g_zint_Least hw8.size (hx.ext hw8) (Nat.le_trans la (by decide))) ?_
    rintro _ v74 ⟨xr76, rfl, r76, e75⟩
    refine ret_intro ?_
    have hw9 : Ext w v74 := hw8.trans e75
    obtain ⟨s77, A77, n77, c77, rfl, z77⟩ := r76
    exact pi_done rfl e75 ⟨_, _, _, _, rfl, z77⟩
  · -- 6
    intro v78 e79
    have hw8 : Ext w v78 := hw7.trans e79
    refine deps_cons rfl rfl fun x80 y81 h82 e83 f84 => ?_
    obtain rfl := h82
    refine deps_cons rfl rfl fun x85 y86 h87 e88 f89 => ?_
    obtain rfl := h87
    refine deps_cons rfl rfl fun x90 y91 h92 e93 f94 => ?_
    obtain ⟨s95, A95, n95, c95, rfl, z95⟩ := h92
    have z95 := z95.ext f94
    refine deps_nil ?_
    refine wl_call rfl rfl (vs := [.agg #[.bool s19, .slice A19 n19 c19], .agg #[.bool s95, .slice A95 n95 c95]]) (by kernel_rfl) (by decide) (g_law5_alike (((z19.ext e22).updT hb27 u29).ext e79) (z19.le (Nat.le_trans Lx (by decide))) z95 (z95.le (Nat.le_trans Lx (by decide)))) ?_
    rintro _ v96 ⟨xr98, rfl, r98, e97⟩
    refine ret_intro ?_
    have hw9 : Ext w v96 := hw8.trans e97
    obtain rfl := r98
    exact pi_done rfl e97 rfl
  · -- 7
    intro v99 e100
    have hw8 : Ext w v99 := hw7.trans e100
    refine deps_cons rfl rfl fun x101 y102 h103 e104 f105 => ?_
    obtain rfl := h103
    refine deps_cons rfl rfl fun x106 y107 h108 e109 f110 => ?_
    obtain rfl := h108
    refine deps_nil ?_
    refine wl_pure rfl rfl (v := .bool false) (by decide) (by kernel_rfl) ?_
    exact pi_done rfl (Ext.refl _) rfl
  · -- 8
    intro v111 e112
    have hw8 : Ext w v111 := hw7.trans e112
    refine deps_cons rfl rfl fun x113 y114 h115 e116 f117 => ?_
    obtain rfl := h115
    refine deps_cons rfl rfl fun x118 y119 h120 e121 f122 => ?_
    obtain rfl := h120
    refine deps_nil ?_
    refine wl_pure rfl rfl (v := .bool false) (by decide) (by kernel_rfl) ?_
    exact pi_done rfl (Ext.refl _) rfl
  · -- 9
    intro v123 e124
    have hw8 : Ext w v123 := hw7.trans e124
    refine deps_cons rfl rfl fun x125 y126 h127 e128 f129 => ?_
    obtain rfl := h127
    refine deps_nil ?_
    refine wl_move rfl rfl (by decide) ?_
    exact pi_done rfl (Ext.refl _) rfl
  · -- 10
    intro v130 e131
    have hw8 : Ext w v130 := hw7.trans e131
    refine deps_cons rfl rfl fun x132 y133 h134 e135 f136 => ?_
    obtain rfl := h134
    refine deps_nil ?_
    refine wl_move rfl rfl (by decide) ?_
    exact pi_done rfl (Ext.refl _) rfl
  · -- 11
    intro v137 e138
    have hw8 : Ext w v137 := hw7.trans e138
    refine deps_cons rfl rfl fun x139 y140 h141 e142 f143 => ?_
    obtain rfl := h141
    refine deps_cons rfl rfl fun x144 y145 h146 e147 f148 => ?_
    obtain rfl := h146
    refine deps_nil ?_
    refine wl_streq (a := D) (b := []) rfl rfl rfl hD256 (by decide) false (strE_eql_f (hDg.1)) (by decide) ?_
    exact pi_done rfl (Ext.refl _) rfl
  · -- 12
    intro v149 e150
    have hw8 : Ext w v149 := hw7.trans e150
    refine deps_cons rfl rfl fun x151 y152 h153 e154 f155 => ?_
    obtain rfl := h153
    refine deps_cons rfl rfl fun x156 y157 h158 e159 f160 => ?_
    obtain rfl := h158
    refine deps_nil ?_
    refine wl_pure rfl rfl (v := .bool false) (by decide) (by kernel_rfl) ?_
    exact pi_done rfl (Ext.refl _) rfl
  · -- all
    intro v161 e162
    have hw8 : Ext w v161 := hw7.trans e162
    refine deps_cons rfl rfl fun x163 y164 h165 e166 f167 => ?_
    obtain rfl := h165
    refine deps_cons rfl rfl fun x168 y169 h170 e171 f172 => ?_
    obtain rfl := h170
    refine deps_cons rfl rfl fun x173 y174 h175 e176 f177 => ?_
    obtain rfl := h175
    refine deps_cons rfl rfl fun x178 y179 h180 e181 f182 => ?_
    obtain rfl := h180
    refine deps_cons rfl rfl fun x183 y184 h185 e186 f187 => ?_
    obtain rfl := h185
    refine deps_cons rfl rfl fun x188 y189 h190 e191 f192 => ?_
    obtain ⟨s193, A193, n193, c193, rfl, z193⟩ := h190
    have z193 := z193.ext f192
    refine deps_cons rfl rfl fun x194 y195 h196 e197 f198 => ?_
    obtain rfl := h196
    refine deps_cons rfl rfl fun x199 y200 h201 e202 f203 => ?_
    obtain rfl := h201
    refine deps_cons rfl rfl fun x204 y205 h206 e207 f208 => ?_
    obtain rfl := h206
    refine deps_cons rfl rfl fun x209 y210 h211 e212 f213 => ?_
    obtain rfl := h211
    refine deps_cons rfl rfl fun x214 y215 h216 e217 f218 => ?_
    obtain rfl := h216
    refine deps_cons rfl rfl fun x219 y220 h221 e222 f223 => ?_
    obtain rfl := h221
    refine deps_cons rfl rfl fun x224 y225 h226 e227 f228 => ?_
    obtain rfl := h226
    refine deps_nil ?_
    refine wl_nil ?_
    refine eo_np ?_
    refine eo_then ?_
    refine cw_false rfl ?_
    refine cw_skip ?_
    refine eo_then ?_
    refine cw_seq ?_
    refine cw_region ?_
    refine wl_load rfl rfl (load_agg aggInt (((hb4.ext (e7.trans (e10.trans (e13.trans (e16.trans e22))))).updN u29 (by omega)).ext e162) [.bool sa, .slice Aa na ca] rfl (Nat.le_of_ble_eq_true rfl) rfl) (by decide) ?_
    have L229 : ln (-x) ≤ 1048576 := (by rw [ln_neg]; exact Lx)
    refine wl_call rfl rfl (vs := [.agg #[.bool sa, .slice Aa na ca]]) (by kernel_rfl) (by decide) (g_zint_Neg hw8.size (hx.ext hw8) (Nat.le_trans la (by decide))) ?_
    rintro _ v230 ⟨xr232, rfl, r232, e231⟩
    refine ret_intro ?_
    have hw9 : Ext w v230 := hw8.trans e231
    obtain ⟨s233, A233, n233, c233, rfl, z233⟩ := r232
    refine wl_call rfl rfl (vs := [.agg #[.bool s233, .slice A233 n233 c233]]) (by kernel_rfl) (by decide) (by have h := rx_zTextF (x := -x) z233.zi (z233.le (Nat.le_trans L229 (by decide))) (hS.ext hw9); rw [hZ2] at h; exact h) ?_
    rintro _ v234 ⟨xr236, rfl, r236, e235⟩
    refine ret_intro ?_
    have hw10 : Ext w v234 := hw9.trans e235
    obtain rfl := r236
    refine wl_assign rfl rfl (by decide) ?_
    refine wl_nil ?_
    refine eo_then ?_
    refine cw_seq ?_
    refine cw_seq ?_
    refine cw_region ?_
    refine wl_load rfl rfl (load_agg aggInt (((hb4.ext (e7.trans (e10.trans (e13.trans (e16.trans e22))))).updN u29 (by omega)).ext (e162.trans (e231.trans e235))) [.bool sa, .slice Aa na ca] rfl (Nat.le_of_ble_eq_true rfl) rfl) (by decide) ?_
    refine wl_call rfl rfl (vs := [.agg #[.bool sa, .slice Aa na ca]]) (by kernel_rfl) (by decide) (g_zint_Sign (hx.ext hw10) (Nat.le_trans la (by decide))) ?_
    rintro _ v237 ⟨xr239, rfl, r239, e238⟩
    refine ret_intro ?_
    have hw11 : Ext w v237 := hw10.trans e238
    obtain rfl := r239
    refine wl_cmp rfl rfl rfl false (scmp_eq_f (by omega)) (by decide) ?_
    refine wl_nil ?_
    refine eo_then ?_
    refine cw_false rfl ?_
    refine cw_skip ?_
    refine eo_then ?_
    refine cw_seq ?_
    refine cw_seq ?_
    refine cw_region ?_
    refine wl_load rfl rfl (load_agg aggInt (((hb4.ext (e7.trans (e10.trans (e13.trans (e16.trans e22))))).updN u29 (by omega)).ext (e162.trans (e231.trans (e235.trans e238)))) [.bool sa, .slice Aa na ca] rfl (Nat.le_of_ble_eq_true rfl) rfl) (by decide) ?_
    refine wl_call rfl rfl (vs := [.agg #[.bool sa, .slice Aa na ca]]) (by kernel_rfl) (by decide) (g_zint_Sign (hx.ext hw11) (Nat.le_trans la (by decide))) ?_
    rintro _ v240 ⟨xr242, rfl, r242, e241⟩
    refine ret_intro ?_
    have hw12 : Ext w v240 := hw11.trans e241
    obtain rfl := r242
    refine wl_cmp rfl rfl rfl false (scmp_lt_f (by omega)) (by decide) ?_
    refine wl_nil ?_
    refine eo_then ?_
    refine cw_false rfl ?_
    refine cw_skip ?_
    refine eo_then ?_
    refine cw_seq ?_
    refine cw_seq ?_
    refine cw_region ?_
    refine wl_move rfl rfl (by decide) ?_
    refine wl_streq (a := D) (b := []) rfl rfl rfl hD256 (by decide) false (strE_eql_f (hDg.1)) (by decide) ?_
    refine wl_move rfl rfl (by decide) ?_
    refine wl_move rfl rfl (by decide) ?_
    refine wl_strix (bs := D) (i := 0) rfl rfl rfl Tryd.underlying9 hD256 (by omega) (by decide) ?_
    refine wl_cmp rfl rfl rfl false (cb_lt_f (a := D.getD 0 0) (b := 49) rfl rfl (by omega)) (by decide) ?_
    refine wl_pure rfl rfl (v := .bool false) (by decide) (by kernel_rfl) ?_
    refine wl_move rfl rfl (by decide) ?_
    refine wl_move rfl rfl (by decide) ?_
    refine wl_strix (bs := D) (i := 0) rfl rfl rfl Tryd.underlying9 hD256 (by omega) (by decide) ?_
    refine wl_cmp rfl rfl rfl false (cb_gt_f (a := D.getD 0 0) (b := 57) rfl rfl (by omega)) (by decide) ?_
    refine wl_pure rfl rfl (v := .bool false) (by decide) (by kernel_rfl) ?_
    refine wl_move rfl rfl (by decide) ?_
    refine wl_move rfl rfl (by decide) ?_
    refine wl_move rfl rfl (by decide) ?_
    refine wl_op rfl rfl rfl (r := .string (strB (([45]) ++ D))) rfl (fun w => str_add (a := [45]) (b := D) (by simp only [List.length_append, List.length_cons, List.length_nil]; omega)) (by decide) ?_
    refine wl_streq (a := [45] ++ D) (b := ([45]) ++ D) rfl rfl rfl (lt256_45 hD256) (lt256_45 hD256) false (strE_neq_t (rfl)) (by decide) ?_
    refine wl_pure rfl rfl (v := .bool false) (by decide) (by kernel_rfl) ?_
    refine wl_nil ?_
    refine eo_then ?_
    refine cw_false rfl ?_
    refine cw_skip ?_
    refine eo_then ?_
    refine cw_seq ?_
    refine cw_region ?_
    refine wl_load rfl rfl (load_agg aggInt (((hb4.ext (e7.trans (e10.trans (e13.trans (e16.trans e22))))).updN u29 (by omega)).ext (e162.trans (e231.trans (e235.trans (e238.trans e241))))) [.bool sa, .slice Aa na ca] rfl (Nat.le_of_ble_eq_true rfl) rfl) (by decide) ?_
    have L243 : ln ((Int.natAbs x : Int)) ≤ 1048576 := (by rw [ln_abs]; exact Lx)
    refine wl_call rfl rfl (vs := [.agg #[.bool sa, .slice Aa na ca]]) (by kernel_rfl) (by decide) (g_zint_Abs hw12.size (hx.ext hw12) (Nat.le_trans la (by decide))) ?_
    rintro _ v244 ⟨xr246, rfl, r246, e245⟩
    refine ret_intro ?_
    have hw13 : Ext w v244 := hw12.trans e245
    obtain ⟨s247, A247, n247, c247, rfl, z247⟩ := r246
    refine wl_alloc rfl (z := .agg #[.bool false, .slice none 0 0]) (vs := [.bool false, .slice none 0 0]) (fun _ => by kernel_rfl) rfl (by decide) fun g248 v249 nb => ?_
    have hb251 := nb.bk
    have ge252 : w.heap.size ≤ g248 := by rw [← nb.at_]; exact hw13.size
    have q253 : g20 < g248 := by rw [← nb.at_]; exact (hb28.ext (e162.trans (e231.trans (e235.trans (e238.trans (e241.trans e245)))))).lt
    have e250 := nb.ext
    clear nb
    have hw14 : Ext w v249 := hw13.trans e250
    have hb255 := hb251
    refine wl_stored rfl rfl rfl aggInt rfl hb255 (Nat.le_of_ble_eq_true rfl) rfl [.bool s247, .slice A247 n247 c247] rfl fun v254 hb256 u257 hs258 => ?_
    have hw15 : Ext w v254 := u257.ext hw14 ge252
    refine wl_nil ?_
    refine eo_then ?_
    refine cw_seq ?_
    refine cw_region ?_
    refine wl_move rfl rfl (by decide) ?_
    refine wl_op rfl rfl rfl (r := .string (strB (([43, 48, 48]) ++ D))) rfl (fun w => str_add (a := [43, 48, 48]) (b := D) (by simp only [List.length_append, List.length_cons, List.length_nil]; omega)) (by decide) ?_
    refine wl_call rfl rfl (vs := [.string (strB (([43, 48, 48]) ++ D))]) (by kernel_rfl) (by decide) (rd_plus (z := (Int.natAbs x : Int)) hw15.size hDg hD256 (by omega) hDv rfl) ?_
    rintro _ v259 ⟨xr261, rfl, r261, e260⟩
    refine ret_intro ?_
    have hw16 : Ext w v259 := hw15.trans e260
    obtain ⟨a262_0, a262_1, rfl, r262_0, r262_1⟩ := r261
    obtain ⟨s263, A263, n263, c263, rfl, z263⟩ := r262_0
    obtain rfl := r262_1
    refine wl_move rfl rfl (by decide) ?_
    refine wl_pure rfl rfl (v := .agg #[.bool s263, .slice A263 n263 c263]) (by decide) (by kernel_rfl) ?_
    refine wl_pure rfl rfl (v := .int .i64 0) (by decide) (by kernel_rfl) ?_
    refine wl_alloc rfl (z := .agg #[.bool false, .slice none 0 0]) (vs := [.bool false, .slice none 0 0]) (fun _ => by kernel_rfl) rfl (by decide) fun g264 v265 nb => ?_
    have hb267 := nb.bk
    have ge268 : w.heap.size ≤ g264 := by rw [← nb.at_]; exact hw16.size
    have q269 : g248 < g264 := by rw [← nb.at_]; exact (hb256.ext e260).lt
    have e266 := nb.ext
    clear nb
    have hw17 : Ext w v265 := hw16.trans e266
    have hb271 := hb267
    refine wl_stored rfl rfl rfl aggInt rfl hb271 (Nat.le_of_ble_eq_true rfl) rfl [.bool s263, .slice A263 n263 c263] rfl fun v270 hb272 u273 hs274 => ?_
    have hw18 : Ext w v270 := u273.ext hw17 ge268
    refine wl_assign rfl rfl (by decide) ?_
    refine wl_nil ?_
    refine eo_then ?_
    refine cw_seq ?_
    refine cw_region ?_
    refine wl_move rfl rfl (by decide) ?_
    refine wl_op rfl rfl rfl (r := .string (strB (([226, 136, 146, 48]) ++ D))) rfl (fun w => str_add (a := [226, 136, 146, 48]) (b := D) (by simp only [List.length_append, List.length_cons, List.length_nil]; omega)) (by decide) ?_
    refine wl_call rfl rfl (vs := [.string (strB (([226, 136, 146, 48]) ++ D))]) (by kernel_rfl) (by decide) (rd_long (z := -(Int.natAbs x : Int)) hw18.size hDg hD256 (by omega) hDv rfl) ?_
    rintro _ v275 ⟨xr277, rfl, r277, e276⟩
    refine ret_intro ?_
    have hw19 : Ext w v275 := hw18.trans e276
    obtain ⟨a278_0, a278_1, rfl, r278_0, r278_1⟩ := r277
    obtain ⟨s279, A279, n279, c279, rfl, z279⟩ := r278_0
    obtain rfl := r278_1
    refine wl_move rfl rfl (by decide) ?_
    refine wl_pure rfl rfl (v := .agg #[.bool s279, .slice A279 n279 c279]) (by decide) (by kernel_rfl) ?_
    refine wl_pure rfl rfl (v := .int .i64 0) (by decide) (by kernel_rfl) ?_
    refine wl_alloc rfl (z := .agg #[.bool false, .slice none 0 0]) (vs := [.bool false, .slice none 0 0]) (fun _ => by kernel_rfl) rfl (by decide) fun g280 v281 nb => ?_
    have hb283 := nb.bk
    have ge284 : w.heap.size ≤ g280 := by rw [← nb.at_]; exact hw19.size
    have q285 : g264 < g280 := by rw [← nb.at_]; exact (hb272.ext e276).lt
    have e282 := nb.ext
    clear nb
    have hw20 : Ext w v281 := hw19.trans e282
    have hb287 := hb283
    refine wl_stored rfl rfl rfl aggInt rfl hb287 (Nat.le_of_ble_eq_true rfl) rfl [.bool s279, .slice A279 n279 c279] rfl fun v286 hb288 u289 hs290 => ?_
    have hw21 : Ext w v286 := u289.ext hw20 ge284
    refine wl_assign rfl rfl (by decide) ?_
    refine wl_nil ?_
    refine eo_then ?_
    refine cw_seq ?_
    have L291 : ln (-(Int.natAbs x : Int)) ≤ 1048576 := (by rw [ln_neg]; exact L243)
    refine cw_draw mix 17 [] [Is (.int .i64 0), Is (.bool true), Is (.bool true), Is (.int .i64 0), Is (.bool true), Is (.bool true), Is (.bool true), Is (.agg #[.bool s263, .slice A263 n263 c263]), Is (.agg #[.bool s247, .slice A247 n247 c247]), Is (.bool true), Is (.bool true), Is (.bool true), Is (.agg #[.bool s279, .slice A279 n279 c279]), Is (.agg #[.bool s247, .slice A247 n247 c247]), ZR w.heap.size (-(Int.natAbs x : Int)), Is (.bool true), Is (.bool true)] [[], [0], [1], [2], [2, 3], [2, 4], [5], [6], [6], [6, 7, 8], [6, 9], [10], [11], [11], [11, 13], [11, 12, 14], [11, 15]] [[], [0], [0, 1], [0, 1, 2], [0, 1, 2, 3], [0, 1, 2, 3, 4], [0, 1, 2, 3, 4, 5], [0, 1, 2, 3, 4, 5, 6], [0, 1, 2, 3, 4, 5, 6], [0, 1, 2, 3, 4, 5, 6, 7, 8], [0, 1, 2, 3, 4, 5, 6, 7, 8, 9], [0, 1, 2, 3, 4, 5, 6, 7, 8, 9, 10], [0, 1, 2, 3, 4, 5, 6, 7, 8, 9, 10, 11], [0, 1, 2, 3, 4, 5, 6, 7, 8, 9, 10, 11], [0, 1, 2, 3, 4, 5, 6, 7, 8, 9, 10, 11, 13], [0, 1, 2, 3, 4, 5, 6, 7, 8, 9, 10, 11, 12, 13, 14], [0, 1, 2, 3, 4, 5, 6, 7, 8, 9, 10, 11, 12, 13, 14, 15], [0, 1, 2, 3, 4, 5, 6, 7, 8, 9, 10, 11, 12, 13, 14, 15, 16]] rfl
      (obs_cons rfl rfl (hob rfl rfl ?_) (obs_cons rfl rfl (hob rfl rfl ?_) (obs_cons rfl rfl (hob rfl rfl ?_) (obs_cons rfl rfl (hob rfl rfl ?_) (obs_cons rfl rfl (hob rfl rfl ?_) (obs_cons rfl rfl (hob rfl rfl ?_) (obs_cons rfl rfl (hob rfl rfl ?_) (obs_cons rfl rfl (hob rfl rfl ?_) (obs_cons rfl rfl (hob rfl rfl ?_) (obs_cons rfl rfl (hob rfl rfl ?_) (obs_cons rfl rfl (hob rfl rfl ?_) (obs_cons rfl rfl (hob rfl rfl ?_) (obs_cons rfl rfl (hob rfl rfl ?_) (obs_cons rfl rfl (hob rfl rfl ?_) (obs_cons rfl rfl (hob rfl rfl ?_) (obs_cons rfl rfl (hob rfl rfl ?_) (obs_cons rfl rfl (hob rfl rfl ?_) obs_nil))))))))))))))))) ?_
    · -- 0
      intro v293 e294
      have hw22 : Ext w v293 := hw21.trans e294
      refine deps_nil ?_
      refine wl_move rfl rfl (by decide) ?_
      exact pi_done rfl (Ext.refl _) rfl
    · -- 1
      intro v295 e296
      have hw22 : Ext w v295 := hw21.trans e296
      refine deps_cons rfl rfl fun x297 y298 h299 e300 f301 => ?_
      obtain rfl := h299
      refine deps_nil ?_
      refine wl_cmp rfl rfl rfl true (by decide) (by decide) ?_
      exact pi_done rfl (Ext.refl _) rfl
    · -- 2
      intro v302 e303
      have hw22 : Ext w v302 := hw21.trans e303
      refine deps_cons rfl rfl fun x304 y305 h306 e307 f308 => ?_
      obtain rfl := h306
      refine deps_nil ?_
      refine wl_move rfl rfl (by decide) ?_
      exact pi_done rfl (Ext.refl _) rfl
    · -- 3
      intro v309 e310
      have hw22 : Ext w v309 := hw21.trans e310
      refine deps_cons rfl rfl fun x311 y312 h313 e314 f315 => ?_
      obtain rfl := h313
      refine deps_nil ?_
      refine wl_move rfl rfl (by decide) ?_
      exact pi_done rfl (Ext.refl _) rfl
    · -- 4
      intro v316 e317
      have hw22 : Ext w v316 := hw21.trans e317
      refine deps_cons rfl rfl fun x318 y319 h320 e321 f322 => ?_
      obtain rfl := h320
      refine deps_cons rfl rfl fun x323 y324 h325 e326 f327 => ?_
      obtain rfl := h325
      refine deps_nil ?_
      refine wl_cmp rfl rfl rfl true (by decide) (by decide) ?_
      exact pi_done rfl (Ext.refl _) rfl
    · -- 5
      intro v328 e329
      have hw22 : Ext w v328 := hw21.trans e329
      refine deps_cons rfl rfl fun x330 y331 h332 e333 f334 => ?_
      obtain rfl := h332
      refine deps_cons rfl rfl fun x335 y336 h337 e338 f339 => ?_
      obtain rfl := h337
      refine deps_nil ?_
      refine wl_pure rfl rfl (v := .bool true) (by decide) (by kernel_rfl) ?_
      exact pi_done rfl (Ext.refl _) rfl
    · -- 6
      intro v340 e341
      have hw22 : Ext w v340 := hw21.trans e341
      refine deps_cons rfl rfl fun x342 y343 h344 e345 f346 => ?_
      obtain rfl := h344
      refine deps_nil ?_
      refine wl_move rfl rfl (by decide) ?_
      exact pi_done rfl (Ext.refl _) rfl
    · -- 7
      intro v347 e348
      have hw22 : Ext w v347 := hw21.trans e348
      refine deps_cons rfl rfl fun x349 y350 h351 e352 f353 => ?_
      obtain rfl := h351
      refine deps_nil ?_
      refine wl_load rfl rfl (load_agg aggInt (((hb272.ext (e276.trans e282)).updN u289 (by omega)).ext e348) [.bool s263, .slice A263 n263 c263] rfl (Nat.le_of_ble_eq_true rfl) rfl) (by decide) ?_
      exact pi_done rfl (Ext.refl _) rfl
    · -- 8
      intro v354 e355
      have hw22 : Ext w v354 := hw21.trans e355
      refine deps_cons rfl rfl fun x356 y357 h358 e359 f360 => ?_
      obtain rfl := h358
      refine deps_nil ?_
      refine wl_load rfl rfl (load_agg aggInt (((((hb256.ext (e260.trans e266)).updN u273 (by omega)).ext (e276.trans e282)).updN u289 (by omega)).ext e355) [.bool s247, .slice A247 n247 c247] rfl (Nat.le_of_ble_eq_true rfl) rfl) (by decide) ?_
      exact pi_done rfl (Ext.refl _) rfl
    · -- 9
      intro v361 e362
      have hw22 : Ext w v361 := hw21.trans e362
      refine deps_cons rfl rfl fun x363 y364 h365 e366 f367 => ?_
      obtain rfl := h365
      refine deps_cons rfl rfl fun x368 y369 h370 e371 f372 => ?_
      obtain rfl := h370
      refine deps_cons rfl rfl fun x373 y374 h375 e376 f377 => ?_
      obtain rfl := h375
      refine deps_nil ?_
      refine wl_call rfl rfl (vs := [.agg #[.bool s263, .slice A263 n263 c263], .agg #[.bool s247, .slice A247 n247 c247]]) (by kernel_rfl) (by decide) (g_law5_alike (((((z263.ext e266).updT hb271 u273).ext (e276.trans e282)).updT hb287 u289).ext e362) (z263.le (Nat.le_trans (by rw [ln_abs]; exact Lx) (by decide))) (((((((z247.ext e250).updT hb255 u257).ext (e260.trans e266)).updT hb271 u273).ext (e276.trans e282)).updT hb287 u289).ext e362) (z247.le (Nat.le_trans L243 (by decide)))) ?_
      rintro _ v378 ⟨xr380, rfl, r380, e379⟩
      refine ret_intro ?_
      have hw23 : Ext w v378 := hw22.trans e379
      obtain rfl := r380
      exact pi_done rfl e379 rfl
    · -- 10
      intro v381 e382
      have hw22 : Ext w v381 := hw21.trans e382
      refine deps_cons rfl rfl fun x383 y384 h385 e386 f387 => ?_
      obtain rfl := h385
      refine deps_cons rfl rfl fun x388 y389 h390 e391 f392 => ?_
      obtain rfl := h390
      refine deps_nil ?_
      refine wl_pure rfl rfl (v := .bool true) (by decide) (by kernel_rfl) ?_
      exact pi_done rfl (Ext.refl _) rfl
    · -- 11
      intro v393 e394
      have hw22 : Ext w v393 := hw21.trans e394
      refine deps_cons rfl rfl fun x395 y396 h397 e398 f399 => ?_
      obtain rfl := h397
      refine deps_nil ?_
      refine wl_move rfl rfl (by decide) ?_
      exact pi_done rfl (Ext.refl _) rfl
    · -- 12
      intro v400 e401
      have hw22 : Ext w v400 := hw21.trans e401
      refine deps_cons rfl rfl fun x402 y403 h404 e405 f406 => ?_
      obtain rfl := h404
      refine deps_nil ?_
      refine wl_load rfl rfl (load_agg aggInt (hb288.ext e401) [.bool s279, .slice A279 n279 c279] rfl (Nat.le_of_ble_eq_true rfl) rfl) (by decide) ?_
      exact pi_done rfl (Ext.refl _) rfl
    · -- 13
      intro v407 e408
      have hw22 : Ext w v407 := hw21.trans e408
      refine deps_cons rfl rfl fun x409 y410 h411 e412 f413 => ?_
      obtain rfl := h411
      refine deps_nil ?_
      refine wl_load rfl rfl (load_agg aggInt (((((hb256.ext (e260.trans e266)).updN u273 (by omega)).ext (e276.trans e282)).updN u289 (by omega)).ext e408) [.bool s247, .slice A247 n247 c247] rfl (Nat.le_of_ble_eq_true rfl) rfl) (by decide) ?_
      exact pi_done rfl (Ext.refl _) rfl
    · -- 14
      intro v414 e415
      have hw22 : Ext w v414 := hw21.trans e415
      refine deps_cons rfl rfl fun x416 y417 h418 e419 f420 => ?_
      obtain rfl := h418
      refine deps_cons rfl rfl fun x421 y422 h423 e424 f425 => ?_
      obtain rfl := h423
      refine deps_nil ?_
      have L426 : ln (-(Int.natAbs x : Int)) ≤ 1048576 := (by rw [ln_neg]; exact L243)
      refine wl_call rfl rfl (vs := [.agg #[.bool s247, .slice A247 n247 c247]]) (by kernel_rfl) (by decide) (g_zint_Neg hw22.size (((((((z247.ext e250).updT hb255 u257).ext (e260.trans e266)).updT hb271 u273).ext (e276.trans e282)).updT hb287 u289).ext e415).zi (z247.le (Nat.le_trans L243 (by decide)))) ?_
      rintro _ v427 ⟨xr429, rfl, r429, e428⟩
      refine ret_intro ?_
      have hw23 : Ext w v427 := hw22.trans e428
      obtain ⟨s430, A430, n430, c430, rfl, z430⟩ := r429
      exact pi_done rfl e428 ⟨_, _, _, _, rfl, z430⟩
    · -- 15
      intro v431 e432
      have hw22 : Ext w v431 := hw21.trans e432
      refine deps_cons rfl rfl fun x433 y434 h435 e436 f437 => ?_
      obtain rfl := h435
      refine deps_cons rfl rfl fun x438 y439 h440 e441 f442 => ?_
      obtain rfl := h440
      refine deps_cons rfl rfl fun x443 y444 h445 e446 f447 => ?_
      obtain ⟨s448, A448, n448, c448, rfl, z448⟩ := h445
      have z448 := z448.ext f447
      refine deps_nil ?_
      refine wl_call rfl rfl (vs := [.agg #[.bool s279, .slice A279 n279 c279], .agg #[.bool s448, .slice A448 n448 c448]]) (by kernel_rfl) (by decide) (g_law5_alike (((z279.ext e282).updT hb287 u289).ext e432) (z279.le (Nat.le_trans (by rw [ln_neg, ln_abs]; exact Lx) (by decide))) z448 (z448.le (Nat.le_trans L291 (by decide)))) ?_
      rintro _ v449 ⟨xr451, rfl, r451, e450⟩
      refine ret_intro ?_
      have hw23 : Ext w v449 := hw22.trans e450
      obtain rfl := r451
      exact pi_done rfl e450 rfl
    · -- 16
      intro v452 e453
      have hw22 : Ext w v452 := hw21.trans e453
      refine deps_cons rfl rfl fun x454 y455 h456 e457 f458 => ?_
      obtain rfl := h456
      refine deps_cons rfl rfl fun x459 y460 h461 e462 f463 => ?_
      obtain rfl := h461
      refine deps_nil ?_
      refine wl_pure rfl rfl (v := .bool true) (by decide) (by kernel_rfl) ?_
      exact pi_done rfl (Ext.refl _) rfl
    · -- all
      intro v464 e465
      have hw22 : Ext w v464 := hw21.trans e465
      refine deps_cons rfl rfl fun x466 y467 h468 e469 f470 => ?_
      obtain rfl := h468
      refine deps_cons rfl rfl fun x471 y472 h473 e474 f475 => ?_
      obtain rfl := h473
      refine deps_cons rfl rfl fun x476 y477 h478 e479 f480 => ?_
      obtain rfl := h478
      refine deps_cons rfl rfl fun x481 y482 h483 e484 f485 => ?_
      obtain rfl := h483
      refine deps_cons rfl rfl fun x486 y487 h488 e489 f490 => ?_
      obtain rfl := h488
      refine deps_cons rfl rfl fun x491 y492 h493 e494 f495 => ?_
      obtain rfl := h493
      refine deps_cons rfl rfl fun x496 y497 h498 e499 f500 => ?_
      obtain rfl := h498
      refine deps_cons rfl rfl fun x501 y502 h503 e504 f505 => ?_
      obtain rfl := h503
      refine deps_cons rfl rfl fun x506 y507 h508 e509 f510 => ?_
      obtain rfl := h508
      refine deps_cons rfl rfl fun x511 y512 h513 e514 f515 => ?_
      obtain rfl := h513
      refine deps_cons rfl rfl fun x516 y517 h518 e519 f520 => ?_
      obtain rfl := h518
      refine deps_cons rfl rfl fun x521 y522 h523 e524 f525 => ?_
      obtain rfl := h523
      refine deps_cons rfl rfl fun x526 y527 h528 e529 f530 => ?_
      obtain rfl := h528
      refine deps_cons rfl rfl fun x531 y532 h533 e534 f535 => ?_
      obtain rfl := h533
      refine deps_cons rfl rfl fun x536 y537 h538 e539 f540 => ?_
      obtain ⟨s541, A541, n541, c541, rfl, z541⟩ := h538
      have z541 := z541.ext f540
      refine deps_cons rfl rfl fun x542 y543 h544 e545 f546 => ?_
      obtain rfl := h544
      refine deps_cons rfl rfl fun x547 y548 h549 e550 f551 => ?_
      obtain rfl := h549
      refine deps_nil ?_
      refine wl_assign rfl rfl (by decide) ?_
      refine wl_nil ?_
      refine eo_np ?_
      refine eo_then ?_
      refine cw_ret ?_
      refine eo_ret [.bool true] rfl ⟨rfl, trivial⟩ ?_
      exact ⟨_, rfl, rfl, hw22⟩
set_option maxHeartbeats 8000000 in
set_option maxRecDepth 20000 in
theorem law_ZintTexts_neg {w : World} {sa : Bool} {Aa : Option Addr} {na ca : Nat} {x : Int} (hx : Zi w sa Aa na ca x) (la : na ≤ 1048576) {bs : List Nat} (hbs : ∀ b, b ∈ bs → b < 256) (hlen : bs.length ≤ 1048576) (hS : Signs w) (h0 : x < 0) :
    Calls Tryd.prog 13 #[.agg #[.bool sa, .slice Aa na ca], .string (strB bs)] w (Gv w (Is (.bool true))) := by
  have Lx : ln x ≤ 1048576 := Nat.le_trans hx.ln la
  have hm0 : x.natAbs ≠ 0 := by omega
  obtain ⟨D, hD⟩ : ∃ D, D = txtN 10 x.natAbs := ⟨_, rfl⟩
  have hDg : Good 10 D := by rw [hD]; exact good_txtN (by decide) (by decide)
  have hD256 : ∀ b, b ∈ D → b < 256 := by rw [hD]; exact txtN_lt (by decide) (by decide)
  have hDv : vald 10 (D.map dv) = x.natAbs := by rw [hD]; exact vald_txtN (by decide) (by decide)
  have hDl : D.length ≤ 67108865 := by rw [hD]; exact txtN_len5 (by decide) Lx
  have hD0 : 0 < D.length := List.length_pos_iff.2 hDg.1
  have hDf : 49 ≤ D.getD 0 0 ∧ D.getD 0 0 ≤ 57 := by rw [hD]; exact txtN_first hm0
  have hZ1 : txtZ x = [45] ++ D := by rw [txtZ, if_pos h0, hD]
  have hZ2 : txtZ (-x) = D := by rw [txtZ, if_neg (by omega), Int.natAbs_neg, hD]
  have hX : ((x.natAbs : Nat) : Int) = -x := by omega
  refine sx_enter Tryd.func13 rfl (n := 107) rfl (Nat.le_of_ble_eq_true rfl) (args := [.agg #[.bool sa, .slice Aa na ca], .string (strB bs)]) ?_
  refine cw_keep [(0, .agg #[.bool sa, .slice Aa na ca]), (1, .string (strB bs))] ⟨rfl, rfl, trivial⟩ ?_
  refine cw_seq ?_
  refine cw_region ?_
  refine wl_box rfl rfl (vs := [.bool sa, .slice Aa na ca]) rfl (by decide) fun g1 v2 nb => ?_
  have hb4 := nb.bk
  have ge5 : w.heap.size ≤ g1 := by rw [← nb.at_]; exact (Ext.refl w).size
  have e3 := nb.ext
  clear nb
  have hw1 : Ext w v2 := (Ext.refl w).trans e3
  refine wl_assign rfl rfl (by decide) ?_
  refine wl_nil ?_
  refine eo_then ?_
  refine cw_seq ?_
  refine cw_seq ?_
  refine cw_region ?_
  refine wl_call rfl rfl (vs := []) (by kernel_rfl) (by decide) (g_law5_awake (hS.ext hw1)) ?_
  rintro _ v6 ⟨xr8, rfl, r8, e7⟩
  refine ret_intro ?_
  have hw2 : Ext w v6 := hw1.trans e7
  obtain rfl := r8
  refine wl_pure rfl rfl (v := .bool false) (by decide) (by kernel_rfl) ?_
  refine wl_move rfl rfl (by decide) ?_
  refine wl_move rfl rfl (by decide) ?_
  refine wl_call rfl rfl (vs := [.string (strB bs)]) (by kernel_rfl) (by decide) (g_law5_reads hbs hlen) ?_
  rintro _ v9 ⟨xr11, rfl, r11, e10⟩
  refine ret_intro ?_
  have hw3 : Ext w v9 := hw2.trans e10
  obtain rfl := r11
  refine wl_pure rfl rfl (v := .bool false) (by decide) (by kernel_rfl) ?_
  refine wl_pure rfl rfl (v := .bool false) (by decide) (by kernel_rfl) ?_
  refine wl_nil ?_
  refine eo_then ?_
  refine cw_false rfl ?_
  refine cw_skip ?_
  refine eo_then ?_
  refine cw_seq ?_
  refine cw_region ?_
  refine wl_load rfl rfl (load_agg aggInt (hb4.ext (e7.trans e10)) [.bool sa, .slice Aa na ca] rfl (Nat.le_of_ble_eq_true rfl) rfl) (by decide) ?_
  refine wl_call rfl rfl (vs := [.agg #[.bool sa, .slice Aa na ca]]) (by kernel_rfl) (by decide) (by have h := rx_zTextF (x := x) (hx.ext hw3) (Nat.le_trans la (by decide)) (hS.ext hw3); rw [hZ1] at h; exact h) ?_
  rintro _ v12 ⟨xr14, rfl, r14, e13⟩
  refine ret_intro ?_
  have hw4 : Ext w v12 := hw3.trans e13
  obtain rfl := r14
  refine wl_assign rfl rfl (by decide) ?_
  refine wl_nil ?_
  refine eo_then ?_
  refine cw_seq ?_
  refine cw_region ?_
  refine wl_move rfl rfl (by decide) ?_
  refine wl_call rfl rfl (vs := [.string (strB ([45] ++ D))]) (by kernel_rfl) (by decide) (rd_minus (z := x) hw4.size hDg hD256 (by omega) hDv (by omega)) ?_
  rintro _ v15 ⟨xr17, rfl, r17, e16⟩
  refine ret_intro ?_
  have hw5 : Ext w v15 := hw4.trans e16
  obtain ⟨a18_0, a18_1, rfl, r18_0, r18_1⟩ := r17
  obtain ⟨s19, A19, n19, c19, rfl, z19⟩ := r18_0
  obtain rfl := r18_1
  refine wl_move rfl rfl (by decide) ?_
  refine wl_pure rfl rfl (v := .agg #[.bool s19, .slice A19 n19 c19]) (by decide) (by kernel_rfl) ?_
  refine wl_pure rfl rfl (v := .int .i64 0) (by decide) (by kernel_rfl) ?_
  refine wl_alloc rfl (z := .agg #[.bool false, .slice none 0 0]) (vs := [.bool false, .slice none 0 0]) (fun _ => by kernel_rfl) rfl (by decide) fun g20 v21 nb => ?_
  have hb23 := nb.bk
  have ge24 : w.heap.size ≤ g20 := by rw [← nb.at_]; exact hw5.size
  have q25 : g1 < g20 := by rw [← nb.at_]; exact (hb4.ext (e7.trans (e10.trans (e13.trans e16)))).lt
  have e22 := nb.ext
  clear nb
  have hw6 : Ext w v21 := hw5.trans e22
  have hb27 := hb23
  refine wl_stored rfl rfl rfl aggInt rfl hb27 (Nat.le_of_ble_eq_true rfl) rfl [.bool s19, .slice A19 n19 c19] rfl fun v26 hb28 u29 hs30 => ?_
  have hw7 : Ext w v26 := u29.ext hw6 ge24
  refine wl_assign rfl rfl (by decide) ?_
  refine wl_nil ?_
  refine eo_then ?_
  refine cw_seq ?_
  refine cw_seq ?_
  refine cw_draw mix 13 [] [Is (.int .i64 0), Is (.bool false), Is (.bool false), Is (.agg #[.bool s19, .slice A19 n19 c19]), Is (.agg #[.bool sa, .slice Aa na ca]), ZR w.heap.size (x), Is (.bool true), Is (.bool false), Is (.bool false), Is (.bool false), Is (.string (strB ([45] ++ D))), Is (.bool false), Is (.bool false)] [[], [0], [1], [2], [2], [2, 4], [2, 3, 5], [2, 6], [2, 7], [8], [9], [9, 10], [9, 11]] [[], [0], [0, 1], [0, 1, 2], [0, 1, 2], [0, 1, 2, 4], [0, 1, 2, 3, 4, 5], [0, 1, 2, 3, 4, 5, 6], [0, 1, 2, 3, 4, 5, 6, 7], [0, 1, 2, 3, 4, 5, 6, 7, 8], [0, 1, 2, 3, 4, 5, 6, 7, 8, 9], [0, 1, 2, 3, 4, 5, 6, 7, 8, 9, 10], [0, 1, 2, 3, 4, 5, 6, 7, 8, 9, 10, 11]] rfl
    (obs_cons rfl rfl (hob rfl rfl ?_) (obs_cons rfl rfl (hob rfl rfl ?_) (obs_cons rfl rfl (hob rfl rfl ?_) (obs_cons rfl rfl (hob rfl rfl ?_) (obs_cons rfl rfl (hob rfl rfl ?_) (obs_cons rfl rfl (hob rfl rfl ?_) (obs_cons rfl rfl (hob rfl rfl ?_) (obs_cons rfl rfl (hob rfl rfl ?_) (obs_cons rfl rfl (hob rfl rfl ?_) (obs_cons rfl rfl (hob rfl rfl ?_) (obs_cons rfl rfl (hob rfl rfl ?_) (obs_cons rfl rfl (hob rfl rfl ?_) (obs_cons rfl rfl (hob rfl rfl ?_) obs_nil))))))))))))) ?_
  · -- 0
    intro v32 e33
    have hw8 : Ext w v32 := hw7.trans e33
    refine deps_nil ?_
    refine wl_move rfl rfl (by decide) ?_
    exact pi_done rfl (Ext.refl _) rfl
  · -- 1
    intro v34 e35
    have hw8 : Ext w v34 := hw7.trans e35
    refine deps_cons rfl rfl fun x36 y37 h38 e39 f40 => ?_
    obtain rfl := h38
    refine deps_nil ?_
    refine wl_cmp rfl rfl rfl false (by decide) (by decide) ?_
    exact pi_done rfl (Ext.refl _) rfl
  · -- 2
    intro v41 e42
    have hw8 : Ext w v41 := hw7.trans e42
    refine deps_cons rfl rfl fun x43 y44 h45 e46 f47 => ?_
    obtain rfl := h45
    refine deps_nil ?_
    refine wl_move rfl rfl (by decide) ?_
    exact pi_done rfl (Ext.refl _) rfl
  · -- 3
    intro v48 e49
    have hw8 : Ext w v48 := hw7.trans e49
    refine deps_cons rfl rfl fun x50 y51 h52 e53 f54 => ?_
    obtain rfl := h52
    refine deps_nil ?_
    refine wl_load rfl rfl (load_agg aggInt (hb28.ext e49) [.bool s19, .slice A19 n19 c19] rfl (Nat.le_of_ble_eq_true rfl) rfl) (by decide) ?_
    exact pi_done rfl (Ext.refl _) rfl
  · -- 4
    intro v55 e56
    have hw8 : Ext w v55 := hw7.trans e56
    refine deps_cons rfl rfl fun x57 y58 h59 e60 f61 => ?_
    obtain rfl := h59
    refine deps_nil ?_
    refine wl_load rfl rfl (load_agg aggInt (((hb4.ext (e7.trans (e10.trans (e13.trans (e16.trans e22))))).updN u29 (by omega)).ext e56) [.bool sa, .slice Aa na ca] rfl (Nat.le_of_ble_eq_true rfl) rfl) (by decide) ?_
    exact pi_done rfl (Ext.refl _) rfl
  · -- 5
    intro v62 e63
    have hw8 : Ext w v62 := hw7.trans e63
    refine deps_cons rfl rfl fun x64 y65 h66 e67 f68 => ?_
    obtain rfl := h66
    refine deps_cons rfl rfl fun x69 y70 h71 e72 f73 => ?_
    obtain rfl := h71
    refine deps_nil ?_
    refine wl_call rfl rfl (vs := [.agg #[.bool sa, .slice Aa na ca]]) (by kernel_rfl) (by decide) (g_zint_Least hw8.size (hx.ext hw8) (Nat.le_trans la (by decide))) ?_
    rintro _ v74 ⟨xr76, rfl, r76, e75⟩
    refine ret_intro ?_
    have hw9 : Ext w v74 := hw8.trans e75
    obtain ⟨s77, A77, n77, c77, rfl, z77⟩ := r76
    exact pi_done rfl e75 ⟨_, _, _, _, rfl, z77⟩
  · -- 6
    intro v78 e79
    have hw8 : Ext w v78 := hw7.trans e79
    refine deps_cons rfl rfl fun x80 y81 h82 e83 f84 => ?_
    obtain rfl := h82
    refine deps_cons rfl rfl fun x85 y86 h87 e88 f89 => ?_
    obtain rfl := h87
    refine deps_cons rfl rfl fun x90 y91 h92 e93 f94 => ?_
    obtain ⟨s95, A95, n95, c95, rfl, z95⟩ := h92
    have z95 := z95.ext f94
    refine deps_nil ?_
    refine wl_call rfl rfl (vs := [.agg #[.bool s19, .slice A19 n19 c19], .agg #[.bool s95, .slice A95 n95 c95]]) (by kernel_rfl) (by decide) (g_law5_alike (((z19.ext e22).updT hb27 u29).ext e79) (z19.le (Nat.le_trans Lx (by decide))) z95 (z95.le (Nat.le_trans Lx (by decide)))) ?_
    rintro _ v96 ⟨xr98, rfl, r98, e97⟩
    refine ret_intro ?_
    have hw9 : Ext w v96 := hw8.trans e97
    obtain rfl := r98
    exact pi_done rfl e97 rfl
  · -- 7
    intro v99 e100
    have hw8 : Ext w v99 := hw7.trans e100
    refine deps_cons rfl rfl fun x101 y102 h103 e104 f105 => ?_
    obtain rfl := h103
    refine deps_cons rfl rfl fun x106 y107 h108 e109 f110 => ?_
    obtain rfl := h108
    refine deps_nil ?_
    refine wl_pure rfl rfl (v := .bool false) (by decide) (by kernel_rfl) ?_
    exact pi_done rfl (Ext.refl _) rfl
  · -- 8
    intro v111 e112
    have hw8 : Ext w v111 := hw7.trans e112
    refine deps_cons rfl rfl fun x113 y114 h115 e116 f117 => ?_
    obtain rfl := h115
    refine deps_cons rfl rfl fun x118 y119 h120 e121 f122 => ?_
    obtain rfl := h120
    refine deps_nil ?_
    refine wl_pure rfl rfl (v := .bool false) (by decide) (by kernel_rfl) ?_
    exact pi_done rfl (Ext.refl _) rfl
  · -- 9
    intro v123 e124
    have hw8 : Ext w v123 := hw7.trans e124
    refine deps_cons rfl rfl fun x125 y126 h127 e128 f129 => ?_
    obtain rfl := h127
    refine deps_nil ?_
    refine wl_move rfl rfl (by decide) ?_
    exact pi_done rfl (Ext.refl _) rfl
  · -- 10
    intro v130 e131
    have hw8 : Ext w v130 := hw7.trans e131
    refine deps_cons rfl rfl fun x132 y133 h134 e135 f136 => ?_
    obtain rfl := h134
    refine deps_nil ?_
    refine wl_move rfl rfl (by decide) ?_
    exact pi_done rfl (Ext.refl _) rfl
  · -- 11
    intro v137 e138
    have hw8 : Ext w v137 := hw7.trans e138
    refine deps_cons rfl rfl fun x139 y140 h141 e142 f143 => ?_
    obtain rfl := h141
    refine deps_cons rfl rfl fun x144 y145 h146 e147 f148 => ?_
    obtain rfl := h146
    refine deps_nil ?_
    refine wl_streq (a := [45] ++ D) (b := []) rfl rfl rfl (lt256_45 hD256) (by decide) false (strE_eql_f (by simp)) (by decide) ?_
    exact pi_done rfl (Ext.refl _) rfl
  · -- 12
    intro v149 e150
    have hw8 : Ext w v149 := hw7.trans e150
    refine deps_cons rfl rfl fun x151 y152 h153 e154 f155 => ?_
    obtain rfl := h153
    refine deps_cons rfl rfl fun x156 y157 h158 e159 f160 => ?_
    obtain rfl := h158
    refine deps_nil ?_
    refine wl_pure rfl rfl (v := .bool false) (by decide) (by kernel_rfl) ?_
    exact pi_done rfl (Ext.refl _) rfl
  · -- all
    intro v161 e162
    have hw8 : Ext w v161 := hw7.trans e162
    refine deps_cons rfl rfl fun x163 y164 h165 e166 f167 => ?_
    obtain rfl := h165
    refine deps_cons rfl rfl fun x168 y169 h170 e171 f172 => ?_
    obtain rfl := h170
    refine deps_cons rfl rfl fun x173 y174 h175 e176 f177 => ?_
    obtain rfl := h175
    refine deps_cons rfl rfl fun x178 y179 h180 e181 f182 => ?_
    obtain rfl := h180
    refine deps_cons rfl rfl fun x183 y184 h185 e186 f187 => ?_
    obtain rfl := h185
    refine deps_cons rfl rfl fun x188 y189 h190 e191 f192 => ?_
    obtain ⟨s193, A193, n193, c193, rfl, z193⟩ := h190
    have z193 := z193.ext f192
    refine deps_cons rfl rfl fun x194 y195 h196 e197 f198 => ?_
    obtain rfl := h196
    refine deps_cons rfl rfl fun x199 y200 h201 e202 f203 => ?_
    obtain rfl := h201
    refine deps_cons rfl rfl fun x204 y205 h206 e207 f208 => ?_
    obtain rfl := h206
    refine deps_cons rfl rfl fun x209 y210 h211 e212 f213 => ?_
    obtain rfl := h211
    refine deps_cons rfl rfl fun x214 y215 h216 e217 f218 => ?_
    obtain rfl := h216
    refine deps_cons rfl rfl fun x219 y220 h221 e222 f223 => ?_
    obtain rfl := h221
    refine deps_cons rfl rfl fun x224 y225 h226 e227 f228 => ?_
    obtain rfl := h226
    refine deps_nil ?_
    refine wl_nil ?_
    refine eo_np ?_
    refine eo_then ?_
    refine cw_false rfl ?_
    refine cw_skip ?_
    refine eo_then ?_
    refine cw_seq ?_
    refine cw_region ?_
    refine wl_load rfl rfl (load_agg aggInt (((hb4.ext (e7.trans (e10.trans (e13.trans (e16.trans e22))))).updN u29 (by omega)).ext e162) [.bool sa, .slice Aa na ca] rfl (Nat.le_of_ble_eq_true rfl) rfl) (by decide) ?_
    have L229 : ln (-x) ≤ 1048576 := (by rw [ln_neg]; exact Lx)
    refine wl_call rfl rfl (vs := [.agg #[.bool sa, .slice Aa na ca]]) (by kernel_rfl) (by decide) (g_zint_Neg hw8.size (hx.ext hw8) (Nat.le_trans la (by decide))) ?_
    rintro _ v230 ⟨xr232, rfl, r232, e231⟩
    refine ret_intro ?_
    have hw9 : Ext w v230 := hw8.trans e231
    obtain ⟨s233, A233, n233, c233, rfl, z233⟩ := r232
    refine wl_call rfl rfl (vs := [.agg #[.bool s233, .slice A233 n233 c233]]) (by kernel_rfl) (by decide) (by have h := rx_zTextF (x := -x) z233.zi (z233.le (Nat.le_trans L229 (by decide))) (hS.ext hw9); rw [hZ2] at h; exact h) ?_
    rintro _ v234 ⟨xr236, rfl, r236, e235⟩
    refine ret_intro ?_
    have hw10 : Ext w v234 := hw9.trans e235
    obtain rfl := r236
    refine wl_assign rfl rfl (by decide) ?_
    refine wl_nil ?_
    refine eo_then ?_
    refine cw_seq ?_
    refine cw_seq ?_
    refine cw_region ?_
    refine wl_load rfl rfl (load_agg aggInt (((hb4.ext (e7.trans (e10.trans (e13.trans (e16.trans e22))))).updN u29 (by omega)).ext (e162.trans (e231.trans e235))) [.bool sa, .slice Aa na ca] rfl (Nat.le_of_ble_eq_true rfl) rfl) (by decide) ?_
    refine wl_call rfl rfl (vs := [.agg #[.bool sa, .slice Aa na ca]]) (by kernel_rfl) (by decide) (g_zint_Sign (hx.ext hw10) (Nat.le_trans la (by decide))) ?_
    rintro _ v237 ⟨xr239, rfl, r239, e238⟩
    refine ret_intro ?_
    have hw11 : Ext w v237 := hw10.trans e238
    obtain rfl := r239
    refine wl_cmp rfl rfl rfl false (scmp_eq_f (by omega)) (by decide) ?_
    refine wl_nil ?_
    refine eo_then ?_
    refine cw_false rfl ?_
    refine cw_skip ?_
    refine eo_then ?_
    refine cw_seq ?_
    refine cw_seq ?_
    refine cw_region ?_
    refine wl_load rfl rfl (load_agg aggInt (((hb4.ext (e7.trans (e10.trans (e13.trans (e16.trans e22))))).updN u29 (by omega)).ext (e162.trans (e231.trans (e235.trans e238)))) [.bool sa, .slice Aa na ca] rfl (Nat.le_of_ble_eq_true rfl) rfl) (by decide) ?_
    refine wl_call rfl rfl (vs := [.agg #[.bool sa, .slice Aa na ca]]) (by kernel_rfl) (by decide) (g_zint_Sign (hx.ext hw11) (Nat.le_trans la (by decide))) ?_
    rintro _ v240 ⟨xr242, rfl, r242, e241⟩
    refine ret_intro ?_
    have hw12 : Ext w v240 := hw11.trans e241
    obtain rfl := r242
    refine wl_cmp rfl rfl rfl true (scmp_lt_t h0) (by decide) ?_
    refine wl_nil ?_
    refine eo_then ?_
    refine cw_true rfl ?_
    refine cw_region ?_
    refine wl_move rfl rfl (by decide) ?_
    refine wl_move rfl rfl (by decide) ?_
    refine wl_assign rfl rfl (by decide) ?_
    refine wl_assign rfl rfl (by decide) ?_
    refine wl_nil ?_
    refine eo_then ?_
    refine cw_seq ?_
    refine cw_seq ?_
    refine cw_region ?_
    refine wl_move rfl rfl (by decide) ?_
    refine wl_streq (a := D) (b := []) rfl rfl rfl hD256 (by decide) false (strE_eql_f (hDg.1)) (by decide) ?_
    refine wl_move rfl rfl (by decide) ?_
    refine wl_move rfl rfl (by decide) ?_
    refine wl_strix (bs := D) (i := 0) rfl rfl rfl Tryd.underlying9 hD256 (by omega) (by decide) ?_
    refine wl_cmp rfl rfl rfl false (cb_lt_f (a := D.getD 0 0) (b := 49) rfl rfl (by omega)) (by decide) ?_
    refine wl_pure rfl rfl (v := .bool false) (by decide) (by kernel_rfl) ?_
    refine wl_move rfl rfl (by decide) ?_
    refine wl_move rfl rfl (by decide) ?_
    refine wl_strix (bs := D) (i := 0) rfl rfl rfl Tryd.underlying9 hD256 (by omega) (by decide) ?_
    refine wl_cmp rfl rfl rfl false (cb_gt_f (a := D.getD 0 0) (b := 57) rfl rfl (by omega)) (by decide) ?_
    refine wl_pure rfl rfl (v := .bool false) (by decide) (by kernel_rfl) ?_
    refine wl_move rfl rfl (by decide) ?_
    refine wl_move rfl rfl (by decide) ?_
    refine wl_move rfl rfl (by decide) ?_
    refine wl_op rfl rfl rfl (r := .string (strB (([45]) ++ D))) rfl (fun w => str_add (a := [45]) (b := D) (by simp only [List.length_append, List.length_cons, List.length_nil]; omega)) (by decide) ?_
    refine wl_streq (a := [45] ++ D) (b := ([45]) ++ D) rfl rfl rfl (lt256_45 hD256) (lt256_45 hD256) false (strE_neq_t (rfl)) (by decide) ?_
    refine wl_pure rfl rfl (v := .bool false) (by decide) (by kernel_rfl) ?_
    refine wl_nil ?_
    refine eo_then ?_
    refine cw_false rfl ?_
    refine cw_skip ?_
    refine eo_then ?_
    refine cw_seq ?_
    refine cw_region ?_
    refine wl_load rfl rfl (load_agg aggInt (((hb4.ext (e7.trans (e10.trans (e13.trans (e16.trans e22))))).updN u29 (by omega)).ext (e162.trans (e231.trans (e235.trans (e238.trans e241))))) [.bool sa, .slice Aa na ca] rfl (Nat.le_of_ble_eq_true rfl) rfl) (by decide) ?_
    have L243 : ln ((Int.natAbs x : Int)) ≤ 1048576 := (by rw [ln_abs]; exact Lx)
    refine wl_call rfl rfl (vs := [.agg #[.bool sa, .slice Aa na ca]]) (by kernel_rfl) (by decide) (g_zint_Abs hw12.size (hx.ext hw12) (Nat.le_trans la (by decide))) ?_
    rintro _ v244 ⟨xr246, rfl, r246, e245⟩
    refine ret_intro ?_
    have hw13 : Ext w v244 := hw12.trans e245
    obtain ⟨s247, A247, n247, c247, rfl, z247⟩ := r246
    refine wl_alloc rfl (z := .agg #[.bool false, .slice none 0 0]) (vs := [.bool false, .slice none 0 0]) (fun _ => by kernel_rfl) rfl (by decide) fun g248 v249 nb => ?_
    have hb251 := nb.bk
    have ge252 : w.heap.size ≤ g248 := by rw [← nb.at_]; exact hw13.size
    have q253 : g20 < g248 := by rw [← nb.at_]; exact (hb28.ext (e162.trans (e231.trans (e235.trans (e238.trans (e241.trans e245)))))).lt
    have e250 := nb.ext
    clear nb
    have hw14 : Ext w v249 := hw13.trans e250
    have hb255 := hb251
    refine wl_stored rfl rfl rfl aggInt rfl hb255 (Nat.le_of_ble_eq_true rfl) rfl [.bool s247, .slice A247 n247 c247] rfl fun v254 hb256 u257 hs258 => ?_
    have hw15 : Ext w v254 := u257.ext hw14 ge252
    refine wl_nil ?_
    refine eo_then ?_
    refine cw_seq ?_
    refine cw_region ?_
    refine wl_move rfl rfl (by decide) ?_
    refine wl_op rfl rfl rfl (r := .string (strB (([43, 48, 48]) ++ D))) rfl (fun w => str_add (a := [43, 48, 48]) (b := D) (by simp only [List.length_append, List.length_cons, List.length_nil]; omega)) (by decide) ?_
    refine wl_call rfl rfl (vs := [.string (strB (([43, 48, 48]) ++ D))]) (by kernel_rfl) (by decide) (rd_plus (z := (Int.natAbs x : Int)) hw15.size hDg hD256 (by omega) hDv rfl) ?_
    rintro _ v259 ⟨xr261, rfl, r261, e260⟩
    refine ret_intro ?_
    have hw16 : Ext w v259 := hw15.trans e260
    obtain ⟨a262_0, a262_1, rfl, r262_0, r262_1⟩ := r261
    obtain ⟨s263, A263, n263, c263, rfl, z263⟩ := r262_0
    obtain rfl := r262_1
    refine wl_move rfl rfl (by decide) ?_
    refine wl_pure rfl rfl (v := .agg #[.bool s263, .slice A263 n263 c263]) (by decide) (by kernel_rfl) ?_
    refine wl_pure rfl rfl (v := .int .i64 0) (by decide) (by kernel_rfl) ?_
    refine wl_alloc rfl (z := .agg #[.bool false, .slice none 0 0]) (vs := [.bool false, .slice none 0 0]) (fun _ => by kernel_rfl) rfl (by decide) fun g264 v265 nb => ?_
    have hb267 := nb.bk
    have ge268 : w.heap.size ≤ g264 := by rw [← nb.at_]; exact hw16.size
    have q269 : g248 < g264 := by rw [← nb.at_]; exact (hb256.ext e260).lt
    have e266 := nb.ext
    clear nb
    have hw17 : Ext w v265 := hw16.trans e266
    have hb271 := hb267
    refine wl_stored rfl rfl rfl aggInt rfl hb271 (Nat.le_of_ble_eq_true rfl) rfl [.bool s263, .slice A263 n263 c263] rfl fun v270 hb272 u273 hs274 => ?_
    have hw18 : Ext w v270 := u273.ext hw17 ge268
    refine wl_assign rfl rfl (by decide) ?_
    refine wl_nil ?_
    refine eo_then ?_
    refine cw_seq ?_
    refine cw_region ?_
    refine wl_move rfl rfl (by decide) ?_
    refine wl_op rfl rfl rfl (r := .string (strB (([226, 136, 146, 48]) ++ D))) rfl (fun w => str_add (a := [226, 136, 146, 48]) (b := D) (by simp only [List.length_append, List.length_cons, List.length_nil]; omega)) (by decide) ?_
    refine wl_call rfl rfl (vs := [.string (strB (([226, 136, 146, 48]) ++ D))]) (by kernel_rfl) (by decide) (rd_long (z := -(Int.natAbs x : Int)) hw18.size hDg hD256 (by omega) hDv rfl) ?_
    rintro _ v275 ⟨xr277, rfl, r277, e276⟩
    refine ret_intro ?_
    have hw19 : Ext w v275 := hw18.trans e276
    obtain ⟨a278_0, a278_1, rfl, r278_0, r278_1⟩ := r277
    obtain ⟨s279, A279, n279, c279, rfl, z279⟩ := r278_0
    obtain rfl := r278_1
    refine wl_move rfl rfl (by decide) ?_
    refine wl_pure rfl rfl (v := .agg #[.bool s279, .slice A279 n279 c279]) (by decide) (by kernel_rfl) ?_
    refine wl_pure rfl rfl (v := .int .i64 0) (by decide) (by kernel_rfl) ?_
    refine wl_alloc rfl (z := .agg #[.bool false, .slice none 0 0]) (vs := [.bool false, .slice none 0 0]) (fun _ => by kernel_rfl) rfl (by decide) fun g280 v281 nb => ?_
    have hb283 := nb.bk
    have ge284 : w.heap.size ≤ g280 := by rw [← nb.at_]; exact hw19.size
    have q285 : g264 < g280 := by rw [← nb.at_]; exact (hb272.ext e276).lt
    have e282 := nb.ext
    clear nb
    have hw20 : Ext w v281 := hw19.trans e282
    have hb287 := hb283
    refine wl_stored rfl rfl rfl aggInt rfl hb287 (Nat.le_of_ble_eq_true rfl) rfl [.bool s279, .slice A279 n279 c279] rfl fun v286 hb288 u289 hs290 => ?_
    have hw21 : Ext w v286 := u289.ext hw20 ge284
    refine wl_assign rfl rfl (by decide) ?_
    refine wl_nil ?_
    refine eo_then ?_
    refine cw_seq ?_
    have L291 : ln (-(Int.natAbs x : Int)) ≤ 1048576 := (by rw [ln_neg]; exact L243)
    refine cw_draw mix 17 [] [Is (.int .i64 0), Is (.bool true), Is (.bool true), Is (.int .i64 0), Is (.bool true), Is (.bool true), Is (.bool true), Is (.agg #[.bool s263, .slice A263 n263 c263]), Is (.agg #[.bool s247, .slice A247 n247 c247]), Is (.bool true), Is (.bool true), Is (.bool true), Is (.agg #[.bool s279, .slice A279 n279 c279]), Is (.agg #[.bool s247, .slice A247 n247 c247]), ZR w.heap.size (-(Int.natAbs x : Int)), Is (.bool true), Is (.bool true)] [[], [0], [1], [2], [2, 3], [2, 4], [5], [6], [6], [6, 7, 8], [6, 9], [10], [11], [11], [11, 13], [11, 12, 14], [11, 15]] [[], [0], [0, 1], [0, 1, 2], [0, 1, 2, 3], [0, 1, 2, 3, 4], [0, 1, 2, 3, 4, 5], [0, 1, 2, 3, 4, 5, 6], [0, 1, 2, 3, 4, 5, 6], [0, 1, 2, 3, 4, 5, 6, 7, 8], [0, 1, 2, 3, 4, 5, 6, 7, 8, 9], [0, 1, 2, 3, 4, 5, 6, 7, 8, 9, 10], [0, 1, 2, 3, 4, 5, 6, 7, 8, 9, 10, 11], [0, 1, 2, 3, 4, 5, 6, 7, 8, 9, 10, 11], [0, 1, 2, 3, 4, 5, 6, 7, 8, 9, 10, 11, 13], [0, 1, 2, 3, 4, 5, 6, 7, 8, 9, 10, 11, 12, 13, 14], [0, 1, 2, 3, 4, 5, 6, 7, 8, 9, 10, 11, 12, 13, 14, 15], [0, 1, 2, 3, 4, 5, 6, 7, 8, 9, 10, 11, 12, 13, 14, 15, 16]] rfl
      (obs_cons rfl rfl (hob rfl rfl ?_) (obs_cons rfl rfl (hob rfl rfl ?_) (obs_cons rfl rfl (hob rfl rfl ?_) (obs_cons rfl rfl (hob rfl rfl ?_) (obs_cons rfl rfl (hob rfl rfl ?_) (obs_cons rfl rfl (hob rfl rfl ?_) (obs_cons rfl rfl (hob rfl rfl ?_) (obs_cons rfl rfl (hob rfl rfl ?_) (obs_cons rfl rfl (hob rfl rfl ?_) (obs_cons rfl rfl (hob rfl rfl ?_) (obs_cons rfl rfl (hob rfl rfl ?_) (obs_cons rfl rfl (hob rfl rfl ?_) (obs_cons rfl rfl (hob rfl rfl ?_) (obs_cons rfl rfl (hob rfl rfl ?_) (obs_cons rfl rfl (hob rfl rfl ?_) (obs_cons rfl rfl (hob rfl rfl ?_) (obs_cons rfl rfl (hob rfl rfl ?_) obs_nil))))))))))))))))) ?_
    · -- 0
      intro v293 e294
      have hw22 : Ext w v293 := hw21.trans e294
      refine deps_nil ?_
      refine wl_move rfl rfl (by decide) ?_
      exact pi_done rfl (Ext.refl _) rfl
    · -- 1
      intro v295 e296
      have hw22 : Ext w v295 := hw21.trans e296
      refine deps_cons rfl rfl fun x297 y298 h299 e300 f301 => ?_
      obtain rfl := h299
      refine deps_nil ?_
      refine wl_cmp rfl rfl rfl true (by decide) (by decide) ?_
      exact pi_done rfl (Ext.refl _) rfl
    · -- 2
      intro v302 e303
      have hw22 : Ext w v302 := hw21.trans e303
      refine deps_cons rfl rfl fun x304 y305 h306 e307 f308 => ?_
      obtain rfl := h306
      refine deps_nil ?_
      refine wl_move rfl rfl (by decide) ?_
      exact pi_done rfl (Ext.refl _) rfl
    · -- 3
      intro v309 e310
      have hw22 : Ext w v309 := hw21.trans e310
      refine deps_cons rfl rfl fun x311 y312 h313 e314 f315 => ?_
      obtain rfl := h313
      refine deps_nil ?_
      refine wl_move rfl rfl (by decide) ?_
      exact pi_done rfl (Ext.refl _) rfl
    · -- 4
      intro v316 e317
      have hw22 : Ext w v316 := hw21.trans e317
      refine deps_cons rfl rfl fun x318 y319 h320 e321 f322 => ?_
      obtain rfl := h320
      refine deps_cons rfl rfl fun x323 y324 h325 e326 f327 => ?_
      obtain rfl := h325
      refine deps_nil ?_
      refine wl_cmp rfl rfl rfl true (by decide) (by decide) ?_
      exact pi_done rfl (Ext.refl _) rfl
    · -- 5
      intro v328 e329
      have hw22 : Ext w v328 := hw21.trans e329
      refine deps_cons rfl rfl fun x330 y331 h332 e333 f334 => ?_
      obtain rfl := h332
      refine deps_cons rfl rfl fun x335 y336 h337 e338 f339 => ?_
      obtain rfl := h337
      refine deps_nil ?_
      refine wl_pure rfl rfl (v := .bool true) (by decide) (by kernel_rfl) ?_
      exact pi_done rfl (Ext.refl _) rfl
    · -- 6
      intro v340 e341
      have hw22 : Ext w v340 := hw21.trans e341
      refine deps_cons rfl rfl fun x342 y343 h344 e345 f346 => ?_
      obtain rfl := h344
      refine deps_nil ?_
      refine wl_move rfl rfl (by decide) ?_
      exact pi_done rfl (Ext.refl _) rfl
    · -- 7
      intro v347 e348
      have hw22 : Ext w v347 := hw21.trans e348
      refine deps_cons rfl rfl fun x349 y350 h351 e352 f353 => ?_
      obtain rfl := h351
      refine deps_nil ?_
      refine wl_load rfl rfl (load_agg aggInt (((hb272.ext (e276.trans e282)).updN u289 (by omega)).ext e348) [.bool s263, .slice A263 n263 c263] rfl (Nat.le_of_ble_eq_true rfl) rfl) (by decide) ?_
      exact pi_done rfl (Ext.refl _) rfl
    · -- 8
      intro v354 e355
      have hw22 : Ext w v354 := hw21.trans e355
      refine deps_cons rfl rfl fun x356 y357 h358 e359 f360 => ?_
      obtain rfl := h358
      refine deps_nil ?_
      refine wl_load rfl rfl (load_agg aggInt (((((hb256.ext (e260.trans e266)).updN u273 (by omega)).ext (e276.trans e282)).updN u289 (by omega)).ext e355) [.bool s247, .slice A247 n247 c247] rfl (Nat.le_of_ble_eq_true rfl) rfl) (by decide) ?_
      exact pi_done rfl (Ext.refl _) rfl
    · -- 9
      intro v361 e362
      have hw22 : Ext w v361 := hw21.trans e362
      refine deps_cons rfl rfl fun x363 y364 h365 e366 f367 => ?_
      obtain rfl := h365
      refine deps_cons rfl rfl fun x368 y369 h370 e371 f372 => ?_
      obtain rfl := h370
      refine deps_cons rfl rfl fun x373 y374 h375 e376 f377 => ?_
      obtain rfl := h375
      refine deps_nil ?_
      refine wl_call rfl rfl (vs := [.agg #[.bool s263, .slice A263 n263 c263], .agg #[.bool s247, .slice A247 n247 c247]]) (by kernel_rfl) (by decide) (g_law5_alike (((((z263.ext e266).updT hb271 u273).ext (e276.trans e282)).updT hb287 u289).ext e362) (z263.le (Nat.le_trans (by rw [ln_abs]; exact Lx) (by decide))) (((((((z247.ext e250).updT hb255 u257).ext (e260.trans e266)).updT hb271 u273).ext (e276.trans e282)).updT hb287 u289).ext e362) (z247.le (Nat.le_trans L243 (by decide)))) ?_
      rintro _ v378 ⟨xr380, rfl, r380, e379⟩
      refine ret_intro ?_
      have hw23 : Ext w v378 := hw22.trans e379
      obtain rfl := r380
      exact pi_done rfl e379 rfl
    · -- 10
      intro v381 e382
      have hw22 : Ext w v381 := hw21.trans e382
      refine deps_cons rfl rfl fun x383 y384 h385 e386 f387 => ?_
      obtain rfl := h385
      refine deps_cons rfl rfl fun x388 y389 h390 e391 f392 => ?_
      obtain rfl := h390
      refine deps_nil ?_
      refine wl_pure rfl rfl (v := .bool true) (by decide) (by kernel_rfl) ?_
      exact pi_done rfl (Ext.refl _) rfl
    · -- 11
      intro v393 e394
      have hw22 : Ext w v393 := hw21.trans e394
      refine deps_cons rfl rfl fun x395 y396 h397 e398 f399 => ?_
      obtain rfl := h397
      refine deps_nil ?_
      refine wl_move rfl rfl (by decide) ?_
      exact pi_done rfl (Ext.refl _) rfl
    · -- 12
      intro v400 e401
      have hw22 : Ext w v400 := hw21.trans e401
      refine deps_cons rfl rfl fun x402 y403 h404 e405 f406 => ?_
      obtain rfl := h404
      refine deps_nil ?_
      refine wl_load rfl rfl (load_agg aggInt (hb288.ext e401) [.bool s279, .slice A279 n279 c279] rfl (Nat.le_of_ble_eq_true rfl) rfl) (by decide) ?_
      exact pi_done rfl (Ext.refl _) rfl
    · -- 13
      intro v407 e408
      have hw22 : Ext w v407 := hw21.trans e408
      refine deps_cons rfl rfl fun x409 y410 h411 e412 f413 => ?_
      obtain rfl := h411
      refine deps_nil ?_
      refine wl_load rfl rfl (load_agg aggInt (((((hb256.ext (e260.trans e266)).updN u273 (by omega)).ext (e276.trans e282)).updN u289 (by omega)).ext e408) [.bool s247, .slice A247 n247 c247] rfl (Nat.le_of_ble_eq_true rfl) rfl) (by decide) ?_
      exact pi_done rfl (Ext.refl _) rfl
    · -- 14
      intro v414 e415
      have hw22 : Ext w v414 := hw21.trans e415
      refine deps_cons rfl rfl fun x416 y417 h418 e419 f420 => ?_
      obtain rfl := h418
      refine deps_cons rfl rfl fun x421 y422 h423 e424 f425 => ?_
      obtain rfl := h423
      refine deps_nil ?_
      have L426 : ln (-(Int.natAbs x : Int)) ≤ 1048576 := (by rw [ln_neg]; exact L243)
      refine wl_call rfl rfl (vs := [.agg #[.bool s247, .slice A247 n247 c247]]) (by kernel_rfl) (by decide) (g_zint_Neg hw22.size (((((((z247.ext e250).updT hb255 u257).ext (e260.trans e266)).updT hb271 u273).ext (e276.trans e282)).updT hb287 u289).ext e415).zi (z247.le (Nat.le_trans L243 (by decide)))) ?_
      rintro _ v427 ⟨xr429, rfl, r429, e428⟩
      refine ret_intro ?_
      have hw23 : Ext w v427 := hw22.trans e428
      obtain ⟨s430, A430, n430, c430, rfl, z430⟩ := r429
      exact pi_done rfl e428 ⟨_, _, _, _, rfl, z430⟩
    · -- 15
      intro v431 e432
      have hw22 : Ext w v431 := hw21.trans e432
      refine deps_cons rfl rfl fun x433 y434 h435 e436 f437 => ?_
      obtain rfl := h435
      refine deps_cons rfl rfl fun x438 y439 h440 e441 f442 => ?_
      obtain rfl := h440
      refine deps_cons rfl rfl fun x443 y444 h445 e446 f447 => ?_
      obtain ⟨s448, A448, n448, c448, rfl, z448⟩ := h445
      have z448 := z448.ext f447
      refine deps_nil ?_
      refine wl_call rfl rfl (vs := [.agg #[.bool s279, .slice A279 n279 c279], .agg #[.bool s448, .slice A448 n448 c448]]) (by kernel_rfl) (by decide) (g_law5_alike (((z279.ext e282).updT hb287 u289).ext e432) (z279.le (Nat.le_trans (by rw [ln_neg, ln_abs]; exact Lx) (by decide))) z448 (z448.le (Nat.le_trans L291 (by decide)))) ?_
      rintro _ v449 ⟨xr451, rfl, r451, e450⟩
      refine ret_intro ?_
      have hw23 : Ext w v449 := hw22.trans e450
      obtain rfl := r451
      exact pi_done rfl e450 rfl
    · -- 16
      intro v452 e453
      have hw22 : Ext w v452 := hw21.trans e453
      refine deps_cons rfl rfl fun x454 y455 h456 e457 f458 => ?_
      obtain rfl := h456
      refine deps_cons rfl rfl fun x459 y460 h461 e462 f463 => ?_
      obtain rfl := h461
      refine deps_nil ?_
      refine wl_pure rfl rfl (v := .bool true) (by decide) (by kernel_rfl) ?_
      exact pi_done rfl (Ext.refl _) rfl
    · -- all
      intro v464 e465
      have hw22 : Ext w v464 := hw21.trans e465
      refine deps_cons rfl rfl fun x466 y467 h468 e469 f470 => ?_
      obtain rfl := h468
      refine deps_cons rfl rfl fun x471 y472 h473 e474 f475 => ?_
      obtain rfl := h473
      refine deps_cons rfl rfl fun x476 y477 h478 e479 f480 => ?_
      obtain rfl := h478
      refine deps_cons rfl rfl fun x481 y482 h483 e484 f485 => ?_
      obtain rfl := h483
      refine deps_cons rfl rfl fun x486 y487 h488 e489 f490 => ?_
      obtain rfl := h488
      refine deps_cons rfl rfl fun x491 y492 h493 e494 f495 => ?_
      obtain rfl := h493
      refine deps_cons rfl rfl fun x496 y497 h498 e499 f500 => ?_
      obtain rfl := h498
      refine deps_cons rfl rfl fun x501 y502 h503 e504 f505 => ?_
      obtain rfl := h503
      refine deps_cons rfl rfl fun x506 y507 h508 e509 f510 => ?_
      obtain rfl := h508
      refine deps_cons rfl rfl fun x511 y512 h513 e514 f515 => ?_
      obtain rfl := h513
      refine deps_cons rfl rfl fun x516 y517 h518 e519 f520 => ?_
      obtain rfl := h518
      refine deps_cons rfl rfl fun x521 y522 h523 e524 f525 => ?_
      obtain rfl := h523
      refine deps_cons rfl rfl fun x526 y527 h528 e529 f530 => ?_
      obtain rfl := h528
      refine deps_cons rfl rfl fun x531 y532 h533 e534 f535 => ?_
      obtain rfl := h533
      refine deps_cons rfl rfl fun x536 y537 h538 e539 f540 => ?_
      obtain ⟨s541, A541, n541, c541, rfl, z541⟩ := h538
      have z541 := z541.ext f540
      refine deps_cons rfl rfl fun x542 y543 h544 e545 f546 => ?_
      obtain rfl := h544
      refine deps_cons rfl rfl fun x547 y548 h549 e550 f551 => ?_
      obtain rfl := h549
      refine deps_nil ?_
      refine wl_assign rfl rfl (by decide) ?_
      refine wl_nil ?_
      refine eo_np ?_
      refine eo_then ?_
      refine cw_ret ?_
      refine eo_ret [.bool true] rfl ⟨rfl, trivial⟩ ?_
      exact ⟨_, rfl, rfl, hw22⟩
set_option maxHeartbeats 8000000 in
set_option maxRecDepth 20000 in
theorem law_ZintTexts_zero {w : World} {sa : Bool} {Aa : Option Addr} {na ca : Nat} {x : Int} (hx : Zi w sa Aa na ca x) (la : na ≤ 1048576) {bs : List Nat} (hbs : ∀ b, b ∈ bs → b < 256) (hlen : bs.length ≤ 1048576) (hS : Signs w) (h0 : x = 0) :
    Calls Tryd.prog 13 #[.agg #[.bool sa, .slice Aa na ca], .string (strB bs)] w (Gv w (Is (.bool true))) := by
  have Lx : ln x ≤ 1048576 := Nat.le_trans hx.ln la
  have hm0 : x.natAbs = 0 := by omega
  have hZ1 : txtZ x = [48] := by subst h0; rfl
  have hZ2 : txtZ (-x) = [48] := by subst h0; rfl
  refine sx_enter Tryd.func13 rfl (n := 107) rfl (Nat.le_of_ble_eq_true rfl) (args := [.agg #[.bool sa, .slice Aa na ca], .string (strB bs)]) ?_
  refine cw_keep [(0, .agg #[.bool sa, .slice Aa na ca]), (1, .string (strB bs))] ⟨rfl, rfl, trivial⟩ ?_
  refine cw_seq ?_
  refine cw_region ?_
  refine wl_box rfl rfl (vs := [.bool sa, .slice Aa na ca]) rfl (by decide) fun g1 v2 nb => ?_
  have hb4 := nb.bk
  have ge5 : w.heap.size ≤ g1 := by rw [← nb.at_]; exact (Ext.refl w).size
  have e3 := nb.ext
  clear nb
  have hw1 : Ext w v2 := (Ext.refl w).trans e3
  refine wl_assign rfl rfl (by decide) ?_
  refine wl_nil ?_
  refine eo_then ?_
  refine cw_seq ?_
  refine cw_seq ?_
  refine cw_region ?_
  refine wl_call rfl rfl (vs := []) (by kernel_rfl) (by decide) (g_law5_awake (hS.ext hw1)) ?_
  rintro _ v6 ⟨xr8, rfl, r8, e7⟩
  refine ret_intro ?_
  have hw2 : Ext w v6 := hw1.trans e7
  obtain rfl := r8
  refine wl_pure rfl rfl (v := .bool false) (by decide) (by kernel_rfl) ?_
  refine wl_move rfl rfl (by decide) ?_
  refine wl_move rfl rfl (by decide) ?_
  refine wl_call rfl rfl (vs := [.string (strB bs)]) (by kernel_rfl) (by decide) (g_law5_reads hbs hlen) ?_
  rintro _ v9 ⟨xr11, rfl, r11, e10⟩
  refine ret_intro ?_
  have hw3 : Ext w v9 := hw2.trans e10
  obtain rfl := r11
  refine wl_pure rfl rfl (v := .bool false) (by decide) (by kernel_rfl) ?_
  refine wl_pure rfl rfl (v := .bool false) (by decide) (by kernel_rfl) ?_
  refine wl_nil ?_
  refine eo_then ?_
  refine cw_false rfl ?_
  refine cw_skip ?_
  refine eo_then ?_
  refine cw_seq ?_
  refine cw_region ?_
  refine wl_load rfl rfl (load_agg aggInt (hb4.ext (e7.trans e10)) [.bool sa, .slice Aa na ca] rfl (Nat.le_of_ble_eq_true rfl) rfl) (by decide) ?_
  refine wl_call rfl rfl (vs := [.agg #[.bool sa, .slice Aa na ca]]) (by kernel_rfl) (by decide) (by have h := rx_zTextF (x := x) (hx.ext hw3) (Nat.le_trans la (by decide)) (hS.ext hw3); rw [hZ1] at h; exact h) ?_
  rintro _ v12 ⟨xr14, rfl, r14, e13⟩
  refine ret_intro ?_
  have hw4 : Ext w v12 := hw3.trans e13
  obtain rfl := r14
  refine wl_assign rfl rfl (by decide) ?_
  refine wl_nil ?_
  refine eo_then ?_
  refine cw_seq ?_
  refine cw_region ?_
  refine wl_move rfl rfl (by decide) ?_
  refine wl_call rfl rfl (vs := [.string (strB ([48]))]) (by kernel_rfl) (by decide) (rx_zRead hw4.size (bs := [48]) (tl := [48]) (z := x) (by decide) (by decide) rfl ⟨by decide, by decide⟩ (by subst h0; decide)) ?_
  rintro _ v15 ⟨xr17, rfl, r17, e16⟩
  refine ret_intro ?_
  have hw5 : Ext w v15 := hw4.trans e16
  obtain ⟨a18_0, a18_1, rfl, r18_0, r18_1⟩ := r17
  obtain ⟨s19, A19, n19, c19, rfl, z19⟩ := r18_0
  obtain rfl := r18_1
  refine wl_move rfl rfl (by decide) ?_
  refine wl_pure rfl rfl (v := .agg #[.bool s19, .slice A19 n19 c19]) (by decide) (by kernel_rfl) ?_
  refine wl_pure rfl rfl (v := .int .i64 0) (by decide) (by kernel_rfl) ?_
  refine wl_alloc rfl (z := .agg #[.bool false, .slice none 0 0]) (vs := [.bool false, .slice none 0 0]) (fun _ => by kernel_rfl) rfl (by decide) fun g20 v21 nb => ?_
  have hb23 := nb.bk
  have ge24 : w.heap.size ≤ g20 := by rw [← nb.at_]; exact hw5.size
  have q25 : g1 < g20 := by rw [← nb.at_]; exact (hb4.ext (e7.trans (e10.trans (e13.trans e16)))).lt
  have e22 := nb.ext
  clear nb
  have hw6 : Ext w v21 := hw5.trans e22
  have hb27 := hb23
  refine wl_stored rfl rfl rfl aggInt rfl hb27 (Nat.le_of_ble_eq_true rfl) rfl [.bool s19, .slice A19 n19 c19] rfl fun v26 hb28 u29 hs30 => ?_
  have hw7 : Ext w v26 := u29.ext hw6 ge24
  refine wl_assign rfl rfl (by decide) ?_
  refine wl_nil ?_
  refine eo_then ?_
  refine cw_seq ?_
  refine cw_seq ?_
  refine cw_draw mix 13 [] [Is (.int .i64 0), Is (.bool false), Is (.bool false), Is (.agg #[.bool s19, .slice A19 n19 c19]), Is (.agg #[.bool sa, .slice Aa na ca]), ZR w.heap.size (x), Is (.bool true), Is (.bool false), Is (.bool false), Is (.bool false), Is (.string (strB ([48]))), Is (.bool false), Is (.bool false)] [[], [0], [1], [2], [2], [2, 4], [2, 3, 5], [2, 6], [2, 7], [8], [9], [9, 10], [9, 11]] [[], [0], [0, 1], [0, 1, 2], [0, 1, 2], [0, 1, 2, 4], [0, 1, 2, 3, 4, 5], [0, 1, 2, 3, 4, 5, 6], [0, 1, 2, 3, 4, 5, 6, 7], [0, 1, 2, 3, 4, 5, 6, 7, 8], [0, 1, 2, 3, 4, 5, 6, 7, 8, 9], [0, 1, 2, 3, 4, 5, 6, 7, 8, 9, 10], [0, 1, 2, 3, 4, 5, 6, 7, 8, 9, 10, 11]] rfl
    (obs_cons rfl rfl (hob rfl rfl ?_) (obs_cons rfl rfl (hob rfl rfl ?_) (obs_cons rfl rfl (hob rfl rfl ?_) (obs_cons rfl rfl (hob rfl rfl ?_) (obs_cons rfl rfl (hob rfl rfl ?_) (obs_cons rfl rfl (hob rfl rfl ?_) (obs_cons rfl rfl (hob rfl rfl ?_) (obs_cons rfl rfl (hob rfl rfl ?_) (obs_cons rfl rfl (hob rfl rfl ?_) (obs_cons rfl rfl (hob rfl rfl ?_) (obs_cons rfl rfl (hob rfl rfl ?_) (obs_cons rfl rfl (hob rfl rfl ?_) (obs_cons rfl rfl (hob rfl rfl ?_) obs_nil))))))))))))) ?_
  · -- 0
    intro v32 e33
    have hw8 : Ext w v32 := hw7.trans e33
    refine deps_nil ?_
    refine wl_move rfl rfl (by decide) ?_
    exact pi_done rfl (Ext.refl _) rfl
  · -- 1
    intro v34 e35
    have hw8 : Ext w v34 := hw7.trans e35
    refine deps_cons rfl rfl fun x36 y37 h38 e39 f40 => ?_
    obtain rfl := h38
    refine deps_nil ?_
    refine wl_cmp rfl rfl rfl false (by decide) (by decide) ?_
    exact pi_done rfl (Ext.refl _) rfl
  · -- 2
    intro v41 e42
    have hw8 : Ext w v41 := hw7.trans e42
    refine deps_cons rfl rfl fun x43 y44 h45 e46 f47 => ?_
    obtain rfl := h45
    refine deps_nil ?_
    refine wl_move rfl rfl (by decide) ?_
    exact pi_done rfl (Ext.refl _) rfl
  · -- 3
    intro v48 e49
    have hw8 : Ext w v48 := hw7.trans e49
    refine deps_cons rfl rfl fun x50 y51 h52 e53 f54 => ?_
    obtain rfl := h52
    refine deps_nil ?_
    refine wl_load rfl rfl (load_agg aggInt (hb28.ext e49) [.bool s19, .slice A19 n19 c19] rfl (Nat.le_of_ble_eq_true rfl) rfl) (by decide) ?_
    exact pi_done rfl (Ext.refl _) rfl
  · -- 4
    intro v55 e56
    have hw8 : Ext w v55 := hw7.trans e56
    refine deps_cons rfl rfl fun x57 y58 h59 e60 f61 => ?_
    obtain rfl := h59
    refine deps_nil ?_
    refine wl_load rfl rfl (load_agg aggInt (((hb4.ext (e7.trans (e10.trans (e13.trans (e16.trans e22))))).updN u29 (by omega)).ext e56) [.bool sa, .slice Aa na ca] rfl (Nat.le_of_ble_eq_true rfl) rfl) (by decide) ?_
    exact pi_done rfl (Ext.refl _) rfl
  · -- 5
    intro v62 e63
    have hw8 : Ext w v62 := hw7.trans e63
    refine deps_cons rfl rfl fun x64 y65 h66 e67 f68 => ?_
    obtain rfl := h66
    refine deps_cons rfl rfl fun x69 y70 h71 e72 f73 => ?_
    obtain rfl := h71
    refine deps_nil ?_
    refine wl_call rfl rfl (vs := [.agg #[.bool sa, .slice Aa na ca]]) (by kernel_rfl) (by decide) (g_zint_Least hw8.size (hx.ext hw8) (Nat.le_trans la (by decide))) ?_
    rintro _ v74 ⟨xr76, rfl, r76, e75⟩
    refine ret_intro ?_
    have hw9 : Ext w v74 := hw8.trans e75
    obtain ⟨s77, A77, n77, c77, rfl, z77⟩ := r76
    exact pi_done rfl e75 ⟨_, _, _, _, rfl, z77⟩
  · -- 6
    intro v78 e79
    have hw8 : Ext w v78 := hw7.trans e79
    refine deps_cons rfl rfl fun x80 y81 h82 e83 f84 => ?_
    obtain rfl := h82
    refine deps_cons rfl rfl fun x85 y86 h87 e88 f89 => ?_
    obtain rfl := h87
    refine deps_cons rfl rfl fun x90 y91 h92 e93 f94 => ?_
    obtain ⟨s95, A95, n95, c95, rfl, z95⟩ := h92
    have z95 := z95.ext f94
    refine deps_nil ?_
    refine wl_call rfl rfl (vs := [.agg #[.bool s19, .slice A19 n19 c19], .agg #[.bool s95, .slice A95 n95 c95]]) (by kernel_rfl) (by decide) (g_law5_alike (((z19.ext e22).updT hb27 u29).ext e79) (z19.le (Nat.le_trans Lx (by decide))) z95 (z95.le (Nat.le_trans Lx (by decide)))) ?_
    rintro _ v96 ⟨xr98, rfl, r98, e97⟩
    refine ret_intro ?_
    have hw9 : Ext w v96 := hw8.trans e97
    obtain rfl := r98
    exact pi_done rfl e97 rfl
  · -- 7
    intro v99 e100
    have hw8 : Ext w v99 := hw7.trans e100
    refine deps_cons rfl rfl fun x101 y102 h103 e104 f105 => ?_
    obtain rfl := h103
    refine deps_cons rfl rfl fun x106 y107 h108 e109 f110 => ?_
    obtain rfl := h108
    refine deps_nil ?_
    refine wl_pure rfl rfl (v := .bool false) (by decide) (by kernel_rfl) ?_
    exact pi_done rfl (Ext.refl _) rfl
  · -- 8
    intro v111 e112
    have hw8 : Ext w v111 := hw7.trans e112
    refine deps_cons rfl rfl fun x113 y114 h115 e116 f117 => ?_
    obtain rfl := h115
    refine deps_cons rfl rfl fun x118 y119 h120 e121 f122 => ?_
    obtain rfl := h120
    refine deps_nil ?_
    refine wl_pure rfl rfl (v := .bool false) (by decide) (by kernel_rfl) ?_
    exact pi_done rfl (Ext.refl _) rfl
  · -- 9
    intro v123 e124
    have hw8 : Ext w v123 := hw7.trans e124
    refine deps_cons rfl rfl fun x125 y126 h127 e128 f129 => ?_
    obtain rfl := h127
    refine deps_nil ?_
    refine wl_move rfl rfl (by decide) ?_
    exact pi_done rfl (Ext.refl _) rfl
  · -- 10
    intro v130 e131
    have hw8 : Ext w v130 := hw7.trans e131
    refine deps_cons rfl rfl fun x132 y133 h134 e135 f136 => ?_
    obtain rfl := h134
    refine deps_nil ?_
    refine wl_move rfl rfl (by decide) ?_
    exact pi_done rfl (Ext.refl _) rfl
  · -- 11
    intro v137 e138
    have hw8 : Ext w v137 := hw7.trans e138
    refine deps_cons rfl rfl fun x139 y140 h141 e142 f143 => ?_
    obtain rfl := h141
    refine deps_cons rfl rfl fun x144 y145 h146 e147 f148 => ?_
    obtain rfl := h146
    refine deps_nil ?_
    refine wl_streq (a := [48]) (b := []) rfl rfl rfl (by decide) (by decide) false (strE_eql_f (by decide)) (by decide) ?_
    exact pi_done rfl (Ext.refl _) rfl
  · -- 12
    intro v149 e150
    have hw8 : Ext w v149 := hw7.trans e150
    refine deps_cons rfl rfl fun x151 y152 h153 e154 f155 => ?_
    obtain rfl := h153
    refine deps_cons rfl rfl fun x156 y157 h158 e159 f160 => ?_
    obtain rfl := h158
    refine deps_nil ?_
    refine wl_pure rfl rfl (v := .bool false) (by decide) (by kernel_rfl) ?_
    exact pi_done rfl (Ext.refl _) rfl
  · -- all
    intro v161 e162
    have hw8 : Ext w v161 := hw7.trans e162
    refine deps_cons rfl rfl fun x163 y164 h165 e166 f167 => ?_
    obtain rfl := h165
    refine deps_cons rfl rfl fun x168 y169 h170 e171 f172 => ?_
    obtain rfl := h170
    refine deps_cons rfl rfl fun x173 y174 h175 e176 f177 => ?_
    obtain rfl := h175
    refine deps_cons rfl rfl fun x178 y179 h180 e181 f182 => ?_
    obtain rfl := h180
    refine deps_cons rfl rfl fun x183 y184 h185 e186 f187 => ?_
    obtain rfl := h185
    refine deps_cons rfl rfl fun x188 y189 h190 e191 f192 => ?_
    obtain ⟨s193, A193, n193, c193, rfl, z193⟩ := h190
    have z193 := z193.ext f192
    refine deps_cons rfl rfl fun x194 y195 h196 e197 f198 => ?_
    obtain rfl := h196
    refine deps_cons rfl rfl fun x199 y200 h201 e202 f203 => ?_
    obtain rfl := h201
    refine deps_cons rfl rfl fun x204 y205 h206 e207 f208 => ?_
    obtain rfl := h206
    refine deps_cons rfl rfl fun x209 y210 h211 e212 f213 => ?_
    obtain rfl := h211
    refine deps_cons rfl rfl fun x214 y215 h216 e217 f218 => ?_
    obtain rfl := h216
    refine deps_cons rfl rfl fun x219 y220 h221 e222 f223 => ?_
    obtain rfl := h221
    refine deps_cons rfl rfl fun x224 y225 h226 e227 f228 => ?_
    obtain rfl := h226
    refine deps_nil ?_
    refine wl_nil ?_
    refine eo_np ?_
    refine eo_then ?_
    refine cw_false rfl ?_
    refine cw_skip ?_
    refine eo_then ?_
    refine cw_seq ?_
    refine cw_region ?_
    refine wl_load rfl rfl (load_agg aggInt (((hb4.ext (e7.trans (e10.trans (e13.trans (e16.trans e22))))).updN u29 (by omega)).ext e162) [.bool sa, .slice Aa na ca] rfl (Nat.le_of_ble_eq_true rfl) rfl) (by decide) ?_
    have L229 : ln (-x) ≤ 1048576 := (by rw [ln_neg]; exact Lx)
    refine wl_call rfl rfl (vs := [.agg #[.bool sa, .slice Aa na ca]]) (by kernel_rfl) (by decide) (g_zint_Neg hw8.size (hx.ext hw8) (Nat.le_trans la (by decide))) ?_
    rintro _ v230 ⟨xr232, rfl, r232, e231⟩
    refine ret_intro ?_
    have hw9 : Ext w v230 := hw8.trans e231
    obtain ⟨s233, A233, n233, c233, rfl, z233⟩ := r232
    refine wl_call rfl rfl (vs := [.agg #[.bool s233, .slice A233 n233 c233]]) (by kernel_rfl) (by decide) (by have h := rx_zTextF (x := -x) z233.zi (z233.le (Nat.le_trans L229 (by decide))) (hS.ext hw9); rw [hZ2] at h; exact h) ?_
    rintro _ v234 ⟨xr236, rfl, r236, e235⟩
    refine ret_intro ?_
    have hw10 : Ext w v234 := hw9.trans e235
    obtain rfl := r236
    refine wl_assign rfl rfl (by decide) ?_
    refine wl_nil ?_
    refine eo_then ?_
    refine cw_seq ?_
    refine cw_seq ?_
    refine cw_region ?_
    refine wl_load rfl rfl (load_agg aggInt (((hb4.ext (e7.trans (e10.trans (e13.trans (e16.trans e22))))).updN u29 (by omega)).ext (e162.trans (e231.trans e235))) [.bool sa, .slice Aa na ca] rfl (Nat.le_of_ble_eq_true rfl) rfl) (by decide) ?_
    refine wl_call rfl rfl (vs := [.agg #[.bool sa, .slice Aa na ca]]) (by kernel_rfl) (by decide) (g_zint_Sign (hx.ext hw10) (Nat.le_trans la (by decide))) ?_
    rintro _ v237 ⟨xr239, rfl, r239, e238⟩
    refine ret_intro ?_
    have hw11 : Ext w v237 := hw10.trans e238
    obtain rfl := r239
    refine wl_cmp rfl rfl rfl true (scmp_eq_t h0) (by decide) ?_
    refine wl_nil ?_
    refine eo_then ?_
    refine cw_true rfl ?_
    refine cw_seq ?_
    refine cw_region ?_
    refine wl_move rfl rfl (by decide) ?_
    refine wl_streq (a := [48]) (b := [48]) rfl rfl rfl (by decide) (by decide) true (strE_eql_t (rfl)) (by decide) ?_
    refine wl_move rfl rfl (by decide) ?_
    refine wl_move rfl rfl (by decide) ?_
    refine wl_streq (a := [48]) (b := [48]) rfl rfl rfl (by decide) (by decide) true (strE_eql_t (rfl)) (by decide) ?_
    refine wl_pure rfl rfl (v := .bool true) (by decide) (by kernel_rfl) ?_
    refine wl_assign rfl rfl (by decide) ?_
    refine wl_nil ?_
    refine eo_then ?_
    refine cw_ret ?_
    refine eo_thenR ?_
    refine eo_ret [.bool true] rfl ⟨rfl, trivial⟩ ?_
    exact ⟨_, rfl, rfl, hw11⟩
theorem law_ZintTexts {w : World} {sa : Bool} {Aa : Option Addr} {na ca : Nat} {x : Int} (hx : Zi w sa Aa na ca x) (la : na ≤ 1048576) {bs : List Nat} (hbs : ∀ b, b ∈ bs → b < 256) (hlen : bs.length ≤ 1048576) (hS : Signs w) : Calls Tryd.prog 13 #[.agg #[.bool sa, .slice Aa na ca], .string (strB bs)] w (BoolP true w) := by
  rcases Int.lt_trichotomy x 0 with h | h | h
  · exact (law_ZintTexts_neg hx la hbs hlen hS h).mono fun e w' h => bool_of _ _ h
  · exact (law_ZintTexts_zero hx la hbs hlen hS h).mono fun e w' h => bool_of _ _ h
  · exact (law_ZintTexts_pos hx la hbs hlen hS h).mono fun e w' h => bool_of _ _ h
end Go.Proofs.YtmjdmjflgiicaaaDoor
