/- Parts Law5m, joined. -/
import Derived.Test.YtmjdmjflgiicaaaDoorM3

namespace Go.Proofs.YtmjdmjflgiicaaaDoor
open Go.RowKit
theorem emod_in5 {a z : Int} (h : z ≠ 0) : 0 ≤ a % z ∧ a % z < z.natAbs := ⟨Int.emod_nonneg _ h, by have := Int.emod_lt a h; omega⟩
theorem res_mul {x y z : Int} : ((x % z) * (y % z)) % z = (x * y) % z := (Int.mul_emod x y z).symm
theorem res_add {x y z : Int} : ((x % z) + (y % z)) % -z = (x + y) % z := by rw [Int.emod_neg]; exact (Int.add_emod x y z).symm
theorem res_mad {x y z : Int} : (y * z + x) % z = x % z := by rw [Int.add_comm, Int.add_mul_emod_self_right]
set_option maxHeartbeats 4000000 in
theorem g_zint_Euclid_badI {w : World} {sa : Bool} {Aa : Option Addr} {na ca : Nat} {x : Int} {sb : Bool} {Ab : Option Addr} {nb cb : Nat} {y : Int} (hx : Zi w sa Aa na ca x) (la : na ≤ 68719476736) (hy : Zi w sb Ab nb cb y) (lb : nb ≤ 68719476736) (h0 : y = 0) :
    Calls Tryd.prog 29 #[.agg #[.bool sa, .slice Aa na ca], .agg #[.bool sb, .slice Ab nb cb]] w (Gv w (T3 (ZR w.heap.size (0)) (ZR w.heap.size (0)) (Is (.int .i64 4)))) := by
  have Lx : ln x ≤ 68719476736 := Nat.le_trans hx.ln la
  have Ly : ln y ≤ 68719476736 := Nat.le_trans hy.ln lb
  refine sx_enter Tryd.func29 rfl (n := 41) rfl (Nat.le_of_ble_eq_true rfl) (args := [.agg #[.bool sa, .slice Aa na ca], .agg #[.bool sb, .slice Ab nb cb]]) ?_
  refine cw_keep [(0, .agg #[.bool sa, .slice Aa na ca]), (1, .agg #[.bool sb, .slice Ab nb cb])] ⟨rfl, rfl, trivial⟩ ?_
  refine cw_seq ?_
  refine cw_region ?_
  refine wl_box rfl rfl (vs := [.bool sa, .slice Aa na ca]) rfl (by decide) fun g1 v2 nb => ?_
  have hb4 := nb.bk
  have ge5 : w.heap.size ≤ g1 := by rw [← nb.at_]; exact (Ext.refl w).size
  have e3 := nb.ext
  clear nb
  have hw1 : Ext w v2 := (Ext.refl w).trans e3
  refine wl_box rfl rfl (vs := [.bool sb, .slice Ab nb cb]) rfl (by decide) fun g6 v7 nb => ?_
  have hb9 := nb.bk
  have ge10 : w.heap.size ≤ g6 := by rw [← nb.at_]; exact hw1.size
  have q11 : g1 < g6 := by rw [← nb.at_]; exact hb4.lt
  have e8 := nb.ext
  clear nb
  have hw2 : Ext w v7 := hw1.trans e8
  refine wl_alloc rfl (z := .agg #[.bool false, .slice none 0 0]) (vs := [.bool false, .slice none 0 0]) (fun _ => by kernel_rfl) rfl (by decide) fun g12 v13 nb => ?_
  have hb15 := nb.bk
  have ge16 : w.heap.size ≤ g12 := by rw [← nb.at_]; exact hw2.size
  have q17 : g6 < g12 := by rw [← nb.at_]; exact hb9.lt
  have e14 := nb.ext
  clear nb
  have hw3 : Ext w v13 := hw2.trans e14
  refine wl_alloc rfl (z := .agg #[.bool false, .slice none 0 0]) (vs := [.bool false, .slice none 0 0]) (fun _ => by kernel_rfl) rfl (by decide) fun g18 v19 nb => ?_
  have hb21 := nb.bk
  have ge22 : w.heap.size ≤ g18 := by rw [← nb.at_]; exact hw3.size
  have q23 : g12 < g18 := by rw [← nb.at_]; exact hb15.lt
  have e20 := nb.ext
  clear nb
  have hw4 : Ext w v19 := hw3.trans e20
  refine wl_assign rfl rfl (by decide) ?_
  refine wl_nil ?_
  refine eo_then ?_
  refine cw_seq ?_
  refine cw_region ?_
  refine wl_load rfl rfl (load_agg aggInt (hb4.ext (e8.trans (e14.trans e20))) [.bool sa, .slice Aa na ca] rfl (Nat.le_of_ble_eq_true rfl) rfl) (by decide) ?_
  refine wl_load rfl rfl (load_agg aggInt (hb9.ext (e14.trans e20)) [.bool sb, .slice Ab nb cb] rfl (Nat.le_of_ble_eq_true rfl) rfl) (by decide) ?_
  refine wl_call rfl rfl (vs := [.agg #[.bool sa, .slice Aa na ca], .agg #[.bool sb, .slice Ab nb cb]]) (by kernel_rfl) (by decide) (g_zint_Trunc_bad hw4.size (hx.ext hw4) (Nat.le_trans la (by decide)) (hy.ext hw4) (Nat.le_trans lb (by decide)) h0) ?_
  rintro _ v24 ⟨xr26, rfl, r26, e25⟩
  refine ret_intro ?_
  have hw5 : Ext w v24 := hw4.trans e25
  obtain ⟨a27_0, a27_1, a27_2, rfl, r27_0, r27_1, r27_2⟩ := r26
  obtain ⟨s28, A28, n28, c28, rfl, z28⟩ := r27_0
  obtain ⟨s29, A29, n29, c29, rfl, z29⟩ := r27_1
  obtain rfl := r27_2
  refine wl_move rfl rfl (by decide) ?_
  refine wl_pure rfl rfl (v := .agg #[.bool s28, .slice A28 n28 c28]) (by decide) (by kernel_rfl) ?_
  refine wl_pure rfl rfl (v := .agg #[.bool s29, .slice A29 n29 c29]) (by decide) (by kernel_rfl) ?_
  refine wl_pure rfl rfl (v := .int .i64 4) (by decide) (by kernel_rfl) ?_
  refine wl_alloc rfl (z := .agg #[.bool false, .slice none 0 0]) (vs := [.bool false, .slice none 0 0]) (fun _ => by kernel_rfl) rfl (by decide) fun g30 v31 nb => ?_
  have hb33 := nb.bk
  have ge34 : w.heap.size ≤ g30 := by rw [← nb.at_]; exact hw5.size
  have q35 : g18 < g30 := by rw [← nb.at_]; exact (hb21.ext e25).lt
  have e32 := nb.ext
  clear nb
  have hw6 : Ext w v31 := hw5.trans e32
  refine wl_alloc rfl (z := .agg #[.bool false, .slice none 0 0]) (vs := [.bool false, .slice none 0 0]) (fun _ => by kernel_rfl) rfl (by decide) fun g36 v37 nb => ?_
  have hb39 := nb.bk
  have ge40 : w.heap.size ≤ g36 := by rw [← nb.at_]; exact hw6.size
  have q41 : g30 < g36 := by rw [← nb.at_]; exact hb33.lt
  have e38 := nb.ext
  clear nb
  have hw7 : Ext w v37 := hw6.trans e38
  have hb43 := (hb33.ext e38)
  refine wl_stored rfl rfl rfl aggInt rfl hb43 (Nat.le_of_ble_eq_true rfl) rfl [.bool s28, .slice A28 n28 c28] rfl fun v42 hb44 u45 hs46 => ?_
  have hw8 : Ext w v42 := u45.ext hw7 ge34
  have hb48 := (hb39.updN u45 (by omega))
  refine wl_stored rfl rfl rfl aggInt rfl hb48 (Nat.le_of_ble_eq_true rfl) rfl [.bool s29, .slice A29 n29 c29] rfl fun v47 hb49 u50 hs51 => ?_
  have hw9 : Ext w v47 := u50.ext hw8 ge40
  refine wl_assign rfl rfl (by decide) ?_
  refine wl_nil ?_
  refine eo_then ?_
  refine cw_seq ?_
  refine cw_seq ?_
  refine cw_region ?_
  refine wl_move rfl rfl (by decide) ?_
  refine wl_cmp rfl rfl rfl true (by decide) (by decide) ?_
  refine wl_move rfl rfl (by decide) ?_
  refine wl_off rfl (by decide) ?_
  refine wl_off rfl (by decide) ?_
  refine wl_off rfl (by decide) ?_
  refine wl_pure rfl rfl (v := .bool true) (by decide) (by kernel_rfl) ?_
  refine wl_nil ?_
  refine eo_then ?_
  refine cw_true rfl ?_
  refine cw_seq ?_
  refine cw_keep [(0, .agg #[.bool sa, .slice Aa na ca]), (1, .agg #[.bool sb, .slice Ab nb cb]), (2, .pointer (some ⟨g1, 0, none⟩)), (3, .pointer (some ⟨g6, 0, none⟩)), (4, .pointer (some ⟨g12, 0, none⟩)), (5, .pointer (some ⟨g18, 0, none⟩)), (11, .agg #[.bool sa, .slice Aa na ca]), (12, .agg #[.bool sb, .slice Ab nb cb]), (13, .tuple #[.agg #[.bool s28, .slice A28 n28 c28], .agg #[.bool s29, .slice A29 n29 c29], .int .i64 4]), (10, .tuple #[.agg #[.bool s28, .slice A28 n28 c28], .agg #[.bool s29, .slice A29 n29 c29], .int .i64 4]), (14, .agg #[.bool s28, .slice A28 n28 c28]), (15, .agg #[.bool s29, .slice A29 n29 c29]), (16, .int .i64 4), (7, .pointer (some ⟨g30, 0, none⟩)), (8, .pointer (some ⟨g36, 0, none⟩)), (9, .int .i64 4), (17, .int .i64 4), (18, .bool true), (19, .bool true), (20, undef), (21, undef), (22, undef), (23, .bool true)] ⟨rfl, rfl, rfl, rfl, rfl, rfl, rfl, rfl, rfl, rfl, rfl, rfl, rfl, rfl, rfl, rfl, rfl, rfl, rfl, rfl, rfl, rfl, rfl, trivial⟩ ?_
  obtain ⟨v52, hv, e53⟩ : ∃ v, v = v47.drew ∧ Ext v47 v := ⟨_, rfl, (Ext.refl _).drew⟩
  have hw10 : Ext w v52 := hw9.trans e53
  have hb55 := ((((hb15.ext (e20.trans (e25.trans (e32.trans e38)))).updN u45 (by omega)).updN u50 (by omega)).ext e53)
  obtain ⟨v54, hr59, hb56, u57, hs58⟩ := run_stored (P := Tryd.prog) (us := [.bool s28, .slice A28 n28 c28]) (off := 0) aggInt rfl hb55 (Nat.le_of_ble_eq_true rfl) rfl [.bool s28, .slice A28 n28 c28] rfl
  have hw11 : Ext w v54 := u57.ext hw10 ge16
  have hb61 := (((((hb21.ext (e25.trans (e32.trans e38))).updN u45 (by omega)).updN u50 (by omega)).ext e53).updN u57 (by omega))
  obtain ⟨v60, hr65, hb62, u63, hs64⟩ := run_stored (P := Tryd.prog) (us := [.bool s29, .slice A29 n29 c29]) (off := 0) aggInt rfl hb61 (Nat.le_of_ble_eq_true rfl) rfl [.bool s29, .slice A29 n29 c29] rfl
  have hw12 : Ext w v60 := u63.ext hw11 ge22
  refine cw_det mix (w := v52) [.agg #[.bool s28, .slice A28 n28 c28], .agg #[.bool s29, .slice A29 n29 c29], .int .i64 4, undef, undef, .int .i64 4] [v52, v54, v60] [3, 4] [[], [], [], [0], [1], [2]] [[], [], [], [0], [0, 1, 3], [0, 1, 2, 3, 4]] [(0, 0), (1, 0), (1, 1), (2, 0), (2, 1), (2, 2), (3, 0), (4, 1), (5, 2)] rfl hv ?_ ?_
  ·
    refine dobs_val ([(0, .agg #[.bool sa, .slice Aa na ca]), (1, .agg #[.bool sb, .slice Ab nb cb]), (2, .pointer (some ⟨g1, 0, none⟩)), (3, .pointer (some ⟨g6, 0, none⟩)), (4, .pointer (some ⟨g12, 0, none⟩)), (5, .pointer (some ⟨g18, 0, none⟩)), (11, .agg #[.bool sa, .slice Aa na ca]), (12, .agg #[.bool sb, .slice Ab nb cb]), (13, .tuple #[.agg #[.bool s28, .slice A28 n28 c28], .agg #[.bool s29, .slice A29 n29 c29], .int .i64 4]), (10, .tuple #[.agg #[.bool s28, .slice A28 n28 c28], .agg #[.bool s29, .slice A29 n29 c29], .int .i64 4]), (14, .agg #[.bool s28, .slice A28 n28 c28]), (15, .agg #[.bool s29, .slice A29 n29 c29]), (16, .int .i64 4), (7, .pointer (some ⟨g30, 0, none⟩)), (8, .pointer (some ⟨g36, 0, none⟩)), (9, .int .i64 4), (17, .int .i64 4), (18, .bool true), (19, .bool true), (20, undef), (21, undef), (22, undef), (23, .bool true)]) rfl rfl rfl rfl rfl (rd_load rfl (load_agg aggInt ((hb44.updN u50 (by omega)).ext e53) [.bool s28, .slice A28 n28 c28] rfl (Nat.le_of_ble_eq_true rfl) rfl)) ?_
    refine dobs_val ([(0, .agg #[.bool sa, .slice Aa na ca]), (1, .agg #[.bool sb, .slice Ab nb cb]), (2, .pointer (some ⟨g1, 0, none⟩)), (3, .pointer (some ⟨g6, 0, none⟩)), (4, .pointer (some ⟨g12, 0, none⟩)), (5, .pointer (some ⟨g18, 0, none⟩)), (11, .agg #[.bool sa, .slice Aa na ca]), (12, .agg #[.bool sb, .slice Ab nb cb]), (13, .tuple #[.agg #[.bool s28, .slice A28 n28 c28], .agg #[.bool s29, .slice A29 n29 c29], .int .i64 4]), (10, .tuple #[.agg #[.bool s28, .slice A28 n28 c28], .agg #[.bool s29, .slice A29 n29 c29], .int .i64 4]), (14, .agg #[.bool s28, .slice A28 n28 c28]), (15, .agg #[.bool s29, .slice A29 n29 c29]), (16, .int .i64 4), (7, .pointer (some ⟨g30, 0, none⟩)), (8, .pointer (some ⟨g36, 0, none⟩)), (9, .int .i64 4), (17, .int .i64 4), (18, .bool true), (19, .bool true), (20, undef), (21, undef), (22, undef), (23, .bool true)]) rfl rfl rfl rfl rfl (rd_load rfl (load_agg aggInt (hb49.ext e53) [.bool s29, .slice A29 n29 c29] rfl (Nat.le_of_ble_eq_true rfl) rfl)) ?_
    refine dobs_val ([(0, .agg #[.bool sa, .slice Aa na ca]), (1, .agg #[.bool sb, .slice Ab nb cb]), (2, .pointer (some ⟨g1, 0, none⟩)), (3, .pointer (some ⟨g6, 0, none⟩)), (4, .pointer (some ⟨g12, 0, none⟩)), (5, .pointer (some ⟨g18, 0, none⟩)), (11, .agg #[.bool sa, .slice Aa na ca]), (12, .agg #[.bool sb, .slice Ab nb cb]), (13, .tuple #[.agg #[.bool s28, .slice A28 n28 c28], .agg #[.bool s29, .slice A29 n29 c29], .int .i64 4]), (10, .tuple #[.agg #[.bool s28, .slice A28 n28 c28], .agg #[.bool s29, .slice A29 n29 c29], .int .i64 4]), (14, .agg #[.bool s28, .slice A28 n28 c28]), (15, .agg #[.bool s29, .slice A29 n29 c29]), (16, .int .i64 4), (7, .pointer (some ⟨g30, 0, none⟩)), (8, .pointer (some ⟨g36, 0, none⟩)), (9, .int .i64 4), (17, .int .i64 4), (18, .bool true), (19, .bool true), (20, undef), (21, undef), (22, undef), (23, .bool true)]) rfl rfl rfl rfl rfl (rd_load rfl (load_agg aggInt ((hb49.ext e53).updN u57 (by omega)) [.bool s29, .slice A29 n29 c29] rfl (Nat.le_of_ble_eq_true rfl) rfl)) ?_
    refine dobs_val ([(0, .agg #[.bool sa, .slice Aa na ca]), (1, .agg #[.bool sb, .slice Ab nb cb]), (2, .pointer (some ⟨g1, 0, none⟩)), (3, .pointer (some ⟨g6, 0, none⟩)), (4, .pointer (some ⟨g12, 0, none⟩)), (5, .pointer (some ⟨g18, 0, none⟩)), (11, .agg #[.bool sa, .slice Aa na ca]), (12, .agg #[.bool sb, .slice Ab nb cb]), (13, .tuple #[.agg #[.bool s28, .slice A28 n28 c28], .agg #[.bool s29, .slice A29 n29 c29], .int .i64 4]), (10, .tuple #[.agg #[.bool s28, .slice A28 n28 c28], .agg #[.bool s29, .slice A29 n29 c29], .int .i64 4]), (14, .agg #[.bool s28, .slice A28 n28 c28]), (15, .agg #[.bool s29, .slice A29 n29 c29]), (16, .int .i64 4), (7, .pointer (some ⟨g30, 0, none⟩)), (8, .pointer (some ⟨g36, 0, none⟩)), (9, .int .i64 4), (17, .int .i64 4), (18, .bool true), (19, .bool true), (20, undef), (21, undef), (22, undef), (23, .bool true)]) rfl rfl rfl rfl rfl (rd_move rfl) ?_
    refine dobs_val ([(0, .agg #[.bool sa, .slice Aa na ca]), (1, .agg #[.bool sb, .slice Ab nb cb]), (2, .pointer (some ⟨g1, 0, none⟩)), (3, .pointer (some ⟨g6, 0, none⟩)), (4, .pointer (some ⟨g12, 0, none⟩)), (5, .pointer (some ⟨g18, 0, none⟩)), (11, .agg #[.bool sa, .slice Aa na ca]), (12, .agg #[.bool sb, .slice Ab nb cb]), (13, .tuple #[.agg #[.bool s28, .slice A28 n28 c28], .agg #[.bool s29, .slice A29 n29 c29], .int .i64 4]), (10, .tuple #[.agg #[.bool s28, .slice A28 n28 c28], .agg #[.bool s29, .slice A29 n29 c29], .int .i64 4]), (14, .agg #[.bool s28, .slice A28 n28 c28]), (15, .agg #[.bool s29, .slice A29 n29 c29]), (16, .int .i64 4), (7, .pointer (some ⟨g30, 0, none⟩)), (8, .pointer (some ⟨g36, 0, none⟩)), (9, .int .i64 4), (17, .int .i64 4), (18, .bool true), (19, .bool true), (20, undef), (21, undef), (22, undef), (23, .bool true)]) rfl rfl rfl rfl rfl (rd_move rfl) ?_
    refine dobs_val ([(0, .agg #[.bool sa, .slice Aa na ca]), (1, .agg #[.bool sb, .slice Ab nb cb]), (2, .pointer (some ⟨g1, 0, none⟩)), (3, .pointer (some ⟨g6, 0, none⟩)), (4, .pointer (some ⟨g12, 0, none⟩)), (5, .pointer (some ⟨g18, 0, none⟩)), (11, .agg #[.bool sa, .slice Aa na ca]), (12, .agg #[.bool sb, .slice Ab nb cb]), (13, .tuple #[.agg #[.bool s28, .slice A28 n28 c28], .agg #[.bool s29, .slice A29 n29 c29], .int .i64 4]), (10, .tuple #[.agg #[.bool s28, .slice A28 n28 c28], .agg #[.bool s29, .slice A29 n29 c29], .int .i64 4]), (14, .agg #[.bool s28, .slice A28 n28 c28]), (15, .agg #[.bool s29, .slice A29 n29 c29]), (16, .int .i64 4), (7, .pointer (some ⟨g30, 0, none⟩)), (8, .pointer (some ⟨g36, 0, none⟩)), (9, .int .i64 4), (17, .int .i64 4), (18, .bool true), (19, .bool true), (20, undef), (21, undef), (22, undef), (23, .bool true)]) rfl rfl rfl rfl rfl (rd_move rfl) ?_
    refine dobs_sto ((24, .agg #[.bool s28, .slice A28 n28 c28]) :: [(0, .agg #[.bool sa, .slice Aa na ca]), (1, .agg #[.bool sb, .slice Ab nb cb]), (2, .pointer (some ⟨g1, 0, none⟩)), (3, .pointer (some ⟨g6, 0, none⟩)), (4, .pointer (some ⟨g12, 0, none⟩)), (5, .pointer (some ⟨g18, 0, none⟩)), (11, .agg #[.bool sa, .slice Aa na ca]), (12, .agg #[.bool sb, .slice Ab nb cb]), (13, .tuple #[.agg #[.bool s28, .slice A28 n28 c28], .agg #[.bool s29, .slice A29 n29 c29], .int .i64 4]), (10, .tuple #[.agg #[.bool s28, .slice A28 n28 c28], .agg #[.bool s29, .slice A29 n29 c29], .int .i64 4]), (14, .agg #[.bool s28, .slice A28 n28 c28]), (15, .agg #[.bool s29, .slice A29 n29 c29]), (16, .int .i64 4), (7, .pointer (some ⟨g30, 0, none⟩)), (8, .pointer (some ⟨g36, 0, none⟩)), (9, .int .i64 4), (17, .int .i64 4), (18, .bool true), (19, .bool true), (20, undef), (21, undef), (22, undef), (23, .bool true)]) rfl rfl rfl rfl rfl (rd_store rfl rfl hr59) ?_
    refine dobs_sto ((25, .agg #[.bool s29, .slice A29 n29 c29]) :: [(0, .agg #[.bool sa, .slice Aa na ca]), (1, .agg #[.bool sb, .slice Ab nb cb]), (2, .pointer (some ⟨g1, 0, none⟩)), (3, .pointer (some ⟨g6, 0, none⟩)), (4, .pointer (some ⟨g12, 0, none⟩)), (5, .pointer (some ⟨g18, 0, none⟩)), (11, .agg #[.bool sa, .slice Aa na ca]), (12, .agg #[.bool sb, .slice Ab nb cb]), (13, .tuple #[.agg #[.bool s28, .slice A28 n28 c28], .agg #[.bool s29, .slice A29 n29 c29], .int .i64 4]), (10, .tuple #[.agg #[.bool s28, .slice A28 n28 c28], .agg #[.bool s29, .slice A29 n29 c29], .int .i64 4]), (14, .agg #[.bool s28, .slice A28 n28 c28]), (15, .agg #[.bool s29, .slice A29 n29 c29]), (16, .int .i64 4), (7, .pointer (some ⟨g30, 0, none⟩)), (8, .pointer (some ⟨g36, 0, none⟩)), (9, .int .i64 4), (17, .int .i64 4), (18, .bool true), (19, .bool true), (20, undef), (21, undef), (22, undef), (23, .bool true)]) rfl rfl rfl rfl rfl (rd_store rfl rfl hr65) ?_
    refine dobs_val ((26, .int .i64 4) :: [(0, .agg #[.bool sa, .slice Aa na ca]), (1, .agg #[.bool sb, .slice Ab nb cb]), (2, .pointer (some ⟨g1, 0, none⟩)), (3, .pointer (some ⟨g6, 0, none⟩)), (4, .pointer (some ⟨g12, 0, none⟩)), (5, .pointer (some ⟨g18, 0, none⟩)), (11, .agg #[.bool sa, .slice Aa na ca]), (12, .agg #[.bool sb, .slice Ab nb cb]), (13, .tuple #[.agg #[.bool s28, .slice A28 n28 c28], .agg #[.bool s29, .slice A29 n29 c29], .int .i64 4]), (10, .tuple #[.agg #[.bool s28, .slice A28 n28 c28], .agg #[.bool s29, .slice A29 n29 c29], .int .i64 4]), (14, .agg #[.bool s28, .slice A28 n28 c28]), (15, .agg #[.bool s29, .slice A29 n29 c29]), (16, .int .i64 4), (7, .pointer (some ⟨g30, 0, none⟩)), (8, .pointer (some ⟨g36, 0, none⟩)), (9, .int .i64 4), (17, .int .i64 4), (18, .bool true), (19, .bool true), (20, undef), (21, undef), (22, undef), (23, .bool true)]) rfl rfl rfl rfl rfl (rd_assign rfl) ?_
    exact dobs_nil
  clear hv
  refine eo_keep [(0, .agg #[.bool sa, .slice Aa na ca]), (1, .agg #[.bool sb, .slice Ab nb cb]), (2, .pointer (some ⟨g1, 0, none⟩)), (3, .pointer (some ⟨g6, 0, none⟩)), (4, .pointer (some ⟨g12, 0, none⟩)), (5, .pointer (some ⟨g18, 0, none⟩)), (11, .agg #[.bool sa, .slice Aa na ca]), (12, .agg #[.bool sb, .slice Ab nb cb]), (13, .tuple #[.agg #[.bool s28, .slice A28 n28 c28], .agg #[.bool s29, .slice A29 n29 c29], .int .i64 4]), (10, .tuple #[.agg #[.bool s28, .slice A28 n28 c28], .agg #[.bool s29, .slice A29 n29 c29], .int .i64 4]), (14, .agg #[.bool s28, .slice A28 n28 c28]), (15, .agg #[.bool s29, .slice A29 n29 c29]), (16, .int .i64 4), (7, .pointer (some ⟨g30, 0, none⟩)), (8, .pointer (some ⟨g36, 0, none⟩)), (9, .int .i64 4), (17, .int .i64 4), (18, .bool true), (19, .bool true), (20, undef), (21, undef), (22, undef), (23, .bool true), (24, .agg #[.bool s28, .slice A28 n28 c28]), (25, .agg #[.bool s29, .slice A29 n29 c29]), (26, .int .i64 4), (6, .int .i64 4)] ⟨rfl, rfl, rfl, rfl, rfl, rfl, rfl, rfl, rfl, rfl, rfl, rfl, rfl, rfl, rfl, rfl, rfl, rfl, rfl, rfl, rfl, rfl, rfl, rfl, rfl, rfl, rfl, trivial⟩ ?_
  refine eo_then ?_
  refine cw_ret ?_
  refine eo_thenR ?_
  refine eo_ret [.agg #[.bool s28, .slice A28 n28 c28], .agg #[.bool s29, .slice A29 n29 c29], .int .i64 4] rfl ⟨⟨_, rfl, load_agg aggInt (hb56.updN u63 (by omega)) [.bool s28, .slice A28 n28 c28] rfl (Nat.le_of_ble_eq_true rfl) rfl⟩, ⟨_, rfl, load_agg aggInt hb62 [.bool s29, .slice A29 n29 c29] rfl (Nat.le_of_ble_eq_true rfl) rfl⟩, rfl, trivial⟩ ?_
  exact ⟨_, rfl, ⟨_, _, _, rfl, ⟨_, _, _, _, rfl, ((((((z28.ext (e32.trans e38)).updT hb43 u45).updT hb48 u50).ext e53).updT hb55 u57).updT hb61 u63)⟩, ⟨_, _, _, _, rfl, ((((((z29.ext (e32.trans e38)).updT hb43 u45).updT hb48 u50).ext e53).updT hb55 u57).updT hb61 u63)⟩, rfl⟩, hw12⟩
theorem g_zint_Euclid_bad {w : World} {sa : Bool} {Aa : Option Addr} {na ca : Nat} {x : Int} {sb : Bool} {Ab : Option Addr} {nb cb : Nat} {y : Int} {b : Nat} (hb : b ≤ w.heap.size)  (hx : Zi w sa Aa na ca x) (la : na ≤ 68719476736) (hy : Zi w sb Ab nb cb y) (lb : nb ≤ 68719476736) (h0 : y = 0) :
    Calls Tryd.prog 29 #[.agg #[.bool sa, .slice Aa na ca], .agg #[.bool sb, .slice Ab nb cb]] w (Gv w (T3 (ZR b (0)) (ZR b (0)) (Is (.int .i64 4)))) := (g_zint_Euclid_badI hx la hy lb h0).mono (Gv.imp (T3.imp (ZR.imp hb) (ZR.imp hb) Is.imp))
set_option maxHeartbeats 4000000 in
theorem g_zint_Mod_badI {w : World} {sa : Bool} {Aa : Option Addr} {na ca : Nat} {x : Int} {sb : Bool} {Ab : Option Addr} {nb cb : Nat} {y : Int} (hx : Zi w sa Aa na ca x) (la : na ≤ 68719476736) (hy : Zi w sb Ab nb cb y) (lb : nb ≤ 68719476736) (h0 : y = 0) :
    Calls Tryd.prog 15 #[.agg #[.bool sa, .slice Aa na ca], .agg #[.bool sb, .slice Ab nb cb]] w (Gv w (T2 (ZR w.heap.size (0)) (Is (.int .i64 4)))) := by
  have Lx : ln x ≤ 68719476736 := Nat.le_trans hx.ln la
  have Ly : ln y ≤ 68719476736 := Nat.le_trans hy.ln lb
  refine sx_enter Tryd.func15 rfl (n := 18) rfl (Nat.le_of_ble_eq_true rfl) (args := [.agg #[.bool sa, .slice Aa na ca], .agg #[.bool sb, .slice Ab nb cb]]) ?_
  refine cw_keep [(0, .agg #[.bool sa, .slice Aa na ca]), (1, .agg #[.bool sb, .slice Ab nb cb])] ⟨rfl, rfl, trivial⟩ ?_
  refine cw_seq ?_
  refine cw_region ?_
  refine wl_box rfl rfl (vs := [.bool sa, .slice Aa na ca]) rfl (by decide) fun g1 v2 nb => ?_
  have hb4 := nb.bk
  have ge5 : w.heap.size ≤ g1 := by rw [← nb.at_]; exact (Ext.refl w).size
  have e3 := nb.ext
  clear nb
  have hw1 : Ext w v2 := (Ext.refl w).trans e3
  refine wl_box rfl rfl (vs := [.bool sb, .slice Ab nb cb]) rfl (by decide) fun g6 v7 nb => ?_
  have hb9 := nb.bk
  have ge10 : w.heap.size ≤ g6 := by rw [← nb.at_]; exact hw1.size
  have q11 : g1 < g6 := by rw [← nb.at_]; exact hb4.lt
  have e8 := nb.ext
  clear nb
  have hw2 : Ext w v7 := hw1.trans e8
  refine wl_alloc rfl (z := .agg #[.bool false, .slice none 0 0]) (vs := [.bool false, .slice none 0 0]) (fun _ => by kernel_rfl) rfl (by decide) fun g12 v13 nb => ?_
  have hb15 := nb.bk
  have ge16 : w.heap.size ≤ g12 := by rw [← nb.at_]; exact hw2.size
  have q17 : g6 < g12 := by rw [← nb.at_]; exact hb9.lt
  have e14 := nb.ext
  clear nb
  have hw3 : Ext w v13 := hw2.trans e14
  refine wl_assign rfl rfl (by decide) ?_
  refine wl_nil ?_
  refine eo_then ?_
  refine cw_seq ?_
  refine cw_region ?_
  refine wl_load rfl rfl (load_agg aggInt (hb4.ext (e8.trans e14)) [.bool sa, .slice Aa na ca] rfl (Nat.le_of_ble_eq_true rfl) rfl) (by decide) ?_
  refine wl_load rfl rfl (load_agg aggInt (hb9.ext e14) [.bool sb, .slice Ab nb cb] rfl (Nat.le_of_ble_eq_true rfl) rfl) (by decide) ?_
  refine wl_call rfl rfl (vs := [.agg #[.bool sa, .slice Aa na ca], .agg #[.bool sb, .slice Ab nb cb]]) (by kernel_rfl) (by decide) (g_zint_Euclid_bad hw3.size (hx.ext hw3) (Nat.le_trans la (by decide)) (hy.ext hw3) (Nat.le_trans lb (by decide)) h0) ?_
  rintro _ v18 ⟨xr20, rfl, r20, e19⟩
  refine ret_intro ?_
  have hw4 : Ext w v18 := hw3.trans e19
  obtain ⟨a21_0, a21_1, a21_2, rfl, r21_0, r21_1, r21_2⟩ := r20
  obtain ⟨s22, A22, n22, c22, rfl, z22⟩ := r21_0
  obtain ⟨s23, A23, n23, c23, rfl, z23⟩ := r21_1
  obtain rfl := r21_2
  refine wl_move rfl rfl (by decide) ?_
  refine wl_pure rfl rfl (v := .agg #[.bool s22, .slice A22 n22 c22]) (by decide) (by kernel_rfl) ?_
  refine wl_pure rfl rfl (v := .agg #[.bool s23, .slice A23 n23 c23]) (by decide) (by kernel_rfl) ?_
  refine wl_pure rfl rfl (v := .int .i64 4) (by decide) (by kernel_rfl) ?_
  refine wl_alloc rfl (z := .agg #[.bool false, .slice none 0 0]) (vs := [.bool false, .slice none 0 0]) (fun _ => by kernel_rfl) rfl (by decide) fun g24 v25 nb => ?_
  have hb27 := nb.bk
  have ge28 : w.heap.size ≤ g24 := by rw [← nb.at_]; exact hw4.size
  have q29 : g12 < g24 := by rw [← nb.at_]; exact (hb15.ext e19).lt
  have e26 := nb.ext
  clear nb
  have hw5 : Ext w v25 := hw4.trans e26
  refine wl_alloc rfl (z := .agg #[.bool false, .slice none 0 0]) (vs := [.bool false, .slice none 0 0]) (fun _ => by kernel_rfl) rfl (by decide) fun g30 v31 nb => ?_
  have hb33 := nb.bk
  have ge34 : w.heap.size ≤ g30 := by rw [← nb.at_]; exact hw5.size
  have q35 : g24 < g30 := by rw [← nb.at_]; exact hb27.lt
  have e32 := nb.ext
  clear nb
  have hw6 : Ext w v31 := hw5.trans e32
  have hb37 := (hb27.ext e32)
  refine wl_stored rfl rfl rfl aggInt rfl hb37 (Nat.le_of_ble_eq_true rfl) rfl [.bool s22, .slice A22 n22 c22] rfl fun v36 hb38 u39 hs40 => ?_
  have hw7 : Ext w v36 := u39.ext hw6 ge28
  have hb42 := (hb33.updN u39 (by omega))
  refine wl_stored rfl rfl rfl aggInt rfl hb42 (Nat.le_of_ble_eq_true rfl) rfl [.bool s23, .slice A23 n23 c23] rfl fun v41 hb43 u44 hs45 => ?_
  have hw8 : Ext w v41 := u44.ext hw7 ge34
  refine wl_assign rfl rfl (by decide) ?_
  refine wl_nil ?_
  refine eo_then ?_
  refine cw_seq ?_
  refine cw_region ?_
  refine wl_load rfl rfl (load_agg aggInt hb43 [.bool s23, .slice A23 n23 c23] rfl (Nat.le_of_ble_eq_true rfl) rfl) (by decide) ?_
  refine wl_move rfl rfl (by decide) ?_
  have hb47 := (((hb15.ext (e19.trans (e26.trans e32))).updN u39 (by omega)).updN u44 (by omega))
  refine wl_stored rfl rfl rfl aggInt rfl hb47 (Nat.le_of_ble_eq_true rfl) rfl [.bool s23, .slice A23 n23 c23] rfl fun v46 hb48 u49 hs50 => ?_
  have hw9 : Ext w v46 := u49.ext hw8 ge16
  refine wl_assign rfl rfl (by decide) ?_
  refine wl_nil ?_
  refine eo_then ?_
  refine cw_ret ?_
  refine eo_ret [.agg #[.bool s23, .slice A23 n23 c23], .int .i64 4] rfl ⟨⟨_, rfl, load_agg aggInt hb48 [.bool s23, .slice A23 n23 c23] rfl (Nat.le_of_ble_eq_true rfl) rfl⟩, rfl, trivial⟩ ?_
  exact ⟨_, rfl, ⟨_, _, rfl, ⟨_, _, _, _, rfl, ((((z23.ext (e26.trans e32)).updT hb37 u39).updT hb42 u44).updT hb47 u49)⟩, rfl⟩, hw9⟩
theorem g_zint_Mod_bad {w : World} {sa : Bool} {Aa : Option Addr} {na ca : Nat} {x : Int} {sb : Bool} {Ab : Option Addr} {nb cb : Nat} {y : Int} {b : Nat} (hb : b ≤ w.heap.size)  (hx : Zi w sa Aa na ca x) (la : na ≤ 68719476736) (hy : Zi w sb Ab nb cb y) (lb : nb ≤ 68719476736) (h0 : y = 0) :
    Calls Tryd.prog 15 #[.agg #[.bool sa, .slice Aa na ca], .agg #[.bool sb, .slice Ab nb cb]] w (Gv w (T2 (ZR b (0)) (Is (.int .i64 4)))) := (g_zint_Mod_badI hx la hy lb h0).mono (Gv.imp (T2.imp (ZR.imp hb) Is.imp))
set_option maxHeartbeats 4000000 in
theorem g_zint_Sym_badI {w : World} {sa : Bool} {Aa : Option Addr} {na ca : Nat} {x : Int} {sb : Bool} {Ab : Option Addr} {nb cb : Nat} {y : Int} (hx : Zi w sa Aa na ca x) (la : na ≤ 17179869184) (hy : Zi w sb Ab nb cb y) (lb : nb ≤ 17179869184) (h0 : y = 0) :
    Calls Tryd.prog 16 #[.agg #[.bool sa, .slice Aa na ca], .agg #[.bool sb, .slice Ab nb cb]] w (Gv w (T2 (ZR w.heap.size (0)) (Is (.int .i64 4)))) := by
  have Lx : ln x ≤ 17179869184 := Nat.le_trans hx.ln la
  have Ly : ln y ≤ 17179869184 := Nat.le_trans hy.ln lb
  refine sx_enter Tryd.func16 rfl (n := 30) rfl (Nat.le_of_ble_eq_true rfl) (args := [.agg #[.bool sa, .slice Aa na ca], .agg #[.bool sb, .slice Ab nb cb]]) ?_
  refine cw_keep [(0, .agg #[.bool sa, .slice Aa na ca]), (1, .agg #[.bool sb, .slice Ab nb cb])] ⟨rfl, rfl, trivial⟩ ?_
  refine cw_seq ?_
  refine cw_region ?_
  refine wl_box rfl rfl (vs := [.bool sa, .slice Aa na ca]) rfl (by decide) fun g1 v2 nb => ?_
  have hb4 := nb.bk
  have ge5 : w.heap.size ≤ g1 := by rw [← nb.at_]; exact (Ext.refl w).size
  have e3 := nb.ext
  clear nb
  have hw1 : Ext w v2 := (Ext.refl w).trans e3
  refine wl_box rfl rfl (vs := [.bool sb, .slice Ab nb cb]) rfl (by decide) fun g6 v7 nb => ?_
  have hb9 := nb.bk
  have ge10 : w.heap.size ≤ g6 := by rw [← nb.at_]; exact hw1.size
  have q11 : g1 < g6 := by rw [← nb.at_]; exact hb4.lt
  have e8 := nb.ext
  clear nb
  have hw2 : Ext w v7 := hw1.trans e8
  refine wl_alloc rfl (z := .agg #[.bool false, .slice none 0 0]) (vs := [.bool false, .slice none 0 0]) (fun _ => by kernel_rfl) rfl (by decide) fun g12 v13 nb => ?_
  have hb15 := nb.bk
  have ge16 : w.heap.size ≤ g12 := by rw [← nb.at_]; exact hw2.size
  have q17 : g6 < g12 := by rw [← nb.at_]; exact hb9.lt
  have e14 := nb.ext
  clear nb
  have hw3 : Ext w v13 := hw2.trans e14
  refine wl_assign rfl rfl (by decide) ?_
  refine wl_nil ?_
  refine eo_then ?_
  refine cw_seq ?_
  refine cw_region ?_
  refine wl_load rfl rfl (load_agg aggInt (hb4.ext (e8.trans e14)) [.bool sa, .slice Aa na ca] rfl (Nat.le_of_ble_eq_true rfl) rfl) (by decide) ?_
  refine wl_load rfl rfl (load_agg aggInt (hb9.ext e14) [.bool sb, .slice Ab nb cb] rfl (Nat.le_of_ble_eq_true rfl) rfl) (by decide) ?_
  refine wl_call rfl rfl (vs := [.agg #[.bool sa, .slice Aa na ca], .agg #[.bool sb, .slice Ab nb cb]]) (by kernel_rfl) (by decide) (g_zint_Mod_bad hw3.size (hx.ext hw3) (Nat.le_trans la (by decide)) (hy.ext hw3) (Nat.le_trans lb (by decide)) h0) ?_
  rintro _ v18 ⟨xr20, rfl, r20, e19⟩
  refine ret_intro ?_
  have hw4 : Ext w v18 := hw3.trans e19
  obtain ⟨a21_0, a21_1, rfl, r21_0, r21_1⟩ := r20
  obtain ⟨s22, A22, n22, c22, rfl, z22⟩ := r21_0
  obtain rfl := r21_1
  refine wl_move rfl rfl (by decide) ?_
  refine wl_pure rfl rfl (v := .agg #[.bool s22, .slice A22 n22 c22]) (by decide) (by kernel_rfl) ?_
  refine wl_pure rfl rfl (v := .int .i64 4) (by decide) (by kernel_rfl) ?_
  refine wl_alloc rfl (z := .agg #[.bool false, .slice none 0 0]) (vs := [.bool false, .slice none 0 0]) (fun _ => by kernel_rfl) rfl (by decide) fun g23 v24 nb => ?_
  have hb26 := nb.bk
  have ge27 : w.heap.size ≤ g23 := by rw [← nb.at_]; exact hw4.size
  have q28 : g12 < g23 := by rw [← nb.at_]; exact (hb15.ext e19).lt
  have e25 := nb.ext
  clear nb
  have hw5 : Ext w v24 := hw4.trans e25
  have hb30 := hb26
  refine wl_stored rfl rfl rfl aggInt rfl hb30 (Nat.le_of_ble_eq_true rfl) rfl [.bool s22, .slice A22 n22 c22] rfl fun v29 hb31 u32 hs33 => ?_
  have hw6 : Ext w v29 := u32.ext hw5 ge27
  refine wl_assign rfl rfl (by decide) ?_
  refine wl_nil ?_
  refine eo_then ?_
  refine cw_seq ?_
  refine cw_seq ?_
  refine cw_draw mix 10 [] [Is (.int .i64 4), Is (.bool false), Is (.bool false), Is (undef), Is (undef), Is (undef), Is (undef), Is (undef), Is (undef), Is (.bool false)] [[], [0], [1], [2], [2], [2, 3, 4], [2], [2, 5, 6], [2, 7], [2, 8]] [[], [0], [0, 1], [0, 1, 2], [0, 1, 2], [0, 1, 2, 3, 4], [0, 1, 2], [0, 1, 2, 3, 4, 5, 6], [0, 1, 2, 3, 4, 5, 6, 7], [0, 1, 2, 3, 4, 5, 6, 7, 8]] rfl
    (obs_cons rfl rfl (hob rfl rfl ?_) (obs_cons rfl rfl (hob rfl rfl ?_) (obs_cons rfl rfl (hob rfl rfl ?_) (obs_cons rfl rfl (hob rfl rfl ?_) (obs_cons rfl rfl (hob rfl rfl ?_) (obs_cons rfl rfl (hob rfl rfl ?_) (obs_cons rfl rfl (hob rfl rfl ?_) (obs_cons rfl rfl (hob rfl rfl ?_) (obs_cons rfl rfl (hob rfl rfl ?_) (obs_cons rfl rfl (hob rfl rfl ?_) obs_nil)))))))))) ?_
  · -- 0
    intro v34 e35
    have hw7 : Ext w v34 := hw6.trans e35
    refine deps_nil ?_
    refine wl_move rfl rfl (by decide) ?_
    exact pi_done rfl (Ext.refl _) rfl
  · -- 1
    intro v36 e37
    have hw7 : Ext w v36 := hw6.trans e37
    refine deps_cons rfl rfl fun x38 y39 h40 e41 f42 => ?_
    obtain rfl := h40
    refine deps_nil ?_
    refine wl_cmp rfl rfl rfl false (by decide) (by decide) ?_
    exact pi_done rfl (Ext.refl _) rfl
  · -- 2
    intro v43 e44
    have hw7 : Ext w v43 := hw6.trans e44
    refine deps_cons rfl rfl fun x45 y46 h47 e48 f49 => ?_
    obtain rfl := h47
    refine deps_nil ?_
    refine wl_move rfl rfl (by decide) ?_
    exact pi_done rfl (Ext.refl _) rfl
  · -- 3
    intro v50 e51
    have hw7 : Ext w v50 := hw6.trans e51
    refine deps_cons rfl rfl fun x52 y53 h54 e55 f56 => ?_
    obtain rfl := h54
    refine deps_nil ?_
    refine wl_off rfl (by decide) ?_
    exact pi_done rfl (Ext.refl _) rfl
  · -- 4
    intro v57 e58
    have hw7 : Ext w v57 := hw6.trans e58
    refine deps_cons rfl rfl fun x59 y60 h61 e62 f63 => ?_
    obtain rfl := h61
    refine deps_nil ?_
    refine wl_off rfl (by decide) ?_
    exact pi_done rfl (Ext.refl _) rfl
  · -- 5
    intro v64 e65
    have hw7 : Ext w v64 := hw6.trans e65
    refine deps_cons rfl rfl fun x66 y67 h68 e69 f70 => ?_
    obtain rfl := h68
    refine deps_cons rfl rfl fun x71 y72 h73 e74 f75 => ?_
    obtain rfl := h73
    refine deps_cons rfl rfl fun x76 y77 h78 e79 f80 => ?_
    obtain rfl := h78
    refine deps_nil ?_
    refine wl_off rfl (by decide) ?_
    exact pi_done rfl (Ext.refl _) rfl
  · -- 6
    intro v81 e82
    have hw7 : Ext w v81 := hw6.trans e82
    refine deps_cons rfl rfl fun x83 y84 h85 e86 f87 => ?_
    obtain rfl := h85
    refine deps_nil ?_
    refine wl_off rfl (by decide) ?_
    exact pi_done rfl (Ext.refl _) rfl
  · -- 7
    intro v88 e89
    have hw7 : Ext w v88 := hw6.trans e89
    refine deps_cons rfl rfl fun x90 y91 h92 e93 f94 => ?_
    obtain rfl := h92
    refine deps_cons rfl rfl fun x95 y96 h97 e98 f99 => ?_
    obtain rfl := h97
    refine deps_cons rfl rfl fun x100 y101 h102 e103 f104 => ?_
    obtain rfl := h102
    refine deps_nil ?_
    refine wl_off rfl (by decide) ?_
    exact pi_done rfl (Ext.refl _) rfl
  · -- 8
    intro v105 e106
    have hw7 : Ext w v105 := hw6.trans e106
    refine deps_cons rfl rfl fun x107 y108 h109 e110 f111 => ?_
    obtain rfl := h109
    refine deps_cons rfl rfl fun x112 y113 h114 e115 f116 => ?_
    obtain rfl := h114
    refine deps_nil ?_
    refine wl_off rfl (by decide) ?_
    exact pi_done rfl (Ext.refl _) rfl
  · -- 9
    intro v117 e118
    have hw7 : Ext w v117 := hw6.trans e118
    refine deps_cons rfl rfl fun x119 y120 h121 e122 f123 => ?_
    obtain rfl := h121
    refine deps_cons rfl rfl fun x124 y125 h126 e127 f128 => ?_
    obtain rfl := h126
    refine deps_nil ?_
    refine wl_pure rfl rfl (v := .bool false) (by decide) (by kernel_rfl) ?_
    exact pi_done rfl (Ext.refl _) rfl
  · -- all
    intro v129 e130
    have hw7 : Ext w v129 := hw6.trans e130
    refine deps_cons rfl rfl fun x131 y132 h133 e134 f135 => ?_
    obtain rfl := h133
    refine deps_cons rfl rfl fun x136 y137 h138 e139 f140 => ?_
    obtain rfl := h138
    refine deps_cons rfl rfl fun x141 y142 h143 e144 f145 => ?_
    obtain rfl := h143
    refine deps_cons rfl rfl fun x146 y147 h148 e149 f150 => ?_
    obtain rfl := h148
    refine deps_cons rfl rfl fun x151 y152 h153 e154 f155 => ?_
    obtain rfl := h153
    refine deps_cons rfl rfl fun x156 y157 h158 e159 f160 => ?_
    obtain rfl := h158
    refine deps_cons rfl rfl fun x161 y162 h163 e164 f165 => ?_
    obtain rfl := h163
    refine deps_cons rfl rfl fun x166 y167 h168 e169 f170 => ?_
    obtain rfl := h168
    refine deps_cons rfl rfl fun x171 y172 h173 e174 f175 => ?_
    obtain rfl := h173
    refine deps_cons rfl rfl fun x176 y177 h178 e179 f180 => ?_
    obtain rfl := h178
    refine deps_nil ?_
    refine wl_nil ?_
    refine eo_np ?_
    refine eo_then ?_
    refine cw_false rfl ?_
    refine cw_skip ?_
    refine eo_then ?_
    refine cw_seq ?_
    refine cw_region ?_
    refine wl_load rfl rfl (load_agg aggInt (hb31.ext e130) [.bool s22, .slice A22 n22 c22] rfl (Nat.le_of_ble_eq_true rfl) rfl) (by decide) ?_
    refine wl_move rfl rfl (by decide) ?_
    have hb182 := (((hb15.ext (e19.trans e25)).updN u32 (by omega)).ext e130)
    refine wl_stored rfl rfl rfl aggInt rfl hb182 (Nat.le_of_ble_eq_true rfl) rfl [.bool s22, .slice A22 n22 c22] rfl fun v181 hb183 u184 hs185 => ?_
    have hw8 : Ext w v181 := u184.ext hw7 ge16
    refine wl_assign rfl rfl (by decide) ?_
    refine wl_nil ?_
    refine eo_then ?_
    refine cw_ret ?_
    refine eo_ret [.agg #[.bool s22, .slice A22 n22 c22], .int .i64 4] rfl ⟨⟨_, rfl, load_agg aggInt hb183 [.bool s22, .slice A22 n22 c22] rfl (Nat.le_of_ble_eq_true rfl) rfl⟩, rfl, trivial⟩ ?_
    exact ⟨_, rfl, ⟨_, _, rfl, ⟨_, _, _, _, rfl, ((((z22.ext e25).updT hb30 u32).ext e130).updT hb182 u184)⟩, rfl⟩, hw8⟩
theorem g_zint_Sym_bad {w : World} {sa : Bool} {Aa : Option Addr} {na ca : Nat} {x : Int} {sb : Bool} {Ab : Option Addr} {nb cb : Nat} {y : Int} {b : Nat} (hb : b ≤ w.heap.size)  (hx : Zi w sa Aa na ca x) (la : na ≤ 17179869184) (hy : Zi w sb Ab nb cb y) (lb : nb ≤ 17179869184) (h0 : y = 0) :
    Calls Tryd.prog 16 #[.agg #[.bool sa, .slice Aa na ca], .agg #[.bool sb, .slice Ab nb cb]] w (Gv w (T2 (ZR b (0)) (Is (.int .i64 4)))) := (g_zint_Sym_badI hx la hy lb h0).mono (Gv.imp (T2.imp (ZR.imp hb) Is.imp))
set_option maxHeartbeats 4000000 in
theorem g_zint_Sym_bigI {w : World} {sa : Bool} {Aa : Option Addr} {na ca : Nat} {x : Int} {sb : Bool} {Ab : Option Addr} {nb cb : Nat} {y : Int} (hx : Zi w sa Aa na ca x) (la : na ≤ 17179869184) (hy : Zi w sb Ab nb cb y) (lb : nb ≤ 17179869184) (h0 : y ≠ 0) (hgt : (y.natAbs : Int) < x % y + x % y) :
    Calls Tryd.prog 16 #[.agg #[.bool sa, .slice Aa na ca], .agg #[.bool sb, .slice Ab nb cb]] w (Gv w (T2 (ZR w.heap.size (x % y - (Int.natAbs y : Int))) (Is (.int .i64 0)))) := by
  have Lx : ln x ≤ 17179869184 := Nat.le_trans hx.ln la
  have Ly : ln y ≤ 17179869184 := Nat.le_trans hy.ln lb
  refine sx_enter Tryd.func16 rfl (n := 30) rfl (Nat.le_of_ble_eq_true rfl) (args := [.agg #[.bool sa, .slice Aa na ca], .agg #[.bool sb, .slice Ab nb cb]]) ?_
  refine cw_keep [(0, .agg #[.bool sa, .slice Aa na ca]), (1, .agg #[.bool sb, .slice Ab nb cb])] ⟨rfl, rfl, trivial⟩ ?_
  refine cw_seq ?_
  refine cw_region ?_
  refine wl_box rfl rfl (vs := [.bool sa, .slice Aa na ca]) rfl (by decide) fun g1 v2 nb => ?_
  have hb4 := nb.bk
  have ge5 : w.heap.size ≤ g1 := by rw [← nb.at_]; exact (Ext.refl w).size
  have e3 := nb.ext
  clear nb
  have hw1 : Ext w v2 := (Ext.refl w).trans e3
  refine wl_box rfl rfl (vs := [.bool sb, .slice Ab nb cb]) rfl (by decide) fun g6 v7 nb => ?_
  have hb9 := nb.bk
  have ge10 : w.heap.size ≤ g6 := by rw [← nb.at_]; exact hw1.size
  have q11 : g1 < g6 := by rw [← nb.at_]; exact hb4.lt
  have e8 := nb.ext
  clear nb
  have hw2 : Ext w v7 := hw1.trans e8
  refine wl_alloc rfl (z := .agg #[.bool false, .slice none 0 0]) (vs := [.bool false, .slice none 0 0]) (fun _ => by kernel_rfl) rfl (by decide) fun g12 v13 nb => ?_
  have hb15 := nb.bk
  have ge16 : w.heap.size ≤ g12 := by rw [← nb.at_]; exact hw2.size
  have q17 : g6 < g12 := by rw [← nb.at_]; exact hb9.lt
  have e14 := nb.ext
  clear nb
  have hw3 : Ext w v13 := hw2.trans e14
  refine wl_assign rfl rfl (by decide) ?_
  refine wl_nil ?_
  refine eo_then ?_
  refine cw_seq ?_
  refine cw_region ?_
  refine wl_load rfl rfl (load_agg aggInt (hb4.ext (e8.trans e14)) [.bool sa, .slice Aa na ca] rfl (Nat.le_of_ble_eq_true rfl) rfl) (by decide) ?_
  refine wl_load rfl rfl (load_agg aggInt (hb9.ext e14) [.bool sb, .slice Ab nb cb] rfl (Nat.le_of_ble_eq_true rfl) rfl) (by decide) ?_
  have L18 : ln (x % y) ≤ 17179869184 := Nat.le_trans (ln_emod h0) Ly
  refine wl_call rfl rfl (vs := [.agg #[.bool sa, .slice Aa na ca], .agg #[.bool sb, .slice Ab nb cb]]) (by kernel_rfl) (by decide) (g_zint_Mod hw3.size (hx.ext hw3) (Nat.le_trans la (by decide)) (hy.ext hw3) (Nat.le_trans lb (by decide)) h0) ?_
  rintro _ v19 ⟨xr21, rfl, r21, e20⟩
  refine ret_intro ?_
  have hw4 : Ext w v19 := hw3.trans e20
  obtain ⟨a22_0, a22_1, rfl, r22_0, r22_1⟩ := r21
  obtain ⟨s23, A23, n23, c23, rfl, z23⟩ := r22_0
  obtain rfl := r22_1
  refine wl_move rfl rfl (by decide) ?_
  refine wl_pure rfl rfl (v := .agg #[.bool s23, .slice A23 n23 c23]) (by decide) (by kernel_rfl) ?_
  refine wl_pure rfl rfl (v := .int .i64 0) (by decide) (by kernel_rfl) ?_
  refine wl_alloc rfl (z := .agg #[.bool false, .slice none 0 0]) (vs := [.bool false, .slice none 0 0]) (fun _ => by kernel_rfl) rfl (by decide) fun g24 v25 nb => ?_
  have hb27 := nb.bk
  have ge28 : w.heap.size ≤ g24 := by rw [← nb.at_]; exact hw4.size
  have q29 : g12 < g24 := by rw [← nb.at_]; exact (hb15.ext e20).lt
  have e26 := nb.ext
  clear nb
  have hw5 : Ext w v25 := hw4.trans e26
  have hb31 := hb27
  refine wl_stored rfl rfl rfl aggInt rfl hb31 (Nat.le_of_ble_eq_true rfl) rfl [.bool s23, .slice A23 n23 c23] rfl fun v30 hb32 u33 hs34 => ?_
  have hw6 : Ext w v30 := u33.ext hw5 ge28
  refine wl_assign rfl rfl (by decide) ?_
  refine wl_nil ?_
  refine eo_then ?_
  refine cw_seq ?_
  refine cw_seq ?_
  have L35 : ln ((x % y) + (x % y)) ≤ 17179869185 := Nat.le_trans (ln_add L18 L18) (by decide)
  refine cw_draw mix 10 [] [Is (.int .i64 0), Is (.bool true), Is (.bool true), Is (.agg #[.bool s23, .slice A23 n23 c23]), Is (.agg #[.bool s23, .slice A23 n23 c23]), ZR w.heap.size ((x % y) + (x % y)), Is (.agg #[.bool sb, .slice Ab nb cb]), Is (.int .i64 (cmp3 (Int.natAbs ((x % y) + (x % y))) (Int.natAbs y))), Is (.bool true), Is (.bool true)] [[], [0], [1], [2], [2], [2, 3, 4], [2], [2, 5, 6], [2, 7], [2, 8]] [[], [0], [0, 1], [0, 1, 2], [0, 1, 2], [0, 1, 2, 3, 4], [0, 1, 2], [0, 1, 2, 3, 4, 5, 6], [0, 1, 2, 3, 4, 5, 6, 7], [0, 1, 2, 3, 4, 5, 6, 7, 8]] rfl
    (obs_cons rfl rfl (hob rfl rfl ?_) (obs_cons rfl rfl (hob rfl rfl ?_) (obs_cons rfl rfl (hob rfl rfl ?_) (obs_cons rfl rfl (hob rfl rfl ?_) (obs_cons rfl rfl (hob rfl rfl ?_) (obs_cons rfl rfl (hob rfl rfl ?_) (obs_cons rfl rfl (hob rfl rfl ?_) (obs_cons rfl rfl (hob rfl rfl ?_) (obs_cons rfl rfl (hob rfl rfl ?_) (obs_cons rfl rfl (hob rfl rfl ?_) obs_nil)))))))))) ?_
  · -- 0
    intro v37 e38
    have hw7 : Ext w v37 := hw6.trans e38
    refine deps_nil ?_
    refine wl_move rfl rfl (by decide) ?_
    exact pi_done rfl (Ext.refl _) rfl
  · -- 1
    intro v39 e40
    have hw7 : Ext w v39 := hw6.trans e40
    refine deps_cons rfl rfl fun x41 y42 h43 e44 f45 => ?_
    obtain rfl := h43
    refine deps_nil ?_
    refine wl_cmp rfl rfl rfl true (by decide) (by decide) ?_
    exact pi_done rfl (Ext.refl _) rfl
  · -- 2
    intro v46 e47
    have hw7 : Ext w v46 := hw6.trans e47
    refine deps_cons rfl rfl fun x48 y49 h50 e51 f52 => ?_
    obtain rfl := h50
    refine deps_nil ?_
    refine wl_move rfl rfl (by decide) ?_
    exact pi_done rfl (Ext.refl _) rfl
  · -- 3
    intro v53 e54
    have hw7 : Ext w v53 := hw6.trans e54
    refine deps_cons rfl rfl fun x55 y56 h57 e58 f59 => ?_
    obtain rfl := h57
    refine deps_nil ?_
    refine wl_load rfl rfl (load_agg aggInt (hb32.ext e54) [.bool s23, .slice A23 n23 c23] rfl (Nat.le_of_ble_eq_true rfl) rfl) (by decide) ?_
    exact pi_done rfl (Ext.refl _) rfl
  · -- 4
    intro v60 e61
    have hw7 : Ext w v60 := hw6.trans e61
    refine deps_cons rfl rfl fun x62 y63 h64 e65 f66 => ?_
    obtain rfl := h64
    refine deps_nil ?_
    refine wl_load rfl rfl (load_agg aggInt (hb32.ext e61) [.bool s23, .slice A23 n23 c23] rfl (Nat.le_of_ble_eq_true rfl) rfl) (by decide) ?_
    exact pi_done rfl (Ext.refl _) rfl
  · -- 5
    intro v67 e68
    have hw7 : Ext w v67 := hw6.trans e68
    refine deps_cons rfl rfl fun x69 y70 h71 e72 f73 => ?_
    obtain rfl := h71
    refine deps_cons rfl rfl fun x74 y75 h76 e77 f78 => ?_
    obtain rfl := h76
    refine deps_cons rfl rfl fun x79 y80 h81 e82 f83 => ?_
    obtain rfl := h81
    refine deps_nil ?_
    have L84 : ln ((x % y) + (x % y)) ≤ 17179869185 := Nat.le_trans (ln_add L18 L18) (by decide)
    refine wl_call rfl rfl (vs := [.agg #[.bool s23, .slice A23 n23 c23], .agg #[.bool s23, .slice A23 n23 c23]]) (by kernel_rfl) (by decide) (g_zint_Add hw7.size (((z23.ext e26).updT hb31 u33).ext e68).zi (z23.le (Nat.le_trans L18 (by decide))) (((z23.ext e26).updT hb31 u33).ext e68).zi (z23.le (Nat.le_trans L18 (by decide)))) ?_
    rintro _ v85 ⟨xr87, rfl, r87, e86⟩
    refine ret_intro ?_
    have hw8 : Ext w v85 := hw7.trans e86
    obtain ⟨s88, A88, n88, c88, rfl, z88⟩ := r87
    exact pi_done rfl e86 ⟨_, _, _, _, rfl, z88⟩
  · -- 6
    intro v89 e90
    have hw7 : Ext w v89 := hw6.trans e90
    refine deps_cons rfl rfl fun x91 y92 h93 e94 f95 => ?_
    obtain rfl := h93
    refine deps_nil ?_
    refine wl_load rfl rfl (load_agg aggInt (((hb9.ext (e14.trans (e20.trans e26))).updN u33 (by omega)).ext e90) [.bool sb, .slice Ab nb cb] rfl (Nat.le_of_ble_eq_true rfl) rfl) (by decide) ?_
    exact pi_done rfl (Ext.refl _) rfl
  · -- 7
    intro v96 e97
    have hw7 : Ext w v96 := hw6.trans e97
    refine deps_cons rfl rfl fun x98 y99 h100 e101 f102 => ?_
    obtain rfl := h100
    refine deps_cons rfl rfl fun x103 y104 h105 e106 f107 => ?_
    obtain ⟨s108, A108, n108, c108, rfl, z108⟩ := h105
    have z108 := z108.ext f107
    refine deps_cons rfl rfl fun x109 y110 h111 e112 f113 => ?_
    obtain rfl := h111
    refine deps_nil ?_
    refine wl_call rfl rfl (vs := [.agg #[.bool s108, .slice A108 n108 c108], .agg #[.bool sb, .slice Ab nb cb]]) (by kernel_rfl) (by decide) (g_zint_CmpAbs z108.zi (z108.le (Nat.le_trans L35 (by decide))) (hy.ext hw7) (Nat.le_trans lb (by decide))) ?_
    rintro _ v114 ⟨xr116, rfl, r116, e115⟩
    refine ret_intro ?_
    have hw8 : Ext w v114 := hw7.trans e115
    obtain rfl := r116
    exact pi_done rfl e115 rfl
  · -- 8
    intro v117 e118
    have hw7 : Ext w v117 := hw6.trans e118
    refine deps_cons rfl rfl fun x119 y120 h121 e122 f123 => ?_
    obtain rfl := h121
    refine deps_cons rfl rfl fun x124 y125 h126 e127 f128 => ?_
    obtain rfl := h126
    refine deps_nil ?_
    refine wl_cmp rfl rfl rfl true (cmp3_gt5t (by have := hgt; have := Int.emod_nonneg x h0; omega)) (by decide) ?_
    exact pi_done rfl (Ext.refl _) rfl
  · -- 9
    intro v129 e130
    have hw7 : Ext w v129 := hw6.trans e130
    refine deps_cons rfl rfl fun x131 y132 h133 e134 f135 => ?_
    obtain rfl := h133
    refine deps_cons rfl rfl fun x136 y137 h138 e139 f140 => ?_
    obtain rfl := h138
    refine deps_nil ?_
    refine wl_pure rfl rfl (v := .bool true) (by decide) (by kernel_rfl) ?_
    exact pi_done rfl (Ext.refl _) rfl
  · -- all
    intro v141 e142
    have hw7 : Ext w v141 := hw6.trans e142
    refine deps_cons rfl rfl fun x143 y144 h145 e146 f147 => ?_
    obtain rfl := h145
    refine deps_cons rfl rfl fun x148 y149 h150 e151 f152 => ?_
    obtain rfl := h150
    refine deps_cons rfl rfl fun x153 y154 h155 e156 f157 => ?_
    obtain rfl := h155
    refine deps_cons rfl rfl fun x158 y159 h160 e161 f162 => ?_
    obtain rfl := h160
    refine deps_cons rfl rfl fun x163 y164 h165 e166 f167 => ?_
    obtain rfl := h165
    refine deps_cons rfl rfl fun x168 y169 h170 e171 f172 => ?_
    obtain ⟨s173, A173, n173, c173, rfl, z173⟩ := h170
    have z173 := z173.ext f172
    refine deps_cons rfl rfl fun x174 y175 h176 e177 f178 => ?_
    obtain rfl := h176
    refine deps_cons rfl rfl fun x179 y180 h181 e182 f183 => ?_
    obtain rfl := h181
    refine deps_cons rfl rfl fun x184 y185 h186 e187 f188 => ?_
    obtain rfl := h186
    refine deps_cons rfl rfl fun x189 y190 h191 e192 f193 => ?_
    obtain rfl := h191
    refine deps_nil ?_
    refine wl_nil ?_
    refine eo_np ?_
    refine eo_then ?_
    refine cw_true rfl ?_
    have L194 : ln ((Int.natAbs y : Int)) ≤ 17179869184 := (by rw [ln_abs]; exact Ly)
    have L196 : ln ((x % y) - (Int.natAbs y : Int)) ≤ 17179869185 := Nat.le_trans (ln_sub L18 L194) (by decide)
    refine cw_draw mix 4 [] [Is (.agg #[.bool s23, .slice A23 n23 c23]), Is (.agg #[.bool sb, .slice Ab nb cb]), ZR w.heap.size ((Int.natAbs y : Int)), ZR w.heap.size ((x % y) - (Int.natAbs y : Int))] [[], [], [1], [0, 2]] [[], [], [1], [0, 1, 2], [0, 1, 2, 3]] rfl
      (obs_cons rfl rfl (hob rfl rfl ?_) (obs_cons rfl rfl (hob rfl rfl ?_) (obs_cons rfl rfl (hob rfl rfl ?_) (obs_cons rfl rfl (hob rfl rfl ?_) obs_nil)))) ?_
    · -- 0
      intro v198 e199
      have hw8 : Ext w v198 := hw7.trans e199
      refine deps_nil ?_
      refine wl_load rfl rfl (load_agg aggInt (hb32.ext (e142.trans e199)) [.bool s23, .slice A23 n23 c23] rfl (Nat.le_of_ble_eq_true rfl) rfl) (by decide) ?_
      exact pi_done rfl (Ext.refl _) rfl
    · -- 1
      intro v200 e201
      have hw8 : Ext w v200 := hw7.trans e201
      refine deps_nil ?_
      refine wl_load rfl rfl (load_agg aggInt (((hb9.ext (e14.trans (e20.trans e26))).updN u33 (by omega)).ext (e142.trans e201)) [.bool sb, .slice Ab nb cb] rfl (Nat.le_of_ble_eq_true rfl) rfl) (by decide) ?_
      exact pi_done rfl (Ext.refl _) rfl
    · -- 2
      intro v202 e203
      have hw8 : Ext w v202 := hw7.trans e203
      refine deps_cons rfl rfl fun x204 y205 h206 e207 f208 => ?_
      obtain rfl := h206
      refine deps_nil ?_
      have L209 : ln ((Int.natAbs y : Int)) ≤ 17179869184 := (by rw [ln_abs]; exact Ly)
      refine wl_call rfl rfl (vs := [.agg #[.bool sb, .slice Ab nb cb]]) (by kernel_rfl) (by decide) (g_zint_Abs hw8.size (hy.ext hw8) (Nat.le_trans lb (by decide))) ?_
      rintro _ v210 ⟨xr212, rfl, r212, e211⟩
      refine ret_intro ?_
      have hw9 : Ext w v210 := hw8.trans e211
      obtain ⟨s213, A213, n213, c213, rfl, z213⟩ := r212
      exact pi_done rfl e211 ⟨_, _, _, _, rfl, z213⟩
    · -- 3
      intro v214 e215
      have hw8 : Ext w v214 := hw7.trans e215
      refine deps_cons rfl rfl fun x216 y217 h218 e219 f220 => ?_
      obtain rfl := h218
      refine deps_cons rfl rfl fun x221 y222 h223 e224 f225 => ?_
      obtain ⟨s226, A226, n226, c226, rfl, z226⟩ := h223
      have z226 := z226.ext f225
      refine deps_nil ?_
      have L227 : ln ((x % y) - (Int.natAbs y : Int)) ≤ 17179869185 := Nat.le_trans (ln_sub L18 L194) (by decide)
      refine wl_call rfl rfl (vs := [.agg #[.bool s23, .slice A23 n23 c23], .agg #[.bool s226, .slice A226 n226 c226]]) (by kernel_rfl) (by decide) (g_zint_Sub hw8.size (((z23.ext e26).updT hb31 u33).ext (e142.trans e215)).zi (z23.le (Nat.le_trans L18 (by decide))) z226.zi (z226.le (Nat.le_trans L194 (by decide)))) ?_
      rintro _ v228 ⟨xr230, rfl, r230, e229⟩
      refine ret_intro ?_
      have hw9 : Ext w v228 := hw8.trans e229
      obtain ⟨s231, A231, n231, c231, rfl, z231⟩ := r230
      exact pi_done rfl e229 ⟨_, _, _, _, rfl, z231⟩
    · -- all
      intro v232 e233
      have hw8 : Ext w v232 := hw7.trans e233
      refine deps_cons rfl rfl fun x234 y235 h236 e237 f238 => ?_
      obtain rfl := h236
      refine deps_cons rfl rfl fun x239 y240 h241 e242 f243 => ?_
      obtain rfl := h241
      refine deps_cons rfl rfl fun x244 y245 h246 e247 f248 => ?_
      obtain ⟨s249, A249, n249, c249, rfl, z249⟩ := h246
      have z249 := z249.ext f248
      refine deps_cons rfl rfl fun x250 y251 h252 e253 f254 => ?_
      obtain ⟨s255, A255, n255, c255, rfl, z255⟩ := h252
      have z255 := z255.ext f254
      refine deps_nil ?_
      have hb257 := (hb32.ext (e142.trans e233))
      refine wl_stored rfl rfl rfl aggInt rfl hb257 (Nat.le_of_ble_eq_true rfl) rfl [.bool s255, .slice A255 n255 c255] rfl fun v256 hb258 u259 hs260 => ?_
      have hw9 : Ext w v256 := u259.ext hw8 ge28
      refine wl_nil ?_
      refine eo_np ?_
      refine eo_then ?_
      refine cw_seq ?_
      refine cw_region ?_
      refine wl_load rfl rfl (load_agg aggInt hb258 [.bool s255, .slice A255 n255 c255] rfl (Nat.le_of_ble_eq_true rfl) rfl) (by decide) ?_
      refine wl_move rfl rfl (by decide) ?_
      have hb262 := ((((hb15.ext (e20.trans e26)).updN u33 (by omega)).ext (e142.trans e233)).updN u259 (by omega))
      refine wl_stored rfl rfl rfl aggInt rfl hb262 (Nat.le_of_ble_eq_true rfl) rfl [.bool s255, .slice A255 n255 c255] rfl fun v261 hb263 u264 hs265 => ?_
      have hw10 : Ext w v261 := u264.ext hw9 ge16
      refine wl_assign rfl rfl (by decide) ?_
      refine wl_nil ?_
      refine eo_then ?_
      refine cw_ret ?_
      refine eo_ret [.agg #[.bool s255, .slice A255 n255 c255], .int .i64 0] rfl ⟨⟨_, rfl, load_agg aggInt hb263 [.bool s255, .slice A255 n255 c255] rfl (Nat.le_of_ble_eq_true rfl) rfl⟩, rfl, trivial⟩ ?_
      exact ⟨_, rfl, ⟨_, _, rfl, ⟨_, _, _, _, rfl, (((z255.updT hb257 u259).updT hb262 u264)).cast (rfl)⟩, rfl⟩, hw10⟩
theorem g_zint_Sym_big {w : World} {sa : Bool} {Aa : Option Addr} {na ca : Nat} {x : Int} {sb : Bool} {Ab : Option Addr} {nb cb : Nat} {y : Int} {b : Nat} (hb : b ≤ w.heap.size)  (hx : Zi w sa Aa na ca x) (la : na ≤ 17179869184) (hy : Zi w sb Ab nb cb y) (lb : nb ≤ 17179869184) (h0 : y ≠ 0) (hgt : (y.natAbs : Int) < x % y + x % y) :
    Calls Tryd.prog 16 #[.agg #[.bool sa, .slice Aa na ca], .agg #[.bool sb, .slice Ab nb cb]] w (Gv w (T2 (ZR b (x % y - (Int.natAbs y : Int))) (Is (.int .i64 0)))) := (g_zint_Sym_bigI hx la hy lb h0 hgt).mono (Gv.imp (T2.imp (ZR.imp hb) Is.imp))
set_option maxHeartbeats 4000000 in
theorem g_zint_Sym_smallI {w : World} {sa : Bool} {Aa : Option Addr} {na ca : Nat} {x : Int} {sb : Bool} {Ab : Option Addr} {nb cb : Nat} {y : Int} (hx : Zi w sa Aa na ca x) (la : na ≤ 17179869184) (hy : Zi w sb Ab nb cb y) (lb : nb ≤ 17179869184) (h0 : y ≠ 0) (hgt : x % y + x % y ≤ (y.natAbs : Int)) :
    Calls Tryd.prog 16 #[.agg #[.bool sa, .slice Aa na ca], .agg #[.bool sb, .slice Ab nb cb]] w (Gv w (T2 (ZR w.heap.size (x % y)) (Is (.int .i64 0)))) := by
  have Lx : ln x ≤ 17179869184 := Nat.le_trans hx.ln la
  have Ly : ln y ≤ 17179869184 := Nat.le_trans hy.ln lb
  refine sx_enter Tryd.func16 rfl (n := 30) rfl (Nat.le_of_ble_eq_true rfl) (args := [.agg #[.bool sa, .slice Aa na ca], .agg #[.bool sb, .slice Ab nb cb]]) ?_
  refine cw_keep [(0, .agg #[.bool sa, .slice Aa na ca]), (1, .agg #[.bool sb, .slice Ab nb cb])] ⟨rfl, rfl, trivial⟩ ?_
  refine cw_seq ?_
  refine cw_region ?_
  refine wl_box rfl rfl (vs := [.bool sa, .slice Aa na ca]) rfl (by decide) fun g1 v2 nb => ?_
  have hb4 := nb.bk
  have ge5 : w.heap.size ≤ g1 := by rw [← nb.at_]; exact (Ext.refl w).size
  have e3 := nb.ext
  clear nb
  have hw1 : Ext w v2 := (Ext.refl w).trans e3
  refine wl_box rfl rfl (vs := [.bool sb, .slice Ab nb cb]) rfl (by decide) fun g6 v7 nb => ?_
  have hb9 := nb.bk
  have ge10 : w.heap.size ≤ g6 := by rw [← nb.at_]; exact hw1.size
  have q11 : g1 < g6 := by rw [← nb.at_]; exact hb4.lt
  have e8 := nb.ext
  clear nb
  have hw2 : Ext w v7 := hw1.trans e8
  refine wl_alloc rfl (z := .agg #[.bool false, .slice none 0 0]) (vs := [.bool false, .slice none 0 0]) (fun _ => by kernel_rfl) rfl (by decide) fun g12 v13 nb => ?_
  have hb15 := nb.bk
  have ge16 : w.heap.size ≤ g12 := by rw [← nb.at_]; exact hw2.size
  have q17 : g6 < g12 := by rw [← nb.at_]; exact hb9.lt
  have e14 := nb.ext
  clear nb
  have hw3 : Ext w v13 := hw2.trans e14
  refine wl_assign rfl rfl (by decide) ?_
  refine wl_nil ?_
  refine eo_then ?_
  refine cw_seq ?_
  refine cw_region ?_
  refine wl_load rfl rfl (load_agg aggInt (hb4.ext (e8.trans e14)) [.bool sa, .slice Aa na ca] rfl (Nat.le_of_ble_eq_true rfl) rfl) (by decide) ?_
  refine wl_load rfl rfl (load_agg aggInt (hb9.ext e14) [.bool sb, .slice Ab nb cb] rfl (Nat.le_of_ble_eq_true rfl) rfl) (by decide) ?_
  have L18 : ln (x % y) ≤ 17179869184 := Nat.le_trans (ln_emod h0) Ly
  refine wl_call rfl rfl (vs := [.agg #[.bool sa, .slice Aa na ca], .agg #[.bool sb, .slice Ab nb cb]]) (by kernel_rfl) (by decide) (g_zint_Mod hw3.size (hx.ext hw3) (Nat.le_trans la (by decide)) (hy.ext hw3) (Nat.le_trans lb (by decide)) h0) ?_
  rintro _ v19 ⟨xr21, rfl, r21, e20⟩
  refine ret_intro ?_
  have hw4 : Ext w v19 := hw3.trans e20
  obtain ⟨a22_0, a22_1, rfl, r22_0, r22_1⟩ := r21
  obtain ⟨s23, A23, n23, c23, rfl, z23⟩ := r22_0
  obtain rfl := r22_1
  refine wl_move rfl rfl (by decide) ?_
  refine wl_pure rfl rfl (v := .agg #[.bool s23, .slice A23 n23 c23]) (by decide) (by kernel_rfl) ?_
  refine wl_pure rfl rfl (v := .int .i64 0) (by decide) (by kernel_rfl) ?_
  refine wl_alloc rfl (z := .agg #[.bool false, .slice none 0 0]) (vs := [.bool false, .slice none 0 0]) (fun _ => by kernel_rfl) rfl (by decide) fun g24 v25 nb => ?_
  have hb27 := nb.bk
  have ge28 : w.heap.size ≤ g24 := by rw [← nb.at_]; exact hw4.size
  have q29 : g12 < g24 := by rw [← nb.at_]; exact (hb15.ext e20).lt
  have e26 := nb.ext
  clear nb
  have hw5 : Ext w v25 := hw4.trans e26
  have hb31 := hb27
  refine wl_stored rfl rfl rfl aggInt rfl hb31 (Nat.le_of_ble_eq_true rfl) rfl [.bool s23, .slice A23 n23 c23] rfl fun v30 hb32 u33 hs34 => ?_
  have hw6 : Ext w v30 := u33.ext hw5 ge28
  refine wl_assign rfl rfl (by decide) ?_
  refine wl_nil ?_
  refine eo_then ?_
  refine cw_seq ?_
  refine cw_seq ?_
  have L35 : ln ((x % y) + (x % y)) ≤ 17179869185 := Nat.le_trans (ln_add L18 L18) (by decide)
  refine cw_draw mix 10 [] [Is (.int .i64 0), Is (.bool true), Is (.bool true), Is (.agg #[.bool s23, .slice A23 n23 c23]), Is (.agg #[.bool s23, .slice A23 n23 c23]), ZR w.heap.size ((x % y) + (x % y)), Is (.agg #[.bool sb, .slice Ab nb cb]), Is (.int .i64 (cmp3 (Int.natAbs ((x % y) + (x % y))) (Int.natAbs y))), Is (.bool false), Is (.bool false)] [[], [0], [1], [2], [2], [2, 3, 4], [2], [2, 5, 6], [2, 7], [2, 8]] [[], [0], [0, 1], [0, 1, 2], [0, 1, 2], [0, 1, 2, 3, 4], [0, 1, 2], [0, 1, 2, 3, 4, 5, 6], [0, 1, 2, 3, 4, 5, 6, 7], [0, 1, 2, 3, 4, 5, 6, 7, 8]] rfl
    (obs_cons rfl rfl (hob rfl rfl ?_) (obs_cons rfl rfl (hob rfl rfl ?_) (obs_cons rfl rfl (hob rfl rfl ?_) (obs_cons rfl rfl (hob rfl rfl ?_) (obs_cons rfl rfl (hob rfl rfl ?_) (obs_cons rfl rfl (hob rfl rfl ?_) (obs_cons rfl rfl (hob rfl rfl ?_) (obs_cons rfl rfl (hob rfl rfl ?_) (obs_cons rfl rfl (hob rfl rfl ?_) (obs_cons rfl rfl (hob rfl rfl ?_) obs_nil)))))))))) ?_
  · -- 0
    intro v37 e38
    have hw7 : Ext w v37 := hw6.trans e38
    refine deps_nil ?_
    refine wl_move rfl rfl (by decide) ?_
    exact pi_done rfl (Ext.refl _) rfl
  · -- 1
    intro v39 e40
    have hw7 : Ext w v39 := hw6.trans e40
    refine deps_cons rfl rfl fun x41 y42 h43 e44 f45 => ?_
    obtain rfl := h43
    refine deps_nil ?_
    refine wl_cmp rfl rfl rfl true (by decide) (by decide) ?_
    exact pi_done rfl (Ext.refl _) rfl
  · -- 2
    intro v46 e47
    have hw7 : Ext w v46 := hw6.trans e47
    refine deps_cons rfl rfl fun x48 y49 h50 e51 f52 => ?_
    obtain rfl := h50
    refine deps_nil ?_
    refine wl_move rfl rfl (by decide) ?_
    exact pi_done rfl (Ext.refl _) rfl
  · -- 3
    intro v53 e54
    have hw7 : Ext w v53 := hw6.trans e54
    refine deps_cons rfl rfl fun x55 y56 h57 e58 f59 => ?_
    obtain rfl := h57
    refine deps_nil ?_
    refine wl_load rfl rfl (load_agg aggInt (hb32.ext e54) [.bool s23, .slice A23 n23 c23] rfl (Nat.le_of_ble_eq_true rfl) rfl) (by decide) ?_
    exact pi_done rfl (Ext.refl _) rfl
  · -- 4
    intro v60 e61
    have hw7 : Ext w v60 := hw6.trans e61
    refine deps_cons rfl rfl fun x62 y63 h64 e65 f66 => ?_
    obtain rfl := h64
    refine deps_nil ?_
    refine wl_load rfl rfl (load_agg aggInt (hb32.ext e61) [.bool s23, .slice A23 n23 c23] rfl (Nat.le_of_ble_eq_true rfl) rfl) (by decide) ?_
    exact pi_done rfl (Ext.refl _) rfl
  · -- 5
    intro v67 e68
    have hw7 : Ext w v67 := hw6.trans e68
    refine deps_cons rfl rfl fun x69 y70 h71 e72 f73 => ?_
    obtain rfl := h71
    refine deps_cons rfl rfl fun x74 y75 h76 e77 f78 => ?_
    obtain rfl := h76
    refine deps_cons rfl rfl fun x79 y80 h81 e82 f83 => ?_
    obtain rfl := h81
    refine deps_nil ?_
    have L84 : ln ((x % y) + (x % y)) ≤ 17179869185 := Nat.le_trans (ln_add L18 L18) (by decide)
    refine wl_call rfl rfl (vs := [.agg #[.bool s23, .slice A23 n23 c23], .agg #[.bool s23, .slice A23 n23 c23]]) (by kernel_rfl) (by decide) (g_zint_Add hw7.size (((z23.ext e26).updT hb31 u33).ext e68).zi (z23.le (Nat.le_trans L18 (by decide))) (((z23.ext e26).updT hb31 u33).ext e68).zi (z23.le (Nat.le_trans L18 (by decide)))) ?_
    rintro _ v85 ⟨xr87, rfl, r87, e86⟩
    refine ret_intro ?_
    have hw8 : Ext w v85 := hw7.trans e86
    obtain ⟨s88, A88, n88, c88, rfl, z88⟩ := r87
    exact pi_done rfl e86 ⟨_, _, _, _, rfl, z88⟩
  · -- 6
    intro v89 e90
    have hw7 : Ext w v89 := hw6.trans e90
    refine deps_cons rfl rfl fun x91 y92 h93 e94 f95 => ?_
    obtain rfl := h93
    refine deps_nil ?_
    refine wl_load rfl rfl (load_agg aggInt (((hb9.ext (e14.trans (e20.trans e26))).updN u33 (by omega)).ext e90) [.bool sb, .slice Ab nb cb] rfl (Nat.le_of_ble_eq_true rfl) rfl) (by decide) ?_
    exact pi_done rfl (Ext.refl _) rfl
  · -- 7
    intro v96 e97
    have hw7 : Ext w v96 := hw6.trans e97
    refine deps_cons rfl rfl fun x98 y99 h100 e101 f102 => ?_
    obtain rfl := h100
    refine deps_cons rfl rfl fun x103 y104 h105 e106 f107 => ?_
    obtain ⟨s108, A108, n108, c108, rfl, z108⟩ := h105
    have z108 := z108.ext f107
    refine deps_cons rfl rfl fun x109 y110 h111 e112 f113 => ?_
    obtain rfl := h111
    refine deps_nil ?_
    refine wl_call rfl rfl (vs := [.agg #[.bool s108, .slice A108 n108 c108], .agg #[.bool sb, .slice Ab nb cb]]) (by kernel_rfl) (by decide) (g_zint_CmpAbs z108.zi (z108.le (Nat.le_trans L35 (by decide))) (hy.ext hw7) (Nat.le_trans lb (by decide))) ?_
    rintro _ v114 ⟨xr116, rfl, r116, e115⟩
    refine ret_intro ?_
    have hw8 : Ext w v114 := hw7.trans e115
    obtain rfl := r116
    exact pi_done rfl e115 rfl
  · -- 8
    intro v117 e118
    have hw7 : Ext w v117 := hw6.trans e118
    refine deps_cons rfl rfl fun x119 y120 h121 e122 f123 => ?_
    obtain rfl := h121
    refine deps_cons rfl rfl fun x124 y125 h126 e127 f128 => ?_
    obtain rfl := h126
    refine deps_nil ?_
    refine wl_cmp rfl rfl rfl false (cmp3_gt5f (by have := hgt; have := Int.emod_nonneg x h0; omega)) (by decide) ?_
    exact pi_done rfl (Ext.refl _) rfl
  · -- 9
    intro v129 e130
    have hw7 : Ext w v129 := hw6.trans e130
    refine deps_cons rfl rfl fun x131 y132 h133 e134 f135 => ?_
    obtain rfl := h133
    refine deps_cons rfl rfl fun x136 y137 h138 e139 f140 => ?_
    obtain rfl := h138
    refine deps_nil ?_
    refine wl_pure rfl rfl (v := .bool false) (by decide) (by kernel_rfl) ?_
    exact pi_done rfl (Ext.refl _) rfl
  · -- all
    intro v141 e142
    have hw7 : Ext w v141 := hw6.trans e142
    refine deps_cons rfl rfl fun x143 y144 h145 e146 f147 => ?_
    obtain rfl := h145
    refine deps_cons rfl rfl fun x148 y149 h150 e151 f152 => ?_
    obtain rfl := h150
    refine deps_cons rfl rfl fun x153 y154 h155 e156 f157 => ?_
    obtain rfl := h155
    refine deps_cons rfl rfl fun x158 y159 h160 e161 f162 => ?_
    obtain rfl := h160
    refine deps_cons rfl rfl fun x163 y164 h165 e166 f167 => ?_
    obtain rfl := h165
    refine deps_cons rfl rfl fun x168 y169 h170 e171 f172 => ?_
    obtain ⟨s173, A173, n173, c173, rfl, z173⟩ := h170
    have z173 := z173.ext f172
    refine deps_cons rfl rfl fun x174 y175 h176 e177 f178 => ?_
    obtain rfl := h176
    refine deps_cons rfl rfl fun x179 y180 h181 e182 f183 => ?_
    obtain rfl := h181
    refine deps_cons rfl rfl fun x184 y185 h186 e187 f188 => ?_
    obtain rfl := h186
    refine deps_cons rfl rfl fun x189 y190 h191 e192 f193 => ?_
    obtain rfl := h191
    refine deps_nil ?_
    refine wl_nil ?_
    refine eo_np ?_
    refine eo_then ?_
    refine cw_false rfl ?_
    refine cw_skip ?_
    refine eo_then ?_
    refine cw_seq ?_
    refine cw_region ?_
    refine wl_load rfl rfl (load_agg aggInt (hb32.ext e142) [.bool s23, .slice A23 n23 c23] rfl (Nat.le_of_ble_eq_true rfl) rfl) (by decide) ?_
    refine wl_move rfl rfl (by decide) ?_
    have hb195 := (((hb15.ext (e20.trans e26)).updN u33 (by omega)).ext e142)
    refine wl_stored rfl rfl rfl aggInt rfl hb195 (Nat.le_of_ble_eq_true rfl) rfl [.bool s23, .slice A23 n23 c23] rfl fun v194 hb196 u197 hs198 => ?_
    have hw8 : Ext w v194 := u197.ext hw7 ge16
    refine wl_assign rfl rfl (by decide) ?_
    refine wl_nil ?_
    refine eo_then ?_
    refine cw_ret ?_
    refine eo_ret [.agg #[.bool s23, .slice A23 n23 c23], .int .i64 0] rfl ⟨⟨_, rfl, load_agg aggInt hb196 [.bool s23, .slice A23 n23 c23] rfl (Nat.le_of_ble_eq_true rfl) rfl⟩, rfl, trivial⟩ ?_
    exact ⟨_, rfl, ⟨_, _, rfl, ⟨_, _, _, _, rfl, ((((z23.ext e26).updT hb31 u33).ext e142).updT hb195 u197)⟩, rfl⟩, hw8⟩
theorem g_zint_Sym_small {w : World} {sa : Bool} {Aa : Option Addr} {na ca : Nat} {x : Int} {sb : Bool} {Ab : Option Addr} {nb cb : Nat} {y : Int} {b : Nat} (hb : b ≤ w.heap.size)  (hx : Zi w sa Aa na ca x) (la : na ≤ 17179869184) (hy : Zi w sb Ab nb cb y) (lb : nb ≤ 17179869184) (h0 : y ≠ 0) (hgt : x % y + x % y ≤ (y.natAbs : Int)) :
    Calls Tryd.prog 16 #[.agg #[.bool sa, .slice Aa na ca], .agg #[.bool sb, .slice Ab nb cb]] w (Gv w (T2 (ZR b (x % y)) (Is (.int .i64 0)))) := (g_zint_Sym_smallI hx la hy lb h0 hgt).mono (Gv.imp (T2.imp (ZR.imp hb) Is.imp))
set_option maxHeartbeats 8000000 in
set_option maxRecDepth 20000 in
theorem law_ZintResidues {w : World} {sa : Bool} {Aa : Option Addr} {na ca : Nat} {x : Int} {sb : Bool} {Ab : Option Addr} {nb cb : Nat} {y : Int} {sf : Bool} {Af : Option Addr} {nf cf : Nat} {z : Int} (hx : Zi w sa Aa na ca x) (la : na ≤ 1048576) (hy : Zi w sb Ab nb cb y) (lb : nb ≤ 1048576) (hz : Zi w sf Af nf cf z) (lf : nf ≤ 1048576) (hS : Signs w) :
    Calls Tryd.prog 3 #[.agg #[.bool sa, .slice Aa na ca], .agg #[.bool sb, .slice Ab nb cb], .agg #[.bool sf, .slice Af nf cf]] w (BoolP true w) := by
  have Lx : ln x ≤ 1048576 := Nat.le_trans hx.ln la
  have Ly : ln y ≤ 1048576 := Nat.le_trans hy.ln lb
  have Lz : ln z ≤ 1048576 := Nat.le_trans hz.ln lf
  refine sx_enter Tryd.func3 rfl (n := 170) rfl (Nat.le_of_ble_eq_true rfl) (args := [.agg #[.bool sa, .slice Aa na ca], .agg #[.bool sb, .slice Ab nb cb], .agg #[.bool sf, .slice Af nf cf]]) ?_
  refine cw_keep [(0, .agg #[.bool sa, .slice Aa na ca]), (1, .agg #[.bool sb, .slice Ab nb cb]), (2, .agg #[.bool sf, .slice Af nf cf])] ⟨rfl, rfl, rfl, trivial⟩ ?_
  refine cw_seq ?_
  refine cw_region ?_
  refine wl_box rfl rfl (vs := [.bool sa, .slice Aa na ca]) rfl (by decide) fun g1 v2 nb => ?_
  have hb4 := nb.bk
  have ge5 : w.heap.size ≤ g1 := by rw [← nb.at_]; exact (Ext.refl w).size
  have e3 := nb.ext
  clear nb
  have hw1 : Ext w v2 := (Ext.refl w).trans e3
  refine wl_box rfl rfl (vs := [.bool sb, .slice Ab nb cb]) rfl (by decide) fun g6 v7 nb => ?_
  have hb9 := nb.bk
  have ge10 : w.heap.size ≤ g6 := by rw [← nb.at_]; exact hw1.size
  have q11 : g1 < g6 := by rw [← nb.at_]; exact hb4.lt
  have e8 := nb.ext
  clear nb
  have hw2 : Ext w v7 := hw1.trans e8
  refine wl_box rfl rfl (vs := [.bool sf, .slice Af nf cf]) rfl (by decide) fun g12 v13 nb => ?_
  have hb15 := nb.bk
  have ge16 : w.heap.size ≤ g12 := by rw [← nb.at_]; exact hw2.size
  have q17 : g6 < g12 := by rw [← nb.at_]; exact hb9.lt
  have e14 := nb.ext
  clear nb
  have hw3 : Ext w v13 := hw2.trans e14
  refine wl_assign rfl rfl (by decide) ?_
  refine wl_nil ?_
  refine eo_then ?_
  refine cw_seq ?_
  refine cw_seq ?_
  refine cw_region ?_
  refine wl_call rfl rfl (vs := []) (by kernel_rfl) (by decide) (g_law5_awake (hS.ext hw3)) ?_
  rintro _ v18 ⟨xr20, rfl, r20, e19⟩
  refine ret_intro ?_
  have hw4 : Ext w v18 := hw3.trans e19
  obtain rfl := r20
  refine wl_pure rfl rfl (v := .bool false) (by decide) (by kernel_rfl) ?_
  refine wl_nil ?_
  refine eo_then ?_
  refine cw_false rfl ?_
  refine cw_skip ?_
  refine eo_then ?_
  refine cw_seq ?_
  by_cases h0 : z = 0
  ·
    refine cw_region ?_
    refine wl_load rfl rfl (load_agg aggInt (hb4.ext (e8.trans (e14.trans e19))) [.bool sa, .slice Aa na ca] rfl (Nat.le_of_ble_eq_true rfl) rfl) (by decide) ?_
    refine wl_load rfl rfl (load_agg aggInt (hb15.ext e19) [.bool sf, .slice Af nf cf] rfl (Nat.le_of_ble_eq_true rfl) rfl) (by decide) ?_
    refine wl_call rfl rfl (vs := [.agg #[.bool sa, .slice Aa na ca], .agg #[.bool sf, .slice Af nf cf]]) (by kernel_rfl) (by decide) (g_zint_Mod_bad hw4.size (hx.ext hw4) (Nat.le_trans la (by decide)) (hz.ext hw4) (Nat.le_trans lf (by decide)) h0) ?_
    rintro _ v21 ⟨xr23, rfl, r23, e22⟩
    refine ret_intro ?_
    have hw5 : Ext w v21 := hw4.trans e22
    obtain ⟨a24_0, a24_1, rfl, r24_0, r24_1⟩ := r23
    obtain ⟨s25, A25, n25, c25, rfl, z25⟩ := r24_0
    obtain rfl := r24_1
    refine wl_move rfl rfl (by decide) ?_
    refine wl_pure rfl rfl (v := .agg #[.bool s25, .slice A25 n25 c25]) (by decide) (by kernel_rfl) ?_
    refine wl_pure rfl rfl (v := .int .i64 4) (by decide) (by kernel_rfl) ?_
    refine wl_alloc rfl (z := .agg #[.bool false, .slice none 0 0]) (vs := [.bool false, .slice none 0 0]) (fun _ => by kernel_rfl) rfl (by decide) fun g26 v27 nb => ?_
    have hb29 := nb.bk
    have ge30 : w.heap.size ≤ g26 := by rw [← nb.at_]; exact hw5.size
    have q31 : g12 < g26 := by rw [← nb.at_]; exact (hb15.ext (e19.trans e22)).lt
    have e28 := nb.ext
    clear nb
    have hw6 : Ext w v27 := hw5.trans e28
    have hb33 := hb29
    refine wl_stored rfl rfl rfl aggInt rfl hb33 (Nat.le_of_ble_eq_true rfl) rfl [.bool s25, .slice A25 n25 c25] rfl fun v32 hb34 u35 hs36 => ?_
    have hw7 : Ext w v32 := u35.ext hw6 ge30
    refine wl_assign rfl rfl (by decide) ?_
    refine wl_nil ?_
    refine eo_then ?_
    refine cw_seq ?_
    refine cw_region ?_
    refine wl_load rfl rfl (load_agg aggInt ((hb4.ext (e8.trans (e14.trans (e19.trans (e22.trans e28))))).updN u35 (by omega)) [.bool sa, .slice Aa na ca] rfl (Nat.le_of_ble_eq_true rfl) rfl) (by decide) ?_
    refine wl_load rfl rfl (load_agg aggInt ((hb15.ext (e19.trans (e22.trans e28))).updN u35 (by omega)) [.bool sf, .slice Af nf cf] rfl (Nat.le_of_ble_eq_true rfl) rfl) (by decide) ?_
    refine wl_call rfl rfl (vs := [.agg #[.bool sa, .slice Aa na ca], .agg #[.bool sf, .slice Af nf cf]]) (by kernel_rfl) (by decide) (g_zint_Sym_bad hw7.size (hx.ext hw7) (Nat.le_trans la (by decide)) (hz.ext hw7) (Nat.le_trans lf (by decide)) h0) ?_
    rintro _ v37 ⟨xr39, rfl, r39, e38⟩
    refine ret_intro ?_
    have hw8 : Ext w v37 := hw7.trans e38
    obtain ⟨a40_0, a40_1, rfl, r40_0, r40_1⟩ := r39
    obtain ⟨s41, A41, n41, c41, rfl, z41⟩ := r40_0
    obtain rfl := r40_1
    refine wl_move rfl rfl (by decide) ?_
    refine wl_pure rfl rfl (v := .agg #[.bool s41, .slice A41 n41 c41]) (by decide) (by kernel_rfl) ?_
    refine wl_pure rfl rfl (v := .int .i64 4) (by decide) (by kernel_rfl) ?_
    refine wl_alloc rfl (z := .agg #[.bool false, .slice none 0 0]) (vs := [.bool false, .slice none 0 0]) (fun _ => by kernel_rfl) rfl (by decide) fun g42 v43 nb => ?_
    have hb45 := nb.bk
    have ge46 : w.heap.size ≤ g42 := by rw [← nb.at_]; exact hw8.size
    have q47 : g26 < g42 := by rw [← nb.at_]; exact (hb34.ext e38).lt
    have e44 := nb.ext
    clear nb
    have hw9 : Ext w v43 := hw8.trans e44
    have hb49 := hb45
    refine wl_stored rfl rfl rfl aggInt rfl hb49 (Nat.le_of_ble_eq_true rfl) rfl [.bool s41, .slice A41 n41 c41] rfl fun v48 hb50 u51 hs52 => ?_
    have hw10 : Ext w v48 := u51.ext hw9 ge46
    refine wl_assign rfl rfl (by decide) ?_
    refine wl_nil ?_
    refine eo_then ?_
    refine cw_seq ?_
    refine cw_seq ?_
    refine cw_region ?_
    refine wl_load rfl rfl (load_agg aggInt ((((hb15.ext (e19.trans (e22.trans e28))).updN u35 (by omega)).ext (e38.trans e44)).updN u51 (by omega)) [.bool sf, .slice Af nf cf] rfl (Nat.le_of_ble_eq_true rfl) rfl) (by decide) ?_
    refine wl_call rfl rfl (vs := [.agg #[.bool sf, .slice Af nf cf]]) (by kernel_rfl) (by decide) (g_zint_Sign (hz.ext hw10) (Nat.le_trans lf (by decide))) ?_
    rintro _ v53 ⟨xr55, rfl, r55, e54⟩
    refine ret_intro ?_
    have hw11 : Ext w v53 := hw10.trans e54
    obtain rfl := r55
    refine wl_cmp rfl rfl rfl true (scmp_eq_t h0) (by decide) ?_
    refine wl_nil ?_
    refine eo_then ?_
    refine cw_true rfl ?_
    refine cw_seq ?_
    refine cw_region ?_
    refine wl_move rfl rfl (by decide) ?_
    refine wl_cmp rfl rfl rfl true (by decide) (by decide) ?_
    refine wl_move rfl rfl (by decide) ?_
    refine wl_move rfl rfl (by decide) ?_
    refine wl_cmp rfl rfl rfl true (by decide) (by decide) ?_
    refine wl_pure rfl rfl (v := .bool true) (by decide) (by kernel_rfl) ?_
    refine wl_assign rfl rfl (by decide) ?_
    refine wl_nil ?_
    refine eo_then ?_
    refine cw_ret ?_
    refine eo_thenR ?_
    refine eo_ret [.bool true] rfl ⟨rfl, trivial⟩ ?_
    exact bool_of _ _ ⟨_, rfl, rfl, hw11⟩
  ·
    have h0n : -z ≠ 0 := by omega
    by_cases hgt : x % z + x % z ≤ (z.natAbs : Int)
    ·
      refine cw_region ?_
      refine wl_load rfl rfl (load_agg aggInt (hb4.ext (e8.trans (e14.trans e19))) [.bool sa, .slice Aa na ca] rfl (Nat.le_of_ble_eq_true rfl) rfl) (by decide) ?_
      refine wl_load rfl rfl (load_agg aggInt (hb15.ext e19) [.bool sf, .slice Af nf cf] rfl (Nat.le_of_ble_eq_true rfl) rfl) (by decide) ?_
      have L56 : ln (x % z) ≤ 1048576 := Nat.le_trans (ln_emod h0) Lz
      refine wl_call rfl rfl (vs := [.agg #[.bool sa, .slice Aa na ca], .agg #[.bool sf, .slice Af nf cf]]) (by kernel_rfl) (by decide) (g_zint_Mod hw4.size (hx.ext hw4) (Nat.le_trans la (by decide)) (hz.ext hw4) (Nat.le_trans lf (by decide)) h0) ?_
      rintro _ v57 ⟨xr59, rfl, r59, e58⟩
      refine ret_intro ?_
      have hw5 : Ext w v57 := hw4.trans e58
      obtain ⟨a60_0, a60_1, rfl, r60_0, r60_1⟩ := r59
      obtain ⟨s61, A61, n61, c61, rfl, z61⟩ := r60_0
      obtain rfl := r60_1
      refine wl_move rfl rfl (by decide) ?_
      refine wl_pure rfl rfl (v := .agg #[.bool s61, .slice A61 n61 c61]) (by decide) (by kernel_rfl) ?_
      refine wl_pure rfl rfl (v := .int .i64 0) (by decide) (by kernel_rfl) ?_
      refine wl_alloc rfl (z := .agg #[.bool false, .slice none 0 0]) (vs := [.bool false, .slice none 0 0]) (fun _ => by kernel_rfl) rfl (by decide) fun g62 v63 nb => ?_
      have hb65 := nb.bk
      have ge66 : w.heap.size ≤ g62 := by rw [← nb.at_]; exact hw5.size
      have q67 : g12 < g62 := by rw [← nb.at_]; exact (hb15.ext (e19.trans e58)).lt
      have e64 := nb.ext
      clear nb
      have hw6 : Ext w v63 := hw5.trans e64
      have hb69 := hb65
      refine wl_stored rfl rfl rfl aggInt rfl hb69 (Nat.le_of_ble_eq_true rfl) rfl [.bool s61, .slice A61 n61 c61] rfl fun v68 hb70 u71 hs72 => ?_
      have hw7 : Ext w v68 := u71.ext hw6 ge66
      refine wl_assign rfl rfl (by decide) ?_
      refine wl_nil ?_
      refine eo_then ?_
      refine cw_seq ?_
      refine cw_region ?_
      refine wl_load rfl rfl (load_agg aggInt ((hb4.ext (e8.trans (e14.trans (e19.trans (e58.trans e64))))).updN u71 (by omega)) [.bool sa, .slice Aa na ca] rfl (Nat.le_of_ble_eq_true rfl) rfl) (by decide) ?_
      refine wl_load rfl rfl (load_agg aggInt ((hb15.ext (e19.trans (e58.trans e64))).updN u71 (by omega)) [.bool sf, .slice Af nf cf] rfl (Nat.le_of_ble_eq_true rfl) rfl) (by decide) ?_
      have L73 : ln (x % z) ≤ 1048576 := Nat.le_trans (ln_emod h0) Lz
      refine wl_call rfl rfl (vs := [.agg #[.bool sa, .slice Aa na ca], .agg #[.bool sf, .slice Af nf cf]]) (by kernel_rfl) (by decide) (g_zint_Sym_small hw7.size (hx.ext hw7) (Nat.le_trans la (by decide)) (hz.ext hw7) (Nat.le_trans lf (by decide)) h0 hgt) ?_
      rintro _ v74 ⟨xr76, rfl, r76, e75⟩
      refine ret_intro ?_
      have hw8 : Ext w v74 := hw7.trans e75
      obtain ⟨a77_0, a77_1, rfl, r77_0, r77_1⟩ := r76
      obtain ⟨s78, A78, n78, c78, rfl, z78⟩ := r77_0
      obtain rfl := r77_1
      refine wl_move rfl rfl (by decide) ?_
      refine wl_pure rfl rfl (v := .agg #[.bool s78, .slice A78 n78 c78]) (by decide) (by kernel_rfl) ?_
      refine wl_pure rfl rfl (v := .int .i64 0) (by decide) (by kernel_rfl) ?_
      refine wl_alloc rfl (z := .agg #[.bool false, .slice none 0 0]) (vs := [.bool false, .slice none 0 0]) (fun _ => by kernel_rfl) rfl (by decide) fun g79 v80 nb => ?_
      have hb82 := nb.bk
      have ge83 : w.heap.size ≤ g79 := by rw [← nb.at_]; exact hw8.size
      have q84 : g62 < g79 := by rw [← nb.at_]; exact (hb70.ext e75).lt
      have e81 := nb.ext
      clear nb
      have hw9 : Ext w v80 := hw8.trans e81
      have hb86 := hb82
      refine wl_stored rfl rfl rfl aggInt rfl hb86 (Nat.le_of_ble_eq_true rfl) rfl [.bool s78, .slice A78 n78 c78] rfl fun v85 hb87 u88 hs89 => ?_
      have hw10 : Ext w v85 := u88.ext hw9 ge83
      refine wl_assign rfl rfl (by decide) ?_
      refine wl_nil ?_
      refine eo_then ?_
      refine cw_seq ?_
      refine cw_seq ?_
      refine cw_region ?_
      refine wl_load rfl rfl (load_agg aggInt ((((hb15.ext (e19.trans (e58.trans e64))).updN u71 (by omega)).ext (e75.trans e81)).updN u88 (by omega)) [.bool sf, .slice Af nf cf] rfl (Nat.le_of_ble_eq_true rfl) rfl) (by decide) ?_
      refine wl_call rfl rfl (vs := [.agg #[.bool sf, .slice Af nf cf]]) (by kernel_rfl) (by decide) (g_zint_Sign (hz.ext hw10) (Nat.le_trans lf (by decide))) ?_
      rintro _ v90 ⟨xr92, rfl, r92, e91⟩
      refine ret_intro ?_
      have hw11 : Ext w v90 := hw10.trans e91
      obtain rfl := r92
      refine wl_cmp rfl rfl rfl false (scmp_eq_f h0) (by decide) ?_
      refine wl_nil ?_
      refine eo_then ?_
      refine cw_false rfl ?_
      refine cw_skip ?_
      refine eo_then ?_
      refine cw_seq ?_
      refine cw_region ?_
      refine wl_load rfl rfl (load_agg aggInt (((((hb9.ext (e14.trans (e19.trans (e58.trans e64)))).updN u71 (by omega)).ext (e75.trans e81)).updN u88 (by omega)).ext e91) [.bool sb, .slice Ab nb cb] rfl (Nat.le_of_ble_eq_true rfl) rfl) (by decide) ?_
      refine wl_load rfl rfl (load_agg aggInt (((((hb15.ext (e19.trans (e58.trans e64))).updN u71 (by omega)).ext (e75.trans e81)).updN u88 (by omega)).ext e91) [.bool sf, .slice Af nf cf] rfl (Nat.le_of_ble_eq_true rfl) rfl) (by decide) ?_
      have L93 : ln (y % z) ≤ 1048576 := Nat.le_trans (ln_emod h0) Lz
      refine wl_call rfl rfl (vs := [.agg #[.bool sb, .slice Ab nb cb], .agg #[.bool sf, .slice Af nf cf]]) (by kernel_rfl) (by decide) (g_zint_Mod hw11.size (hy.ext hw11) (Nat.le_trans lb (by decide)) (hz.ext hw11) (Nat.le_trans lf (by decide)) h0) ?_
      rintro _ v94 ⟨xr96, rfl, r96, e95⟩
      refine ret_intro ?_
      have hw12 : Ext w v94 := hw11.trans e95
      obtain ⟨a97_0, a97_1, rfl, r97_0, r97_1⟩ := r96
      obtain ⟨s98, A98, n98, c98, rfl, z98⟩ := r97_0
      obtain rfl := r97_1
      refine wl_move rfl rfl (by decide) ?_
      refine wl_pure rfl rfl (v := .agg #[.bool s98, .slice A98 n98 c98]) (by decide) (by kernel_rfl) ?_
      refine wl_pure rfl rfl (v := .int .i64 0) (by decide) (by kernel_rfl) ?_
      refine wl_alloc rfl (z := .agg #[.bool false, .slice none 0 0]) (vs := [.bool false, .slice none 0 0]) (fun _ => by kernel_rfl) rfl (by decide) fun g99 v100 nb => ?_
      have hb102 := nb.bk
      have ge103 : w.heap.size ≤ g99 := by rw [← nb.at_]; exact hw12.size
      have q104 : g79 < g99 := by rw [← nb.at_]; exact (hb87.ext (e91.trans e95)).lt
      have e101 := nb.ext
      clear nb
      have hw13 : Ext w v100 := hw12.trans e101
      have hb106 := hb102
      refine wl_stored rfl rfl rfl aggInt rfl hb106 (Nat.le_of_ble_eq_true rfl) rfl [.bool s98, .slice A98 n98 c98] rfl fun v105 hb107 u108 hs109 => ?_
      have hw14 : Ext w v105 := u108.ext hw13 ge103
      refine wl_assign rfl rfl (by decide) ?_
      refine wl_nil ?_
      refine eo_then ?_
      refine cw_seq ?_
      refine cw_seq ?_
      refine cw_region ?_
      refine wl_move rfl rfl (by decide) ?_
      refine wl_cmp rfl rfl rfl false (by decide) (by decide) ?_
      refine wl_move rfl rfl (by decide) ?_
      refine wl_move rfl rfl (by decide) ?_
      refine wl_cmp rfl rfl rfl false (by decide) (by decide) ?_
      refine wl_pure rfl rfl (v := .bool false) (by decide) (by kernel_rfl) ?_
      refine wl_move rfl rfl (by decide) ?_
      refine wl_move rfl rfl (by decide) ?_
      refine wl_cmp rfl rfl rfl false (by decide) (by decide) ?_
      refine wl_pure rfl rfl (v := .bool false) (by decide) (by kernel_rfl) ?_
      refine wl_move rfl rfl (by decide) ?_
      refine wl_load rfl rfl (load_agg aggInt ((((hb70.ext (e75.trans e81)).updN u88 (by omega)).ext (e91.trans (e95.trans e101))).updN u108 (by omega)) [.bool s61, .slice A61 n61 c61] rfl (Nat.le_of_ble_eq_true rfl) rfl) (by decide) ?_
      refine wl_load rfl rfl (load_agg aggInt ((((((hb15.ext (e19.trans (e58.trans e64))).updN u71 (by omega)).ext (e75.trans e81)).updN u88 (by omega)).ext (e91.trans (e95.trans e101))).updN u108 (by omega)) [.bool sf, .slice Af nf cf] rfl (Nat.le_of_ble_eq_true rfl) rfl) (by decide) ?_
      refine wl_call rfl rfl (vs := [.agg #[.bool s61, .slice A61 n61 c61], .agg #[.bool sf, .slice Af nf cf]]) (by kernel_rfl) (by decide) (g_law5_within ((((((z61.ext e64).updT hb69 u71).ext (e75.trans e81)).updT hb86 u88).ext (e91.trans (e95.trans e101))).updT hb106 u108).zi (z61.le (Nat.le_trans L56 (by decide))) (hz.ext hw14) (Nat.le_trans lf (by decide)) (emod_in5 h0).1 (emod_in5 h0).2) ?_
      rintro _ v110 ⟨xr112, rfl, r112, e111⟩
      refine ret_intro ?_
      have hw15 : Ext w v110 := hw14.trans e111
      obtain rfl := r112
      refine wl_pure rfl rfl (v := .bool false) (by decide) (by kernel_rfl) ?_
      refine wl_pure rfl rfl (v := .bool false) (by decide) (by kernel_rfl) ?_
      refine wl_move rfl rfl (by decide) ?_
      refine wl_load rfl rfl (load_agg aggInt (hb107.ext e111) [.bool s98, .slice A98 n98 c98] rfl (Nat.le_of_ble_eq_true rfl) rfl) (by decide) ?_
      refine wl_load rfl rfl (load_agg aggInt (((((((hb15.ext (e19.trans (e58.trans e64))).updN u71 (by omega)).ext (e75.trans e81)).updN u88 (by omega)).ext (e91.trans (e95.trans e101))).updN u108 (by omega)).ext e111) [.bool sf, .slice Af nf cf] rfl (Nat.le_of_ble_eq_true rfl) rfl) (by decide) ?_
      refine wl_call rfl rfl (vs := [.agg #[.bool s98, .slice A98 n98 c98], .agg #[.bool sf, .slice Af nf cf]]) (by kernel_rfl) (by decide) (g_law5_within (((z98.ext e101).updT hb106 u108).ext e111).zi (z98.le (Nat.le_trans L93 (by decide))) (hz.ext hw15) (Nat.le_trans lf (by decide)) (emod_in5 h0).1 (emod_in5 h0).2) ?_
      rintro _ v113 ⟨xr115, rfl, r115, e114⟩
      refine ret_intro ?_
      have hw16 : Ext w v113 := hw15.trans e114
      obtain rfl := r115
      refine wl_pure rfl rfl (v := .bool false) (by decide) (by kernel_rfl) ?_
      refine wl_pure rfl rfl (v := .bool false) (by decide) (by kernel_rfl) ?_
      refine wl_nil ?_
      refine eo_then ?_
      refine cw_false rfl ?_
      refine cw_skip ?_
      refine eo_then ?_
      refine cw_seq ?_
      have L116 : ln (x * y) ≤ 2097152 := Nat.le_trans (ln_mul Lx Ly) (by decide)
      have L118 : ln ((x * y) % z) ≤ 1048576 := Nat.le_trans (ln_emod h0) Lz
      refine cw_draw mix 9 [6, 7] [Is (.agg #[.bool sa, .slice Aa na ca]), Is (.agg #[.bool sb, .slice Ab nb cb]), ZR w.heap.size (x * y), Is (.agg #[.bool sf, .slice Af nf cf]), T2 (ZR w.heap.size ((x * y) % z)) (Is (.int .i64 0)), T2 (ZR w.heap.size ((x * y) % z)) (Is (.int .i64 0)), ZR w.heap.size ((x * y) % z), Is (.int .i64 0), PR v113.heap.size 24 [.bool false, .slice none 0 0]] [[], [], [0, 1], [], [2, 3], [4], [5], [5], []] [[], [], [0, 1], [], [0, 1, 2, 3], [0, 1, 2, 3, 4], [0, 1, 2, 3, 4, 5], [0, 1, 2, 3, 4, 5], [], [0, 1, 2, 3, 4, 5, 6, 8], [0, 1, 2, 3, 4, 5, 6, 7, 8, 9]] rfl
        (obs_cons rfl rfl (hob rfl rfl ?_) (obs_cons rfl rfl (hob rfl rfl ?_) (obs_cons rfl rfl (hob rfl rfl ?_) (obs_cons rfl rfl (hob rfl rfl ?_) (obs_cons rfl rfl (hob rfl rfl ?_) (obs_cons rfl rfl (hob rfl rfl ?_) (obs_float rfl rfl (fob rfl ?_) (obs_float rfl rfl (fob rfl ?_) (obs_cons rfl rfl (hob rfl rfl ?_) obs_nil))))))))) ?_
      · -- 0
        intro v124 e125
        have hw17 : Ext w v124 := hw16.trans e125
        refine deps_nil ?_
        refine wl_load rfl rfl (load_agg aggInt (((((((hb4.ext (e8.trans (e14.trans (e19.trans (e58.trans e64))))).updN u71 (by omega)).ext (e75.trans e81)).updN u88 (by omega)).ext (e91.trans (e95.trans e101))).updN u108 (by omega)).ext (e111.trans (e114.trans e125))) [.bool sa, .slice Aa na ca] rfl (Nat.le_of_ble_eq_true rfl) rfl) (by decide) ?_
        exact pi_done rfl (Ext.refl _) rfl
      · -- 1
        intro v126 e127
        have hw17 : Ext w v126 := hw16.trans e127
        refine deps_nil ?_
        refine wl_load rfl rfl (load_agg aggInt (((((((hb9.ext (e14.trans (e19.trans (e58.trans e64)))).updN u71 (by omega)).ext (e75.trans e81)).updN u88 (by omega)).ext (e91.trans (e95.trans e101))).updN u108 (by omega)).ext (e111.trans (e114.trans e127))) [.bool sb, .slice Ab nb cb] rfl (Nat.le_of_ble_eq_true rfl) rfl) (by decide) ?_
        exact pi_done rfl (Ext.refl _) rfl
      · -- 2
        intro v128 e129
        have hw17 : Ext w v128 := hw16.trans e129
        refine deps_cons rfl rfl fun x130 y131 h132 e133 f134 => ?_
        obtain rfl := h132
        refine deps_cons rfl rfl fun x135 y136 h137 e138 f139 => ?_
        obtain rfl := h137
        refine deps_nil ?_
        have L140 : ln (x * y) ≤ 2097152 := Nat.le_trans (ln_mul Lx Ly) (by decide)
        refine wl_call rfl rfl (vs := [.agg #[.bool sa, .slice Aa na ca], .agg #[.bool sb, .slice Ab nb cb]]) (by kernel_rfl) (by decide) (g_zint_Mul hw17.size (hx.ext hw17) (Nat.le_trans la (by decide)) (hy.ext hw17) (Nat.le_trans lb (by decide))) ?_
        rintro _ v141 ⟨xr143, rfl, r143, e142⟩
        refine ret_intro ?_
        have hw18 : Ext w v141 := hw17.trans e142
        obtain ⟨s144, A144, n144, c144, rfl, z144⟩ := r143
        exact pi_done rfl e142 ⟨_, _, _, _, rfl, z144⟩
      · -- 3
        intro v145 e146
        have hw17 : Ext w v145 := hw16.trans e146
        refine deps_nil ?_
        refine wl_load rfl rfl (load_agg aggInt (((((((hb15.ext (e19.trans (e58.trans e64))).updN u71 (by omega)).ext (e75.trans e81)).updN u88 (by omega)).ext (e91.trans (e95.trans e101))).updN u108 (by omega)).ext (e111.trans (e114.trans e146))) [.bool sf, .slice Af nf cf] rfl (Nat.le_of_ble_eq_true rfl) rfl) (by decide) ?_
        exact pi_done rfl (Ext.refl _) rfl
      · -- 4
        intro v147 e148
        have hw17 : Ext w v147 := hw16.trans e148
        refine deps_cons rfl rfl fun x149 y150 h151 e152 f153 => ?_
        obtain ⟨s154, A154, n154, c154, rfl, z154⟩ := h151
        have z154 := z154.ext f153
        refine deps_cons rfl rfl fun x155 y156 h157 e158 f159 => ?_
        obtain rfl := h157
        refine deps_nil ?_
        have L160 : ln ((x * y) % z) ≤ 1048576 := Nat.le_trans (ln_emod h0) Lz
        refine wl_call rfl rfl (vs := [.agg #[.bool s154, .slice A154 n154 c154], .agg #[.bool sf, .slice Af nf cf]]) (by kernel_rfl) (by decide) (g_zint_Mod hw17.size z154.zi (z154.le (Nat.le_trans L116 (by decide))) (hz.ext hw17) (Nat.le_trans lf (by decide)) h0) ?_
        rintro _ v161 ⟨xr163, rfl, r163, e162⟩
        refine ret_intro ?_
        have hw18 : Ext w v161 := hw17.trans e162
        obtain ⟨a164_0, a164_1, rfl, r164_0, r164_1⟩ := r163
        obtain ⟨s165, A165, n165, c165, rfl, z165⟩ := r164_0
        obtain rfl := r164_1
        exact pi_done rfl e162 ⟨_, _, rfl, ⟨_, _, _, _, rfl, z165⟩, rfl⟩
      · -- 5
        intro v166 e167
        have hw17 : Ext w v166 := hw16.trans e167
        refine deps_cons rfl rfl fun x168 y169 h170 e171 f172 => ?_
        obtain ⟨a173_0, a173_1, rfl, r173_0, r173_1⟩ := h170
        obtain ⟨s174, A174, n174, c174, rfl, z174⟩ := r173_0
        obtain rfl := r173_1
        have z174 := z174.ext f172
        refine deps_nil ?_
        refine wl_move rfl rfl (by decide) ?_
        exact pi_done rfl (Ext.refl _) ⟨_, _, rfl, ⟨_, _, _, _, rfl, z174⟩, rfl⟩
      · -- 6
        intro v175 e176
        have hw17 : Ext w v175 := hw16.trans e176
        refine deps_cons rfl rfl fun x177 y178 h179 e180 f181 => ?_
        obtain ⟨a182_0, a182_1, rfl, r182_0, r182_1⟩ := h179
        obtain ⟨s183, A183, n183, c183, rfl, z183⟩ := r182_0
        obtain rfl := r182_1
        have z183 := z183.ext f181
        refine deps_nil ?_
        exact ⟨.agg #[.bool s183, .slice A183 n183 c183], rfl, rfl, fun _ => by kernel_rfl, ⟨_, _, _, _, rfl, z183⟩⟩
      · -- 7
        intro v184 e185
        have hw17 : Ext w v184 := hw16.trans e185
        refine deps_cons rfl rfl fun x186 y187 h188 e189 f190 => ?_
        obtain ⟨a191_0, a191_1, rfl, r191_0, r191_1⟩ := h188
        obtain ⟨s192, A192, n192, c192, rfl, z192⟩ := r191_0
        obtain rfl := r191_1
        have z192 := z192.ext f190
        refine deps_nil ?_
        exact ⟨.int .i64 0, rfl, rfl, fun _ => by kernel_rfl, rfl⟩
      · -- 8
        intro v193 e194
        have hw17 : Ext w v193 := hw16.trans e194
        refine deps_nil ?_
        refine wl_alloc rfl (z := .agg #[.bool false, .slice none 0 0]) (vs := [.bool false, .slice none 0 0]) (fun _ => by kernel_rfl) rfl (by decide) fun g195 v196 nb => ?_
        exact pi_done rfl nb.ext ⟨_, rfl, by rw [← nb.at_]; exact e194.size, nb.bk⟩
      · -- all
        intro v197 e198
        have hw17 : Ext w v197 := hw16.trans e198
        refine deps_cons rfl rfl fun x199 y200 h201 e202 f203 => ?_
        obtain rfl := h201
        refine deps_cons rfl rfl fun x204 y205 h206 e207 f208 => ?_
        obtain rfl := h206
        refine deps_cons rfl rfl fun x209 y210 h211 e212 f213 => ?_
        obtain ⟨s214, A214, n214, c214, rfl, z214⟩ := h211
        have z214 := z214.ext f213
        refine deps_cons rfl rfl fun x215 y216 h217 e218 f219 => ?_
        obtain rfl := h217
        refine deps_cons rfl rfl fun x220 y221 h222 e223 f224 => ?_
        obtain ⟨a225_0, a225_1, rfl, r225_0, r225_1⟩ := h222
        obtain ⟨s226, A226, n226, c226, rfl, z226⟩ := r225_0
        obtain rfl := r225_1
        have z226 := z226.ext f224
        refine deps_cons rfl rfl fun x227 y228 h229 e230 f231 => ?_
        obtain ⟨a232_0, a232_1, rfl, r232_0, r232_1⟩ := h229
        obtain ⟨s233, A233, n233, c233, rfl, z233⟩ := r232_0
        obtain rfl := r232_1
        have z233 := z233.ext f231
        refine deps_cons rfl rfl fun x234 y235 h236 e237 f238 => ?_
        obtain ⟨s239, A239, n239, c239, rfl, z239⟩ := h236
        have z239 := z239.ext f238
        refine deps_cons rfl rfl fun x240 y241 h242 e243 f244 => ?_
        obtain rfl := h242
        refine deps_cons rfl rfl fun x245 y246 h247 e248 f249 => ?_
        obtain ⟨g250, rfl, ge252, hb251⟩ := h247
        have hb251 := hb251.ext f249
        have q253 : g99 < g250 := Nat.lt_of_lt_of_le (hb107.ext (e111.trans e114)).lt ge252
        have ge252 : w.heap.size ≤ g250 := Nat.le_trans hw16.size ge252
        refine deps_nil ?_
        have hb255 := hb251
        refine wl_stored rfl rfl rfl aggInt rfl hb255 (Nat.le_of_ble_eq_true rfl) rfl [.bool s239, .slice A239 n239 c239] rfl fun v254 hb256 u257 hs258 => ?_
        have hw18 : Ext w v254 := u257.ext hw17 ge252
        refine wl_assign rfl rfl (by decide) ?_
        refine wl_nil ?_
        refine eo_np ?_
        refine eo_then ?_
        refine cw_seq ?_
        have L259 : ln ((x % z) * (y % z)) ≤ 2097152 := Nat.le_trans (ln_mul L56 L93) (by decide)
        have L261 : ln (((x % z) * (y % z)) % z) ≤ 1048576 := Nat.le_trans (ln_emod h0) Lz
        refine cw_draw mix 9 [6, 7] [Is (.agg #[.bool s61, .slice A61 n61 c61]), Is (.agg #[.bool s98, .slice A98 n98 c98]), ZR w.heap.size ((x % z) * (y % z)), Is (.agg #[.bool sf, .slice Af nf cf]), T2 (ZR w.heap.size (((x % z) * (y % z)) % z)) (Is (.int .i64 0)), T2 (ZR w.heap.size (((x % z) * (y % z)) % z)) (Is (.int .i64 0)), ZR w.heap.size (((x % z) * (y % z)) % z), Is (.int .i64 0), PR v254.heap.size 24 [.bool false, .slice none 0 0]] [[], [], [0, 1], [], [2, 3], [4], [5], [5], []] [[], [], [0, 1], [], [0, 1, 2, 3], [0, 1, 2, 3, 4], [0, 1, 2, 3, 4, 5], [0, 1, 2, 3, 4, 5], [], [0, 1, 2, 3, 4, 5, 6, 8], [0, 1, 2, 3, 4, 5, 6, 7, 8, 9]] rfl
          (obs_cons rfl rfl (hob rfl rfl ?_) (obs_cons rfl rfl (hob rfl rfl ?_) (obs_cons rfl rfl (hob rfl rfl ?_) (obs_cons rfl rfl (hob rfl rfl ?_) (obs_cons rfl rfl (hob rfl rfl ?_) (obs_cons rfl rfl (hob rfl rfl ?_) (obs_float rfl rfl (fob rfl ?_) (obs_float rfl rfl (fob rfl ?_) (obs_cons rfl rfl (hob rfl rfl ?_) obs_nil))))))))) ?_
        · -- 0
          intro v267 e268
          have hw19 : Ext w v267 := hw18.trans e268
          refine deps_nil ?_
          refine wl_load rfl rfl (load_agg aggInt (((((((hb70.ext (e75.trans e81)).updN u88 (by omega)).ext (e91.trans (e95.trans e101))).updN u108 (by omega)).ext (e111.trans (e114.trans e198))).updN u257 (by omega)).ext e268) [.bool s61, .slice A61 n61 c61] rfl (Nat.le_of_ble_eq_true rfl) rfl) (by decide) ?_
          exact pi_done rfl (Ext.refl _) rfl
        · -- 1
          intro v269 e270
          have hw19 : Ext w v269 := hw18.trans e270
          refine deps_nil ?_
          refine wl_load rfl rfl (load_agg aggInt (((hb107.ext (e111.trans (e114.trans e198))).updN u257 (by omega)).ext e270) [.bool s98, .slice A98 n98 c98] rfl (Nat.le_of_ble_eq_true rfl) rfl) (by decide) ?_
          exact pi_done rfl (Ext.refl _) rfl
        · -- 2
          intro v271 e272
          have hw19 : Ext w v271 := hw18.trans e272
          refine deps_cons rfl rfl fun x273 y274 h275 e276 f277 => ?_
          obtain rfl := h275
          refine deps_cons rfl rfl fun x278 y279 h280 e281 f282 => ?_
          obtain rfl := h280
          refine deps_nil ?_
          have L283 : ln ((x % z) * (y % z)) ≤ 2097152 := Nat.le_trans (ln_mul L56 L93) (by decide)
          refine wl_call rfl rfl (vs := [.agg #[.bool s61, .slice A61 n61 c61], .agg #[.bool s98, .slice A98 n98 c98]]) (by kernel_rfl) (by decide) (g_zint_Mul hw19.size (((((((((z61.ext e64).updT hb69 u71).ext (e75.trans e81)).updT hb86 u88).ext (e91.trans (e95.trans e101))).updT hb106 u108).ext (e111.trans (e114.trans e198))).updT hb255 u257).ext e272).zi (z61.le (Nat.le_trans L56 (by decide))) (((((z98.ext e101).updT hb106 u108).ext (e111.trans (e114.trans e198))).updT hb255 u257).ext e272).zi (z98.le (Nat.le_trans L93 (by decide)))) ?_
          rintro _ v284 ⟨xr286, rfl, r286, e285⟩
          refine ret_intro ?_
          have hw20 : Ext w v284 := hw19.trans e285
          obtain ⟨s287, A287, n287, c287, rfl, z287⟩ := r286
          exact pi_done rfl e285 ⟨_, _, _, _, rfl, z287⟩
        · -- 3
          intro v288 e289
          have hw19 : Ext w v288 := hw18.trans e289
          refine deps_nil ?_
          refine wl_load rfl rfl (load_agg aggInt (((((((((hb15.ext (e19.trans (e58.trans e64))).updN u71 (by omega)).ext (e75.trans e81)).updN u88 (by omega)).ext (e91.trans (e95.trans e101))).updN u108 (by omega)).ext (e111.trans (e114.trans e198))).updN u257 (by omega)).ext e289) [.bool sf, .slice Af nf cf] rfl (Nat.le_of_ble_eq_true rfl) rfl) (by decide) ?_
          exact pi_done rfl (Ext.refl _) rfl
        · -- 4
          intro v290 e291
          have hw19 : Ext w v290 := hw18.trans e291
          refine deps_cons rfl rfl fun x292 y293 h294 e295 f296 => ?_
          obtain ⟨s297, A297, n297, c297, rfl, z297⟩ := h294
          have z297 := z297.ext f296
          refine deps_cons rfl rfl fun x298 y299 h300 e301 f302 => ?_
          obtain rfl := h300
          refine deps_nil ?_
          have L303 : ln (((x % z) * (y % z)) % z) ≤ 1048576 := Nat.le_trans (ln_emod h0) Lz
          refine wl_call rfl rfl (vs := [.agg #[.bool s297, .slice A297 n297 c297], .agg #[.bool sf, .slice Af nf cf]]) (by kernel_rfl) (by decide) (g_zint_Mod hw19.size z297.zi (z297.le (Nat.le_trans L259 (by decide))) (hz.ext hw19) (Nat.le_trans lf (by decide)) h0) ?_
          rintro _ v304 ⟨xr306, rfl, r306, e305⟩
          refine ret_intro ?_
          have hw20 : Ext w v304 := hw19.trans e305
          obtain ⟨a307_0, a307_1, rfl, r307_0, r307_1⟩ := r306
          obtain ⟨s308, A308, n308, c308, rfl, z308⟩ := r307_0
          obtain rfl := r307_1
          exact pi_done rfl e305 ⟨_, _, rfl, ⟨_, _, _, _, rfl, z308⟩, rfl⟩
        · -- 5
          intro v309 e310
          have hw19 : Ext w v309 := hw18.trans e310
          refine deps_cons rfl rfl fun x311 y312 h313 e314 f315 => ?_
          obtain ⟨a316_0, a316_1, rfl, r316_0, r316_1⟩ := h313
          obtain ⟨s317, A317, n317, c317, rfl, z317⟩ := r316_0
          obtain rfl := r316_1
          have z317 := z317.ext f315
          refine deps_nil ?_
          refine wl_move rfl rfl (by decide) ?_
          exact pi_done rfl (Ext.refl _) ⟨_, _, rfl, ⟨_, _, _, _, rfl, z317⟩, rfl⟩
        · -- 6
          intro v318 e319
          have hw19 : Ext w v318 := hw18.trans e319
          refine deps_cons rfl rfl fun x320 y321 h322 e323 f324 => ?_
          obtain ⟨a325_0, a325_1, rfl, r325_0, r325_1⟩ := h322
          obtain ⟨s326, A326, n326, c326, rfl, z326⟩ := r325_0
          obtain rfl := r325_1
          have z326 := z326.ext f324
          refine deps_nil ?_
          exact ⟨.agg #[.bool s326, .slice A326 n326 c326], rfl, rfl, fun _ => by kernel_rfl, ⟨_, _, _, _, rfl, z326⟩⟩
        · -- 7
          intro v327 e328
          have hw19 : Ext w v327 := hw18.trans e328
          refine deps_cons rfl rfl fun x329 y330 h331 e332 f333 => ?_
          obtain ⟨a334_0, a334_1, rfl, r334_0, r334_1⟩ := h331
          obtain ⟨s335, A335, n335, c335, rfl, z335⟩ := r334_0
          obtain rfl := r334_1
          have z335 := z335.ext f333
          refine deps_nil ?_
          exact ⟨.int .i64 0, rfl, rfl, fun _ => by kernel_rfl, rfl⟩
        · -- 8
          intro v336 e337
          have hw19 : Ext w v336 := hw18.trans e337
          refine deps_nil ?_
          refine wl_alloc rfl (z := .agg #[.bool false, .slice none 0 0]) (vs := [.bool false, .slice none 0 0]) (fun _ => by kernel_rfl) rfl (by decide) fun g338 v339 nb => ?_
          exact pi_done rfl nb.ext ⟨_, rfl, by rw [← nb.at_]; exact e337.size, nb.bk⟩
        · -- all
          intro v340 e341
          have hw19 : Ext w v340 := hw18.trans e341
          refine deps_cons rfl rfl fun x342 y343 h344 e345 f346 => ?_
          obtain rfl := h344
          refine deps_cons rfl rfl fun x347 y348 h349 e350 f351 => ?_
          obtain rfl := h349
          refine deps_cons rfl rfl fun x352 y353 h354 e355 f356 => ?_
          obtain ⟨s357, A357, n357, c357, rfl, z357⟩ := h354
          have z357 := z357.ext f356
          refine deps_cons rfl rfl fun x358 y359 h360 e361 f362 => ?_
          obtain rfl := h360
          refine deps_cons rfl rfl fun x363 y364 h365 e366 f367 => ?_
          obtain ⟨a368_0, a368_1, rfl, r368_0, r368_1⟩ := h365
          obtain ⟨s369, A369, n369, c369, rfl, z369⟩ := r368_0
          obtain rfl := r368_1
          have z369 := z369.ext f367
          refine deps_cons rfl rfl fun x370 y371 h372 e373 f374 => ?_
          obtain ⟨a375_0, a375_1, rfl, r375_0, r375_1⟩ := h372
          obtain ⟨s376, A376, n376, c376, rfl, z376⟩ := r375_0
          obtain rfl := r375_1
          have z376 := z376.ext f374
          refine deps_cons rfl rfl fun x377 y378 h379 e380 f381 => ?_
          obtain ⟨s382, A382, n382, c382, rfl, z382⟩ := h379
          have z382 := z382.ext f381
          refine deps_cons rfl rfl fun x383 y384 h385 e386 f387 => ?_
          obtain rfl := h385
          refine deps_cons rfl rfl fun x388 y389 h390 e391 f392 => ?_
          obtain ⟨g393, rfl, ge395, hb394⟩ := h390
          have hb394 := hb394.ext f392
          have q396 : g250 < g393 := Nat.lt_of_lt_of_le hb256.lt ge395
          have ge395 : w.heap.size ≤ g393 := Nat.le_trans hw18.size ge395
          refine deps_nil ?_
          have hb398 := hb394
          refine wl_stored rfl rfl rfl aggInt rfl hb398 (Nat.le_of_ble_eq_true rfl) rfl [.bool s382, .slice A382 n382 c382] rfl fun v397 hb399 u400 hs401 => ?_
          have hw20 : Ext w v397 := u400.ext hw19 ge395
          refine wl_assign rfl rfl (by decide) ?_
          refine wl_nil ?_
          refine eo_np ?_
          refine eo_then ?_
          refine cw_seq ?_
          have L402 : ln (x + y) ≤ 1048577 := Nat.le_trans (ln_add Lx Ly) (by decide)
          have L404 : ln ((x + y) % z) ≤ 1048576 := Nat.le_trans (ln_emod h0) Lz
          refine cw_draw mix 9 [6, 7] [Is (.agg #[.bool sa, .slice Aa na ca]), Is (.agg #[.bool sb, .slice Ab nb cb]), ZR w.heap.size (x + y), Is (.agg #[.bool sf, .slice Af nf cf]), T2 (ZR w.heap.size ((x + y) % z)) (Is (.int .i64 0)), T2 (ZR w.heap.size ((x + y) % z)) (Is (.int .i64 0)), ZR w.heap.size ((x + y) % z), Is (.int .i64 0), PR v397.heap.size 24 [.bool false, .slice none 0 0]] [[], [], [0, 1], [], [2, 3], [4], [5], [5], []] [[], [], [0, 1], [], [0, 1, 2, 3], [0, 1, 2, 3, 4], [0, 1, 2, 3, 4, 5], [0, 1, 2, 3, 4, 5], [], [0, 1, 2, 3, 4, 5, 6, 8], [0, 1, 2, 3, 4, 5, 6, 7, 8, 9]] rfl
            (obs_cons rfl rfl (hob rfl rfl ?_) (obs_cons rfl rfl (hob rfl rfl ?_) (obs_cons rfl rfl (hob rfl rfl ?_) (obs_cons rfl rfl (hob rfl rfl ?_) (obs_cons rfl rfl (hob rfl rfl ?_) (obs_cons rfl rfl (hob rfl rfl ?_) (obs_float rfl rfl (fob rfl ?_) (obs_float rfl rfl (fob rfl ?_) (obs_cons rfl rfl (hob rfl rfl ?_) obs_nil))))))))) ?_
          · -- 0
            intro v410 e411
            have hw21 : Ext w v410 := hw20.trans e411
            refine deps_nil ?_
            refine wl_load rfl rfl (load_agg aggInt (((((((((((hb4.ext (e8.trans (e14.trans (e19.trans (e58.trans e64))))).updN u71 (by omega)).ext (e75.trans e81)).updN u88 (by omega)).ext (e91.trans (e95.trans e101))).updN u108 (by omega)).ext (e111.trans (e114.trans e198))).updN u257 (by omega)).ext e341).updN u400 (by omega)).ext e411) [.bool sa, .slice Aa na ca] rfl (Nat.le_of_ble_eq_true rfl) rfl) (by decide) ?_
            exact pi_done rfl (Ext.refl _) rfl
          · -- 1
            intro v412 e413
            have hw21 : Ext w v412 := hw20.trans e413
            refine deps_nil ?_
            refine wl_load rfl rfl (load_agg aggInt (((((((((((hb9.ext (e14.trans (e19.trans (e58.trans e64)))).updN u71 (by omega)).ext (e75.trans e81)).updN u88 (by omega)).ext (e91.trans (e95.trans e101))).updN u108 (by omega)).ext (e111.trans (e114.trans e198))).updN u257 (by omega)).ext e341).updN u400 (by omega)).ext e413) [.bool sb, .slice Ab nb cb] rfl (Nat.le_of_ble_eq_true rfl) rfl) (by decide) ?_
            exact pi_done rfl (Ext.refl _) rfl
          · -- 2
            intro v414 e415
            have hw21 : Ext w v414 := hw20.trans e415
            refine deps_cons rfl rfl fun x416 y417 h418 e419 f420 => ?_
            obtain rfl := h418
            refine deps_cons rfl rfl fun x421 y422 h423 e424 f425 => ?_
            obtain rfl := h423
            refine deps_nil ?_
            have L426 : ln (x + y) ≤ 1048577 := Nat.le_trans (ln_add Lx Ly) (by decide)
            refine wl_call rfl rfl (vs := [.agg #[.bool sa, .slice Aa na ca], .agg #[.bool sb, .slice Ab nb cb]]) (by kernel_rfl) (by decide) (g_zint_Add hw21.size (hx.ext hw21) (Nat.le_trans la (by decide)) (hy.ext hw21) (Nat.le_trans lb (by decide))) ?_
            rintro _ v427 ⟨xr429, rfl, r429, e428⟩
            refine ret_intro ?_
            have hw22 : Ext w v427 := hw21.trans e428
            obtain ⟨s430, A430, n430, c430, rfl, z430⟩ := r429
            exact pi_done rfl e428 ⟨_, _, _, _, rfl, z430⟩
          · -- 3
            intro v431 e432
            have hw21 : Ext w v431 := hw20.trans e432
            refine deps_nil ?_
            refine wl_load rfl rfl (load_agg aggInt (((((((((((hb15.ext (e19.trans (e58.trans e64))).updN u71 (by omega)).ext (e75.trans e81)).updN u88 (by omega)).ext (e91.trans (e95.trans e101))).updN u108 (by omega)).ext (e111.trans (e114.trans e198))).updN u257 (by omega)).ext e341).updN u400 (by omega)).ext e432) [.bool sf, .slice Af nf cf] rfl (Nat.le_of_ble_eq_true rfl) rfl) (by decide) ?_
            exact pi_done rfl (Ext.refl _) rfl
          · -- 4
            intro v433 e434
            have hw21 : Ext w v433 := hw20.trans e434
            refine deps_cons rfl rfl fun x435 y436 h437 e438 f439 => ?_
            obtain ⟨s440, A440, n440, c440, rfl, z440⟩ := h437
            have z440 := z440.ext f439
            refine deps_cons rfl rfl fun x441 y442 h443 e444 f445 => ?_
            obtain rfl := h443
            refine deps_nil ?_
            have L446 : ln ((x + y) % z) ≤ 1048576 := Nat.le_trans (ln_emod h0) Lz
            refine wl_call rfl rfl (vs := [.agg #[.bool s440, .slice A440 n440 c440], .agg #[.bool sf, .slice Af nf cf]]) (by kernel_rfl) (by decide) (g_zint_Mod hw21.size z440.zi (z440.le (Nat.le_trans L402 (by decide))) (hz.ext hw21) (Nat.le_trans lf (by decide)) h0) ?_
            rintro _ v447 ⟨xr449, rfl, r449, e448⟩
            refine ret_intro ?_
            have hw22 : Ext w v447 := hw21.trans e448
            obtain ⟨a450_0, a450_1, rfl, r450_0, r450_1⟩ := r449
            obtain ⟨s451, A451, n451, c451, rfl, z451⟩ := r450_0
            obtain rfl := r450_1
            exact pi_done rfl e448 ⟨_, _, rfl, ⟨_, _, _, _, rfl, z451⟩, rfl⟩
          · -- 5
            intro v452 e453
            have hw21 : Ext w v452 := hw20.trans e453
            refine deps_cons rfl rfl fun x454 y455 h456 e457 f458 => ?_
            obtain ⟨a459_0, a459_1, rfl, r459_0, r459_1⟩ := h456
            obtain ⟨s460, A460, n460, c460, rfl, z460⟩ := r459_0
            obtain rfl := r459_1
            have z460 := z460.ext f458
            refine deps_nil ?_
            refine wl_move rfl rfl (by decide) ?_
            exact pi_done rfl (Ext.refl _) ⟨_, _, rfl, ⟨_, _, _, _, rfl, z460⟩, rfl⟩
          · -- 6
            intro v461 e462
            have hw21 : Ext w v461 := hw20.trans e462
            refine deps_cons rfl rfl fun x463 y464 h465 e466 f467 => ?_
            obtain ⟨a468_0, a468_1, rfl, r468_0, r468_1⟩ := h465
            obtain ⟨s469, A469, n469, c469, rfl, z469⟩ := r468_0
            obtain rfl := r468_1
            have z469 := z469.ext f467
            refine deps_nil ?_
            exact ⟨.agg #[.bool s469, .slice A469 n469 c469], rfl, rfl, fun _ => by kernel_rfl, ⟨_, _, _, _, rfl, z469⟩⟩
          · -- 7
            intro v470 e471
            have hw21 : Ext w v470 := hw20.trans e471
            refine deps_cons rfl rfl fun x472 y473 h474 e475 f476 => ?_
            obtain ⟨a477_0, a477_1, rfl, r477_0, r477_1⟩ := h474
            obtain ⟨s478, A478, n478, c478, rfl, z478⟩ := r477_0
            obtain rfl := r477_1
            have z478 := z478.ext f476
            refine deps_nil ?_
            exact ⟨.int .i64 0, rfl, rfl, fun _ => by kernel_rfl, rfl⟩
          · -- 8
            intro v479 e480
            have hw21 : Ext w v479 := hw20.trans e480
            refine deps_nil ?_
            refine wl_alloc rfl (z := .agg #[.bool false, .slice none 0 0]) (vs := [.bool false, .slice none 0 0]) (fun _ => by kernel_rfl) rfl (by decide) fun g481 v482 nb => ?_
            exact pi_done rfl nb.ext ⟨_, rfl, by rw [← nb.at_]; exact e480.size, nb.bk⟩
          · -- all
            intro v483 e484
            have hw21 : Ext w v483 := hw20.trans e484
            refine deps_cons rfl rfl fun x485 y486 h487 e488 f489 => ?_
            obtain rfl := h487
            refine deps_cons rfl rfl fun x490 y491 h492 e493 f494 => ?_
            obtain rfl := h492
            refine deps_cons rfl rfl fun x495 y496 h497 e498 f499 => ?_
            obtain ⟨s500, A500, n500, c500, rfl, z500⟩ := h497
            have z500 := z500.ext f499
            refine deps_cons rfl rfl fun x501 y502 h503 e504 f505 => ?_
            obtain rfl := h503
            refine deps_cons rfl rfl fun x506 y507 h508 e509 f510 => ?_
            obtain ⟨a511_0, a511_1, rfl, r511_0, r511_1⟩ := h508
            obtain ⟨s512, A512, n512, c512, rfl, z512⟩ := r511_0
            obtain rfl := r511_1
            have z512 := z512.ext f510
            refine deps_cons rfl rfl fun x513 y514 h515 e516 f517 => ?_
            obtain ⟨a518_0, a518_1, rfl, r518_0, r518_1⟩ := h515
            obtain ⟨s519, A519, n519, c519, rfl, z519⟩ := r518_0
            obtain rfl := r518_1
            have z519 := z519.ext f517
            refine deps_cons rfl rfl fun x520 y521 h522 e523 f524 => ?_
            obtain ⟨s525, A525, n525, c525, rfl, z525⟩ := h522
            have z525 := z525.ext f524
            refine deps_cons rfl rfl fun x526 y527 h528 e529 f530 => ?_
            obtain rfl := h528
            refine deps_cons rfl rfl fun x531 y532 h533 e534 f535 => ?_
            obtain ⟨g536, rfl, ge538, hb537⟩ := h533
            have hb537 := hb537.ext f535
            have q539 : g393 < g536 := Nat.lt_of_lt_of_le hb399.lt ge538
            have ge538 : w.heap.size ≤ g536 := Nat.le_trans hw20.size ge538
            refine deps_nil ?_
            have hb541 := hb537
            refine wl_stored rfl rfl rfl aggInt rfl hb541 (Nat.le_of_ble_eq_true rfl) rfl [.bool s525, .slice A525 n525 c525] rfl fun v540 hb542 u543 hs544 => ?_
            have hw22 : Ext w v540 := u543.ext hw21 ge538
            refine wl_assign rfl rfl (by decide) ?_
            refine wl_nil ?_
            refine eo_np ?_
            refine eo_then ?_
            refine cw_seq ?_
            have L545 : ln ((x % z) + (y % z)) ≤ 1048577 := Nat.le_trans (ln_add L56 L93) (by decide)
            have L547 : ln (-z) ≤ 1048576 := (by rw [ln_neg]; exact Lz)
            have L549 : ln (((x % z) + (y % z)) % (-z)) ≤ 1048576 := Nat.le_trans (ln_emod h0n) L547
            refine cw_draw mix 10 [7, 8] [Is (.agg #[.bool s61, .slice A61 n61 c61]), Is (.agg #[.bool s98, .slice A98 n98 c98]), ZR w.heap.size ((x % z) + (y % z)), Is (.agg #[.bool sf, .slice Af nf cf]), ZR w.heap.size (-z), T2 (ZR w.heap.size (((x % z) + (y % z)) % (-z))) (Is (.int .i64 0)), T2 (ZR w.heap.size (((x % z) + (y % z)) % (-z))) (Is (.int .i64 0)), ZR w.heap.size (((x % z) + (y % z)) % (-z)), Is (.int .i64 0), PR v540.heap.size 24 [.bool false, .slice none 0 0]] [[], [], [0, 1], [], [3], [2, 4], [5], [6], [6], []] [[], [], [0, 1], [], [0, 1, 2, 3], [0, 1, 2, 3, 4], [0, 1, 2, 3, 4, 5], [0, 1, 2, 3, 4, 5, 6], [0, 1, 2, 3, 4, 5, 6], [], [0, 1, 2, 3, 4, 5, 6, 7, 9], [0, 1, 2, 3, 4, 5, 6, 7, 8, 9, 10]] rfl
              (obs_cons rfl rfl (hob rfl rfl ?_) (obs_cons rfl rfl (hob rfl rfl ?_) (obs_cons rfl rfl (hob rfl rfl ?_) (obs_cons rfl rfl (hob rfl rfl ?_) (obs_cons rfl rfl (hob rfl rfl ?_) (obs_cons rfl rfl (hob rfl rfl ?_) (obs_cons rfl rfl (hob rfl rfl ?_) (obs_float rfl rfl (fob rfl ?_) (obs_float rfl rfl (fob rfl ?_) (obs_cons rfl rfl (hob rfl rfl ?_) obs_nil)))))))))) ?_
            · -- 0
              intro v555 e556
              have hw23 : Ext w v555 := hw22.trans e556
              refine deps_nil ?_
              refine wl_load rfl rfl (load_agg aggInt (((((((((((hb70.ext (e75.trans e81)).updN u88 (by omega)).ext (e91.trans (e95.trans e101))).updN u108 (by omega)).ext (e111.trans (e114.trans e198))).updN u257 (by omega)).ext e341).updN u400 (by omega)).ext e484).updN u543 (by omega)).ext e556) [.bool s61, .slice A61 n61 c61] rfl (Nat.le_of_ble_eq_true rfl) rfl) (by decide) ?_
              exact pi_done rfl (Ext.refl _) rfl
            · -- 1
              intro v557 e558
              have hw23 : Ext w v557 := hw22.trans e558
              refine deps_nil ?_
              refine wl_load rfl rfl (load_agg aggInt (((((((hb107.ext (e111.trans (e114.trans e198))).updN u257 (by omega)).ext e341).updN u400 (by omega)).ext e484).updN u543 (by omega)).ext e558) [.bool s98, .slice A98 n98 c98] rfl (Nat.le_of_ble_eq_true rfl) rfl) (by decide) ?_
              exact pi_done rfl (Ext.refl _) rfl
            · -- 2
              intro v559 e560
              have hw23 : Ext w v559 := hw22.trans e560
              refine deps_cons rfl rfl fun x561 y562 h563 e564 f565 => ?_
              obtain rfl := h563
              refine deps_cons rfl rfl fun x566 y567 h568 e569 f570 => ?_
              obtain rfl := h568
              refine deps_nil ?_
              have L571 : ln ((x % z) + (y % z)) ≤ 1048577 := Nat.le_trans (ln_add L56 L93) (by decide)
              refine wl_call rfl rfl (vs := [.agg #[.bool s61, .slice A61 n61 c61], .agg #[.bool s98, .slice A98 n98 c98]]) (by kernel_rfl) (by decide) (g_zint_Add hw23.size (((((((((((((z61.ext e64).updT hb69 u71).ext (e75.trans e81)).updT hb86 u88).ext (e91.trans (e95.trans e101))).updT hb106 u108).ext (e111.trans (e114.trans e198))).updT hb255 u257).ext e341).updT hb398 u400).ext e484).updT hb541 u543).ext e560).zi (z61.le (Nat.le_trans L56 (by decide))) (((((((((z98.ext e101).updT hb106 u108).ext (e111.trans (e114.trans e198))).updT hb255 u257).ext e341).updT hb398 u400).ext e484).updT hb541 u543).ext e560).zi (z98.le (Nat.le_trans L93 (by decide)))) ?_
              rintro _ v572 ⟨xr574, rfl, r574, e573⟩
              refine ret_intro ?_
              have hw24 : Ext w v572 := hw23.trans e573
              obtain ⟨s575, A575, n575, c575, rfl, z575⟩ := r574
              exact pi_done rfl e573 ⟨_, _, _, _, rfl, z575⟩
            · -- 3
              intro v576 e577
              have hw23 : Ext w v576 := hw22.trans e577
              refine deps_nil ?_
              refine wl_load rfl rfl (load_agg aggInt (((((((((((((hb15.ext (e19.trans (e58.trans e64))).updN u71 (by omega)).ext (e75.trans e81)).updN u88 (by omega)).ext (e91.trans (e95.trans e101))).updN u108 (by omega)).ext (e111.trans (e114.trans e198))).updN u257 (by omega)).ext e341).updN u400 (by omega)).ext e484).updN u543 (by omega)).ext e577) [.bool sf, .slice Af nf cf] rfl (Nat.le_of_ble_eq_true rfl) rfl) (by decide) ?_
              exact pi_done rfl (Ext.refl _) rfl
            · -- 4
              intro v578 e579
              have hw23 : Ext w v578 := hw22.trans e579
              refine deps_cons rfl rfl fun x580 y581 h582 e583 f584 => ?_
              obtain rfl := h582
              refine deps_nil ?_
              have L585 : ln (-z) ≤ 1048576 := (by rw [ln_neg]; exact Lz)
              refine wl_call rfl rfl (vs := [.agg #[.bool sf, .slice Af nf cf]]) (by kernel_rfl) (by decide) (g_zint_Neg hw23.size (hz.ext hw23) (Nat.le_trans lf (by decide))) ?_
              rintro _ v586 ⟨xr588, rfl, r588, e587⟩
              refine ret_intro ?_
              have hw24 : Ext w v586 := hw23.trans e587
              obtain ⟨s589, A589, n589, c589, rfl, z589⟩ := r588
              exact pi_done rfl e587 ⟨_, _, _, _, rfl, z589⟩
            · -- 5
              intro v590 e591
              have hw23 : Ext w v590 := hw22.trans e591
              refine deps_cons rfl rfl fun x592 y593 h594 e595 f596 => ?_
              obtain ⟨s597, A597, n597, c597, rfl, z597⟩ := h594
              have z597 := z597.ext f596
              refine deps_cons rfl rfl fun x598 y599 h600 e601 f602 => ?_
              obtain ⟨s603, A603, n603, c603, rfl, z603⟩ := h600
              have z603 := z603.ext f602
              refine deps_nil ?_
              have L604 : ln (((x % z) + (y % z)) % (-z)) ≤ 1048576 := Nat.le_trans (ln_emod h0n) L547
              refine wl_call rfl rfl (vs := [.agg #[.bool s597, .slice A597 n597 c597], .agg #[.bool s603, .slice A603 n603 c603]]) (by kernel_rfl) (by decide) (g_zint_Mod hw23.size z597.zi (z597.le (Nat.le_trans L545 (by decide))) z603.zi (z603.le (Nat.le_trans L547 (by decide))) h0n) ?_
              rintro _ v605 ⟨xr607, rfl, r607, e606⟩
              refine ret_intro ?_
              have hw24 : Ext w v605 := hw23.trans e606
              obtain ⟨a608_0, a608_1, rfl, r608_0, r608_1⟩ := r607
              obtain ⟨s609, A609, n609, c609, rfl, z609⟩ := r608_0
              obtain rfl := r608_1
              exact pi_done rfl e606 ⟨_, _, rfl, ⟨_, _, _, _, rfl, z609⟩, rfl⟩
            · -- 6
              intro v610 e611
              have hw23 : Ext w v610 := hw22.trans e611
              refine deps_cons rfl rfl fun x612 y613 h614 e615 f616 => ?_
              obtain ⟨a617_0, a617_1, rfl, r617_0, r617_1⟩ := h614
              obtain ⟨s618, A618, n618, c618, rfl, z618⟩ := r617_0
              obtain rfl := r617_1
              have z618 := z618.ext f616
              refine deps_nil ?_
              refine wl_move rfl rfl (by decide) ?_
              exact pi_done rfl (Ext.refl _) ⟨_, _, rfl, ⟨_, _, _, _, rfl, z618⟩, rfl⟩
            · -- 7
              intro v619 e620
              have hw23 : Ext w v619 := hw22.trans e620
              refine deps_cons rfl rfl fun x621 y622 h623 e624 f625 => ?_
              obtain ⟨a626_0, a626_1, rfl, r626_0, r626_1⟩ := h623
              obtain ⟨s627, A627, n627, c627, rfl, z627⟩ := r626_0
              obtain rfl := r626_1
              have z627 := z627.ext f625
              refine deps_nil ?_
              exact ⟨.agg #[.bool s627, .slice A627 n627 c627], rfl, rfl, fun _ => by kernel_rfl, ⟨_, _, _, _, rfl, z627⟩⟩
            · -- 8
              intro v628 e629
              have hw23 : Ext w v628 := hw22.trans e629
              refine deps_cons rfl rfl fun x630 y631 h632 e633 f634 => ?_
              obtain ⟨a635_0, a635_1, rfl, r635_0, r635_1⟩ := h632
              obtain ⟨s636, A636, n636, c636, rfl, z636⟩ := r635_0
              obtain rfl := r635_1
              have z636 := z636.ext f634
              refine deps_nil ?_
              exact ⟨.int .i64 0, rfl, rfl, fun _ => by kernel_rfl, rfl⟩
            · -- 9
              intro v637 e638
              have hw23 : Ext w v637 := hw22.trans e638
              refine deps_nil ?_
              refine wl_alloc rfl (z := .agg #[.bool false, .slice none 0 0]) (vs := [.bool false, .slice none 0 0]) (fun _ => by kernel_rfl) rfl (by decide) fun g639 v640 nb => ?_
              exact pi_done rfl nb.ext ⟨_, rfl, by rw [← nb.at_]; exact e638.size, nb.bk⟩
            · -- all
              intro v641 e642
              have hw23 : Ext w v641 := hw22.trans e642
              refine deps_cons rfl rfl fun x643 y644 h645 e646 f647 => ?_
              obtain rfl := h645
              refine deps_cons rfl rfl fun x648 y649 h650 e651 f652 => ?_
              obtain rfl := h650
              refine deps_cons rfl rfl fun x653 y654 h655 e656 f657 => ?_
              obtain ⟨s658, A658, n658, c658, rfl, z658⟩ := h655
              have z658 := z658.ext f657
              refine deps_cons rfl rfl fun x659 y660 h661 e662 f663 => ?_
              obtain rfl := h661
              refine deps_cons rfl rfl fun x664 y665 h666 e667 f668 => ?_
              obtain ⟨s669, A669, n669, c669, rfl, z669⟩ := h666
              have z669 := z669.ext f668
              refine deps_cons rfl rfl fun x670 y671 h672 e673 f674 => ?_
              obtain ⟨a675_0, a675_1, rfl, r675_0, r675_1⟩ := h672
              obtain ⟨s676, A676, n676, c676, rfl, z676⟩ := r675_0
              obtain rfl := r675_1
              have z676 := z676.ext f674
              refine deps_cons rfl rfl fun x677 y678 h679 e680 f681 => ?_
              obtain ⟨a682_0, a682_1, rfl, r682_0, r682_1⟩ := h679
              obtain ⟨s683, A683, n683, c683, rfl, z683⟩ := r682_0
              obtain rfl := r682_1
              have z683 := z683.ext f681
              refine deps_cons rfl rfl fun x684 y685 h686 e687 f688 => ?_
              obtain ⟨s689, A689, n689, c689, rfl, z689⟩ := h686
              have z689 := z689.ext f688
              refine deps_cons rfl rfl fun x690 y691 h692 e693 f694 => ?_
              obtain rfl := h692
              refine deps_cons rfl rfl fun x695 y696 h697 e698 f699 => ?_
              obtain ⟨g700, rfl, ge702, hb701⟩ := h697
              have hb701 := hb701.ext f699
              have q703 : g536 < g700 := Nat.lt_of_lt_of_le hb542.lt ge702
              have ge702 : w.heap.size ≤ g700 := Nat.le_trans hw22.size ge702
              refine deps_nil ?_
              have hb705 := hb701
              refine wl_stored rfl rfl rfl aggInt rfl hb705 (Nat.le_of_ble_eq_true rfl) rfl [.bool s689, .slice A689 n689 c689] rfl fun v704 hb706 u707 hs708 => ?_
              have hw24 : Ext w v704 := u707.ext hw23 ge702
              refine wl_assign rfl rfl (by decide) ?_
              refine wl_nil ?_
              refine eo_np ?_
              refine eo_then ?_
              refine cw_seq ?_
              have L709 : ln (y * z + x) ≤ 2097153 := Nat.le_trans (ln_add (ln_mul Ly Lz) Lx) (by decide)
              have L711 : ln ((y * z + x) % z) ≤ 1048576 := Nat.le_trans (ln_emod h0) Lz
              refine cw_draw mix 10 [7, 8] [Is (.agg #[.bool sb, .slice Ab nb cb]), Is (.agg #[.bool sf, .slice Af nf cf]), Is (.agg #[.bool sa, .slice Aa na ca]), ZR w.heap.size (y * z + x), Is (.agg #[.bool sf, .slice Af nf cf]), T2 (ZR w.heap.size ((y * z + x) % z)) (Is (.int .i64 0)), T2 (ZR w.heap.size ((y * z + x) % z)) (Is (.int .i64 0)), ZR w.heap.size ((y * z + x) % z), Is (.int .i64 0), PR v704.heap.size 24 [.bool false, .slice none 0 0]] [[], [], [], [0, 1, 2], [], [3, 4], [5], [6], [6], []] [[], [], [], [0, 1, 2], [], [0, 1, 2, 3, 4], [0, 1, 2, 3, 4, 5], [0, 1, 2, 3, 4, 5, 6], [0, 1, 2, 3, 4, 5, 6], [], [0, 1, 2, 3, 4, 5, 6, 7, 9], [0, 1, 2, 3, 4, 5, 6, 7, 8, 9, 10]] rfl
                (obs_cons rfl rfl (hob rfl rfl ?_) (obs_cons rfl rfl (hob rfl rfl ?_) (obs_cons rfl rfl (hob rfl rfl ?_) (obs_cons rfl rfl (hob rfl rfl ?_) (obs_cons rfl rfl (hob rfl rfl ?_) (obs_cons rfl rfl (hob rfl rfl ?_) (obs_cons rfl rfl (hob rfl rfl ?_) (obs_float rfl rfl (fob rfl ?_) (obs_float rfl rfl (fob rfl ?_) (obs_cons rfl rfl (hob rfl rfl ?_) obs_nil)))))))))) ?_
              · -- 0
                intro v717 e718
                have hw25 : Ext w v717 := hw24.trans e718
                refine deps_nil ?_
                refine wl_load rfl rfl (load_agg aggInt (((((((((((((((hb9.ext (e14.trans (e19.trans (e58.trans e64)))).updN u71 (by omega)).ext (e75.trans e81)).updN u88 (by omega)).ext (e91.trans (e95.trans e101))).updN u108 (by omega)).ext (e111.trans (e114.trans e198))).updN u257 (by omega)).ext e341).updN u400 (by omega)).ext e484).updN u543 (by omega)).ext e642).updN u707 (by omega)).ext e718) [.bool sb, .slice Ab nb cb] rfl (Nat.le_of_ble_eq_true rfl) rfl) (by decide) ?_
                exact pi_done rfl (Ext.refl _) rfl
              · -- 1
                intro v719 e720
                have hw25 : Ext w v719 := hw24.trans e720
                refine deps_nil ?_
                refine wl_load rfl rfl (load_agg aggInt (((((((((((((((hb15.ext (e19.trans (e58.trans e64))).updN u71 (by omega)).ext (e75.trans e81)).updN u88 (by omega)).ext (e91.trans (e95.trans e101))).updN u108 (by omega)).ext (e111.trans (e114.trans e198))).updN u257 (by omega)).ext e341).updN u400 (by omega)).ext e484).updN u543 (by omega)).ext e642).updN u707 (by omega)).ext e720) [.bool sf, .slice Af nf cf] rfl (Nat.le_of_ble_eq_true rfl) rfl) (by decide) ?_
                exact pi_done rfl (Ext.refl _) rfl
              · -- 2
                intro v721 e722
                have hw25 : Ext w v721 := hw24.trans e722
                refine deps_nil ?_
                refine wl_load rfl rfl (load_agg aggInt (((((((((((((((hb4.ext (e8.trans (e14.trans (e19.trans (e58.trans e64))))).updN u71 (by omega)).ext (e75.trans e81)).updN u88 (by omega)).ext (e91.trans (e95.trans e101))).updN u108 (by omega)).ext (e111.trans (e114.trans e198))).updN u257 (by omega)).ext e341).updN u400 (by omega)).ext e484).updN u543 (by omega)).ext e642).updN u707 (by omega)).ext e722) [.bool sa, .slice Aa na ca] rfl (Nat.le_of_ble_eq_true rfl) rfl) (by decide) ?_
                exact pi_done rfl (Ext.refl _) rfl
              · -- 3
                intro v723 e724
                have hw25 : Ext w v723 := hw24.trans e724
                refine deps_cons rfl rfl fun x725 y726 h727 e728 f729 => ?_
                obtain rfl := h727
                refine deps_cons rfl rfl fun x730 y731 h732 e733 f734 => ?_
                obtain rfl := h732
                refine deps_cons rfl rfl fun x735 y736 h737 e738 f739 => ?_
                obtain rfl := h737
                refine deps_nil ?_
                have L740 : ln (y * z + x) ≤ 2097153 := Nat.le_trans (ln_add (ln_mul Ly Lz) Lx) (by decide)
                refine wl_call rfl rfl (vs := [.agg #[.bool sb, .slice Ab nb cb], .agg #[.bool sf, .slice Af nf cf], .agg #[.bool sa, .slice Aa na ca]]) (by kernel_rfl) (by decide) (g_zint_MulAdd hw25.size (hy.ext hw25) (Nat.le_trans lb (by decide)) (hz.ext hw25) (Nat.le_trans lf (by decide)) (hx.ext hw25) (Nat.le_trans la (by decide))) ?_
                rintro _ v741 ⟨xr743, rfl, r743, e742⟩
                refine ret_intro ?_
                have hw26 : Ext w v741 := hw25.trans e742
                obtain ⟨s744, A744, n744, c744, rfl, z744⟩ := r743
                exact pi_done rfl e742 ⟨_, _, _, _, rfl, z744⟩
              · -- 4
                intro v745 e746
                have hw25 : Ext w v745 := hw24.trans e746
                refine deps_nil ?_
                refine wl_load rfl rfl (load_agg aggInt (((((((((((((((hb15.ext (e19.trans (e58.trans e64))).updN u71 (by omega)).ext (e75.trans e81)).updN u88 (by omega)).ext (e91.trans (e95.trans e101))).updN u108 (by omega)).ext (e111.trans (e114.trans e198))).updN u257 (by omega)).ext e341).updN u400 (by omega)).ext e484).updN u543 (by omega)).ext e642).updN u707 (by omega)).ext e746) [.bool sf, .slice Af nf cf] rfl (Nat.le_of_ble_eq_true rfl) rfl) (by decide) ?_
                exact pi_done rfl (Ext.refl _) rfl
              · -- 5
                intro v747 e748
                have hw25 : Ext w v747 := hw24.trans e748
                refine deps_cons rfl rfl fun x749 y750 h751 e752 f753 => ?_
                obtain ⟨s754, A754, n754, c754, rfl, z754⟩ := h751
                have z754 := z754.ext f753
                refine deps_cons rfl rfl fun x755 y756 h757 e758 f759 => ?_
                obtain rfl := h757
                refine deps_nil ?_
                have L760 : ln ((y * z + x) % z) ≤ 1048576 := Nat.le_trans (ln_emod h0) Lz
                refine wl_call rfl rfl (vs := [.agg #[.bool s754, .slice A754 n754 c754], .agg #[.bool sf, .slice Af nf cf]]) (by kernel_rfl) (by decide) (g_zint_Mod hw25.size z754.zi (z754.le (Nat.le_trans L709 (by decide))) (hz.ext hw25) (Nat.le_trans lf (by decide)) h0) ?_
                rintro _ v761 ⟨xr763, rfl, r763, e762⟩
                refine ret_intro ?_
                have hw26 : Ext w v761 := hw25.trans e762
                obtain ⟨a764_0, a764_1, rfl, r764_0, r764_1⟩ := r763
                obtain ⟨s765, A765, n765, c765, rfl, z765⟩ := r764_0
                obtain rfl := r764_1
                exact pi_done rfl e762 ⟨_, _, rfl, ⟨_, _, _, _, rfl, z765⟩, rfl⟩
              · -- 6
                intro v766 e767
                have hw25 : Ext w v766 := hw24.trans e767
                refine deps_cons rfl rfl fun x768 y769 h770 e771 f772 => ?_
                obtain ⟨a773_0, a773_1, rfl, r773_0, r773_1⟩ := h770
                obtain ⟨s774, A774, n774, c774, rfl, z774⟩ := r773_0
                obtain rfl := r773_1
                have z774 := z774.ext f772
                refine deps_nil ?_
                refine wl_move rfl rfl (by decide) ?_
                exact pi_done rfl (Ext.refl _) ⟨_, _, rfl, ⟨_, _, _, _, rfl, z774⟩, rfl⟩
              · -- 7
                intro v775 e776
                have hw25 : Ext w v775 := hw24.trans e776
                refine deps_cons rfl rfl fun x777 y778 h779 e780 f781 => ?_
                obtain ⟨a782_0, a782_1, rfl, r782_0, r782_1⟩ := h779
                obtain ⟨s783, A783, n783, c783, rfl, z783⟩ := r782_0
                obtain rfl := r782_1
                have z783 := z783.ext f781
                refine deps_nil ?_
                exact ⟨.agg #[.bool s783, .slice A783 n783 c783], rfl, rfl, fun _ => by kernel_rfl, ⟨_, _, _, _, rfl, z783⟩⟩
              · -- 8
                intro v784 e785
                have hw25 : Ext w v784 := hw24.trans e785
                refine deps_cons rfl rfl fun x786 y787 h788 e789 f790 => ?_
                obtain ⟨a791_0, a791_1, rfl, r791_0, r791_1⟩ := h788
                obtain ⟨s792, A792, n792, c792, rfl, z792⟩ := r791_0
                obtain rfl := r791_1
                have z792 := z792.ext f790
                refine deps_nil ?_
                exact ⟨.int .i64 0, rfl, rfl, fun _ => by kernel_rfl, rfl⟩
              · -- 9
                intro v793 e794
                have hw25 : Ext w v793 := hw24.trans e794
                refine deps_nil ?_
                refine wl_alloc rfl (z := .agg #[.bool false, .slice none 0 0]) (vs := [.bool false, .slice none 0 0]) (fun _ => by kernel_rfl) rfl (by decide) fun g795 v796 nb => ?_
                exact pi_done rfl nb.ext ⟨_, rfl, by rw [← nb.at_]; exact e794.size, nb.bk⟩
              · -- all
                intro v797 e798
                have hw25 : Ext w v797 := hw24.trans e798
                refine deps_cons rfl rfl fun x799 y800 h801 e802 f803 => ?_
                obtain rfl := h801
                refine deps_cons rfl rfl fun x804 y805 h806 e807 f808 => ?_
                obtain rfl := h806
                refine deps_cons rfl rfl fun x809 y810 h811 e812 f813 => ?_
                obtain rfl := h811
                refine deps_cons rfl rfl fun x814 y815 h816 e817 f818 => ?_
                obtain ⟨s819, A819, n819, c819, rfl, z819⟩ := h816
                have z819 := z819.ext f818
                refine deps_cons rfl rfl fun x820 y821 h822 e823 f824 => ?_
                obtain rfl := h822
                refine deps_cons rfl rfl fun x825 y826 h827 e828 f829 => ?_
                obtain ⟨a830_0, a830_1, rfl, r830_0, r830_1⟩ := h827
                obtain ⟨s831, A831, n831, c831, rfl, z831⟩ := r830_0
                obtain rfl := r830_1
                have z831 := z831.ext f829
                refine deps_cons rfl rfl fun x832 y833 h834 e835 f836 => ?_
                obtain ⟨a837_0, a837_1, rfl, r837_0, r837_1⟩ := h834
                obtain ⟨s838, A838, n838, c838, rfl, z838⟩ := r837_0
                obtain rfl := r837_1
                have z838 := z838.ext f836
                refine deps_cons rfl rfl fun x839 y840 h841 e842 f843 => ?_
                obtain ⟨s844, A844, n844, c844, rfl, z844⟩ := h841
                have z844 := z844.ext f843
                refine deps_cons rfl rfl fun x845 y846 h847 e848 f849 => ?_
                obtain rfl := h847
                refine deps_cons rfl rfl fun x850 y851 h852 e853 f854 => ?_
                obtain ⟨g855, rfl, ge857, hb856⟩ := h852
                have hb856 := hb856.ext f854
                have q858 : g700 < g855 := Nat.lt_of_lt_of_le hb706.lt ge857
                have ge857 : w.heap.size ≤ g855 := Nat.le_trans hw24.size ge857
                refine deps_nil ?_
                have hb860 := hb856
                refine wl_stored rfl rfl rfl aggInt rfl hb860 (Nat.le_of_ble_eq_true rfl) rfl [.bool s844, .slice A844 n844 c844] rfl fun v859 hb861 u862 hs863 => ?_
                have hw26 : Ext w v859 := u862.ext hw25 ge857
                refine wl_assign rfl rfl (by decide) ?_
                refine wl_nil ?_
                refine eo_np ?_
                refine eo_then ?_
                refine cw_seq ?_
                refine cw_seq ?_
                refine cw_region ?_
                refine wl_move rfl rfl (by decide) ?_
                refine wl_cmp rfl rfl rfl false (by decide) (by decide) ?_
                refine wl_move rfl rfl (by decide) ?_
                refine wl_move rfl rfl (by decide) ?_
                refine wl_cmp rfl rfl rfl false (by decide) (by decide) ?_
                refine wl_pure rfl rfl (v := .bool false) (by decide) (by kernel_rfl) ?_
                refine wl_move rfl rfl (by decide) ?_
                refine wl_move rfl rfl (by decide) ?_
                refine wl_cmp rfl rfl rfl false (by decide) (by decide) ?_
                refine wl_pure rfl rfl (v := .bool false) (by decide) (by kernel_rfl) ?_
                refine wl_move rfl rfl (by decide) ?_
                refine wl_move rfl rfl (by decide) ?_
                refine wl_cmp rfl rfl rfl false (by decide) (by decide) ?_
                refine wl_pure rfl rfl (v := .bool false) (by decide) (by kernel_rfl) ?_
                refine wl_move rfl rfl (by decide) ?_
                refine wl_move rfl rfl (by decide) ?_
                refine wl_cmp rfl rfl rfl false (by decide) (by decide) ?_
                refine wl_pure rfl rfl (v := .bool false) (by decide) (by kernel_rfl) ?_
                refine wl_move rfl rfl (by decide) ?_
                refine wl_load rfl rfl (load_agg aggInt ((((((((hb256.ext e341).updN u400 (by omega)).ext e484).updN u543 (by omega)).ext e642).updN u707 (by omega)).ext e798).updN u862 (by omega)) [.bool s239, .slice A239 n239 c239] rfl (Nat.le_of_ble_eq_true rfl) rfl) (by decide) ?_
                refine wl_load rfl rfl (load_agg aggInt ((((((hb399.ext e484).updN u543 (by omega)).ext e642).updN u707 (by omega)).ext e798).updN u862 (by omega)) [.bool s382, .slice A382 n382 c382] rfl (Nat.le_of_ble_eq_true rfl) rfl) (by decide) ?_
                refine wl_call rfl rfl (vs := [.agg #[.bool s239, .slice A239 n239 c239], .agg #[.bool s382, .slice A382 n382 c382]]) (by kernel_rfl) (by decide) (g_law5_alike (((((((((z239.updT hb255 u257).ext e341).updT hb398 u400).ext e484).updT hb541 u543).ext e642).updT hb705 u707).ext e798).updT hb860 u862) (z239.le (Nat.le_trans L118 (by decide))) ((((((((z382.updT hb398 u400).ext e484).updT hb541 u543).ext e642).updT hb705 u707).ext e798).updT hb860 u862).cast (by first | exact res_mul.symm | exact res_mul | exact res_add.symm | exact res_add | exact res_mad | exact res_mad.symm | rfl)) (z382.le (Nat.le_trans L261 (by decide)))) ?_
                rintro _ v864 ⟨xr866, rfl, r866, e865⟩
                refine ret_intro ?_
                have hw27 : Ext w v864 := hw26.trans e865
                obtain rfl := r866
                refine wl_pure rfl rfl (v := .bool false) (by decide) (by kernel_rfl) ?_
                refine wl_pure rfl rfl (v := .bool false) (by decide) (by kernel_rfl) ?_
                refine wl_move rfl rfl (by decide) ?_
                refine wl_load rfl rfl (load_agg aggInt (((((hb542.ext e642).updN u707 (by omega)).ext e798).updN u862 (by omega)).ext e865) [.bool s525, .slice A525 n525 c525] rfl (Nat.le_of_ble_eq_true rfl) rfl) (by decide) ?_
                refine wl_load rfl rfl (load_agg aggInt (((hb706.ext e798).updN u862 (by omega)).ext e865) [.bool s689, .slice A689 n689 c689] rfl (Nat.le_of_ble_eq_true rfl) rfl) (by decide) ?_
                refine wl_call rfl rfl (vs := [.agg #[.bool s525, .slice A525 n525 c525], .agg #[.bool s689, .slice A689 n689 c689]]) (by kernel_rfl) (by decide) (g_law5_alike ((((((z525.updT hb541 u543).ext e642).updT hb705 u707).ext e798).updT hb860 u862).ext e865) (z525.le (Nat.le_trans L404 (by decide))) (((((z689.updT hb705 u707).ext e798).updT hb860 u862).ext e865).cast (by first | exact res_mul.symm | exact res_mul | exact res_add.symm | exact res_add | exact res_mad | exact res_mad.symm | rfl)) (z689.le (Nat.le_trans L549 (by decide)))) ?_
                rintro _ v867 ⟨xr869, rfl, r869, e868⟩
                refine ret_intro ?_
                have hw28 : Ext w v867 := hw27.trans e868
                obtain rfl := r869
                refine wl_pure rfl rfl (v := .bool false) (by decide) (by kernel_rfl) ?_
                refine wl_pure rfl rfl (v := .bool false) (by decide) (by kernel_rfl) ?_
                refine wl_move rfl rfl (by decide) ?_
                refine wl_load rfl rfl (load_agg aggInt (hb861.ext (e865.trans e868)) [.bool s844, .slice A844 n844 c844] rfl (Nat.le_of_ble_eq_true rfl) rfl) (by decide) ?_
                refine wl_load rfl rfl (load_agg aggInt (((((((((((((((hb70.ext (e75.trans e81)).updN u88 (by omega)).ext (e91.trans (e95.trans e101))).updN u108 (by omega)).ext (e111.trans (e114.trans e198))).updN u257 (by omega)).ext e341).updN u400 (by omega)).ext e484).updN u543 (by omega)).ext e642).updN u707 (by omega)).ext e798).updN u862 (by omega)).ext (e865.trans e868)) [.bool s61, .slice A61 n61 c61] rfl (Nat.le_of_ble_eq_true rfl) rfl) (by decide) ?_
                refine wl_call rfl rfl (vs := [.agg #[.bool s844, .slice A844 n844 c844], .agg #[.bool s61, .slice A61 n61 c61]]) (by kernel_rfl) (by decide) (g_law5_alike ((z844.updT hb860 u862).ext (e865.trans e868)) (z844.le (Nat.le_trans L711 (by decide))) ((((((((((((((((((z61.ext e64).updT hb69 u71).ext (e75.trans e81)).updT hb86 u88).ext (e91.trans (e95.trans e101))).updT hb106 u108).ext (e111.trans (e114.trans e198))).updT hb255 u257).ext e341).updT hb398 u400).ext e484).updT hb541 u543).ext e642).updT hb705 u707).ext e798).updT hb860 u862).ext (e865.trans e868)).cast (by first | exact res_mul.symm | exact res_mul | exact res_add.symm | exact res_add | exact res_mad | exact res_mad.symm | rfl)) (z61.le (Nat.le_trans L56 (by decide)))) ?_
                rintro _ v870 ⟨xr872, rfl, r872, e871⟩
                refine ret_intro ?_
                have hw29 : Ext w v870 := hw28.trans e871
                obtain rfl := r872
                refine wl_pure rfl rfl (v := .bool false) (by decide) (by kernel_rfl) ?_
                refine wl_pure rfl rfl (v := .bool false) (by decide) (by kernel_rfl) ?_
                refine wl_nil ?_
                refine eo_then ?_
                refine cw_false rfl ?_
                refine cw_skip ?_
                refine eo_then ?_
                refine cw_seq ?_
                have L873 : ln ((x % z) + (x % z)) ≤ 1048577 := Nat.le_trans (ln_add L56 L56) (by decide)
                have L875 : ln ((Int.natAbs z : Int)) ≤ 1048576 := (by rw [ln_abs]; exact Lz)
                refine cw_draw mix 6 [] [Is (.agg #[.bool s61, .slice A61 n61 c61]), Is (.agg #[.bool s61, .slice A61 n61 c61]), ZR w.heap.size ((x % z) + (x % z)), Is (.agg #[.bool sf, .slice Af nf cf]), ZR w.heap.size ((Int.natAbs z : Int)), Is (.int .i64 (scmp ((x % z) + (x % z)) (Int.natAbs z : Int)))] [[], [], [0, 1], [], [3], [2, 4]] [[], [], [0, 1], [], [0, 1, 2, 3], [0, 1, 2, 3, 4], [0, 1, 2, 3, 4, 5]] rfl
                  (obs_cons rfl rfl (hob rfl rfl ?_) (obs_cons rfl rfl (hob rfl rfl ?_) (obs_cons rfl rfl (hob rfl rfl ?_) (obs_cons rfl rfl (hob rfl rfl ?_) (obs_cons rfl rfl (hob rfl rfl ?_) (obs_cons rfl rfl (hob rfl rfl ?_) obs_nil)))))) ?_
                · -- 0
                  intro v877 e878
                  have hw30 : Ext w v877 := hw29.trans e878
                  refine deps_nil ?_
                  refine wl_load rfl rfl (load_agg aggInt (((((((((((((((hb70.ext (e75.trans e81)).updN u88 (by omega)).ext (e91.trans (e95.trans e101))).updN u108 (by omega)).ext (e111.trans (e114.trans e198))).updN u257 (by omega)).ext e341).updN u400 (by omega)).ext e484).updN u543 (by omega)).ext e642).updN u707 (by omega)).ext e798).updN u862 (by omega)).ext (e865.trans (e868.trans (e871.trans e878)))) [.bool s61, .slice A61 n61 c61] rfl (Nat.le_of_ble_eq_true rfl) rfl) (by decide) ?_
                  exact pi_done rfl (Ext.refl _) rfl
                · -- 1
                  intro v879 e880
                  have hw30 : Ext w v879 := hw29.trans e880
                  refine deps_nil ?_
                  refine wl_load rfl rfl (load_agg aggInt (((((((((((((((hb70.ext (e75.trans e81)).updN u88 (by omega)).ext (e91.trans (e95.trans e101))).updN u108 (by omega)).ext (e111.trans (e114.trans e198))).updN u257 (by omega)).ext e341).updN u400 (by omega)).ext e484).updN u543 (by omega)).ext e642).updN u707 (by omega)).ext e798).updN u862 (by omega)).ext (e865.trans (e868.trans (e871.trans e880)))) [.bool s61, .slice A61 n61 c61] rfl (Nat.le_of_ble_eq_true rfl) rfl) (by decide) ?_
                  exact pi_done rfl (Ext.refl _) rfl
                · -- 2
                  intro v881 e882
                  have hw30 : Ext w v881 := hw29.trans e882
                  refine deps_cons rfl rfl fun x883 y884 h885 e886 f887 => ?_
                  obtain rfl := h885
                  refine deps_cons rfl rfl fun x888 y889 h890 e891 f892 => ?_
                  obtain rfl := h890
                  refine deps_nil ?_
                  have L893 : ln ((x % z) + (x % z)) ≤ 1048577 := Nat.le_trans (ln_add L56 L56) (by decide)
                  refine wl_call rfl rfl (vs := [.agg #[.bool s61, .slice A61 n61 c61], .agg #[.bool s61, .slice A61 n61 c61]]) (by kernel_rfl) (by decide) (g_zint_Add hw30.size (((((((((((((((((z61.ext e64).updT hb69 u71).ext (e75.trans e81)).updT hb86 u88).ext (e91.trans (e95.trans e101))).updT hb106 u108).ext (e111.trans (e114.trans e198))).updT hb255 u257).ext e341).updT hb398 u400).ext e484).updT hb541 u543).ext e642).updT hb705 u707).ext e798).updT hb860 u862).ext (e865.trans (e868.trans (e871.trans e882)))).zi (z61.le (Nat.le_trans L56 (by decide))) (((((((((((((((((z61.ext e64).updT hb69 u71).ext (e75.trans e81)).updT hb86 u88).ext (e91.trans (e95.trans e101))).updT hb106 u108).ext (e111.trans (e114.trans e198))).updT hb255 u257).ext e341).updT hb398 u400).ext e484).updT hb541 u543).ext e642).updT hb705 u707).ext e798).updT hb860 u862).ext (e865.trans (e868.trans (e871.trans e882)))).zi (z61.le (Nat.le_trans L56 (by decide)))) ?_
                  rintro _ v894 ⟨xr896, rfl, r896, e895⟩
                  refine ret_intro ?_
                  have hw31 : Ext w v894 := hw30.trans e895
                  obtain ⟨s897, A897, n897, c897, rfl, z897⟩ := r896
                  exact pi_done rfl e895 ⟨_, _, _, _, rfl, z897⟩
                · -- 3
                  intro v898 e899
                  have hw30 : Ext w v898 := hw29.trans e899
                  refine deps_nil ?_
                  refine wl_load rfl rfl (load_agg aggInt (((((((((((((((((hb15.ext (e19.trans (e58.trans e64))).updN u71 (by omega)).ext (e75.trans e81)).updN u88 (by omega)).ext (e91.trans (e95.trans e101))).updN u108 (by omega)).ext (e111.trans (e114.trans e198))).updN u257 (by omega)).ext e341).updN u400 (by omega)).ext e484).updN u543 (by omega)).ext e642).updN u707 (by omega)).ext e798).updN u862 (by omega)).ext (e865.trans (e868.trans (e871.trans e899)))) [.bool sf, .slice Af nf cf] rfl (Nat.le_of_ble_eq_true rfl) rfl) (by decide) ?_
                  exact pi_done rfl (Ext.refl _) rfl
                · -- 4
                  intro v900 e901
                  have hw30 : Ext w v900 := hw29.trans e901
                  refine deps_cons rfl rfl fun x902 y903 h904 e905 f906 => ?_
                  obtain rfl := h904
                  refine deps_nil ?_
                  have L907 : ln ((Int.natAbs z : Int)) ≤ 1048576 := (by rw [ln_abs]; exact Lz)
                  refine wl_call rfl rfl (vs := [.agg #[.bool sf, .slice Af nf cf]]) (by kernel_rfl) (by decide) (g_zint_Abs hw30.size (hz.ext hw30) (Nat.le_trans lf (by decide))) ?_
                  rintro _ v908 ⟨xr910, rfl, r910, e909⟩
                  refine ret_intro ?_
                  have hw31 : Ext w v908 := hw30.trans e909
                  obtain ⟨s911, A911, n911, c911, rfl, z911⟩ := r910
                  exact pi_done rfl e909 ⟨_, _, _, _, rfl, z911⟩
                · -- 5
                  intro v912 e913
                  have hw30 : Ext w v912 := hw29.trans e913
                  refine deps_cons rfl rfl fun x914 y915 h916 e917 f918 => ?_
                  obtain ⟨s919, A919, n919, c919, rfl, z919⟩ := h916
                  have z919 := z919.ext f918
                  refine deps_cons rfl rfl fun x920 y921 h922 e923 f924 => ?_
                  obtain ⟨s925, A925, n925, c925, rfl, z925⟩ := h922
                  have z925 := z925.ext f924
                  refine deps_nil ?_
                  refine wl_call rfl rfl (vs := [.agg #[.bool s919, .slice A919 n919 c919], .agg #[.bool s925, .slice A925 n925 c925]]) (by kernel_rfl) (by decide) (g_zint_Cmp z919.zi (z919.le (Nat.le_trans L873 (by decide))) z925.zi (z925.le (Nat.le_trans L875 (by decide)))) ?_
                  rintro _ v926 ⟨xr928, rfl, r928, e927⟩
                  refine ret_intro ?_
                  have hw31 : Ext w v926 := hw30.trans e927
                  obtain rfl := r928
                  exact pi_done rfl e927 rfl
                · -- all
                  intro v929 e930
                  have hw30 : Ext w v929 := hw29.trans e930
                  refine deps_cons rfl rfl fun x931 y932 h933 e934 f935 => ?_
                  obtain rfl := h933
                  refine deps_cons rfl rfl fun x936 y937 h938 e939 f940 => ?_
                  obtain rfl := h938
                  refine deps_cons rfl rfl fun x941 y942 h943 e944 f945 => ?_
                  obtain ⟨s946, A946, n946, c946, rfl, z946⟩ := h943
                  have z946 := z946.ext f945
                  refine deps_cons rfl rfl fun x947 y948 h949 e950 f951 => ?_
                  obtain rfl := h949
                  refine deps_cons rfl rfl fun x952 y953 h954 e955 f956 => ?_
                  obtain ⟨s957, A957, n957, c957, rfl, z957⟩ := h954
                  have z957 := z957.ext f956
                  refine deps_cons rfl rfl fun x958 y959 h960 e961 f962 => ?_
                  obtain rfl := h960
                  refine deps_nil ?_
                  refine wl_assign rfl rfl (by decide) ?_
                  refine wl_nil ?_
                  refine eo_np ?_
                  refine eo_then ?_
                  refine cw_seq ?_
                  refine cw_seq ?_
                  refine cw_region ?_
                  refine wl_move rfl rfl (by decide) ?_
                  refine wl_cmp rfl rfl rfl true (scmp_le_t hgt) (by decide) ?_
                  refine wl_nil ?_
                  refine eo_then ?_
                  refine cw_true rfl ?_
                  refine cw_seq ?_
                  refine cw_region ?_
                  refine wl_load rfl rfl (load_agg aggInt (((((((((((((hb87.ext (e91.trans (e95.trans e101))).updN u108 (by omega)).ext (e111.trans (e114.trans e198))).updN u257 (by omega)).ext e341).updN u400 (by omega)).ext e484).updN u543 (by omega)).ext e642).updN u707 (by omega)).ext e798).updN u862 (by omega)).ext (e865.trans (e868.trans (e871.trans e930)))) [.bool s78, .slice A78 n78 c78] rfl (Nat.le_of_ble_eq_true rfl) rfl) (by decide) ?_
                  refine wl_load rfl rfl (load_agg aggInt (((((((((((((((hb70.ext (e75.trans e81)).updN u88 (by omega)).ext (e91.trans (e95.trans e101))).updN u108 (by omega)).ext (e111.trans (e114.trans e198))).updN u257 (by omega)).ext e341).updN u400 (by omega)).ext e484).updN u543 (by omega)).ext e642).updN u707 (by omega)).ext e798).updN u862 (by omega)).ext (e865.trans (e868.trans (e871.trans e930)))) [.bool s61, .slice A61 n61 c61] rfl (Nat.le_of_ble_eq_true rfl) rfl) (by decide) ?_
                  refine wl_call rfl rfl (vs := [.agg #[.bool s78, .slice A78 n78 c78], .agg #[.bool s61, .slice A61 n61 c61]]) (by kernel_rfl) (by decide) (g_law5_alike (((((((((((((((z78.ext e81).updT hb86 u88).ext (e91.trans (e95.trans e101))).updT hb106 u108).ext (e111.trans (e114.trans e198))).updT hb255 u257).ext e341).updT hb398 u400).ext e484).updT hb541 u543).ext e642).updT hb705 u707).ext e798).updT hb860 u862).ext (e865.trans (e868.trans (e871.trans e930)))) (z78.le (Nat.le_trans L73 (by decide))) (((((((((((((((((z61.ext e64).updT hb69 u71).ext (e75.trans e81)).updT hb86 u88).ext (e91.trans (e95.trans e101))).updT hb106 u108).ext (e111.trans (e114.trans e198))).updT hb255 u257).ext e341).updT hb398 u400).ext e484).updT hb541 u543).ext e642).updT hb705 u707).ext e798).updT hb860 u862).ext (e865.trans (e868.trans (e871.trans e930)))) (z61.le (Nat.le_trans L56 (by decide)))) ?_
                  rintro _ v963 ⟨xr965, rfl, r965, e964⟩
                  refine ret_intro ?_
                  have hw31 : Ext w v963 := hw30.trans e964
                  obtain rfl := r965
                  refine wl_assign rfl rfl (by decide) ?_
                  refine wl_nil ?_
                  refine eo_then ?_
                  refine cw_ret ?_
                  refine eo_thenR ?_
                  refine eo_ret [.bool true] rfl ⟨rfl, trivial⟩ ?_
                  exact bool_of _ _ ⟨_, rfl, rfl, hw31⟩
    ·
      have hgt2 : (z.natAbs : Int) < x % z + x % z := by omega
      refine cw_region ?_
      refine wl_load rfl rfl (load_agg aggInt (hb4.ext (e8.trans (e14.trans e19))) [.bool sa, .slice Aa na ca] rfl (Nat.le_of_ble_eq_true rfl) rfl) (by decide) ?_
      refine wl_load rfl rfl (load_agg aggInt (hb15.ext e19) [.bool sf, .slice Af nf cf] rfl (Nat.le_of_ble_eq_true rfl) rfl) (by decide) ?_
      have L966 : ln (x % z) ≤ 1048576 := Nat.le_trans (ln_emod h0) Lz
      refine wl_call rfl rfl (vs := [.agg #[.bool sa, .slice Aa na ca], .agg #[.bool sf, .slice Af nf cf]]) (by kernel_rfl) (by decide) (g_zint_Mod hw4.size (hx.ext hw4) (Nat.le_trans la (by decide)) (hz.ext hw4) (Nat.le_trans lf (by decide)) h0) ?_
      rintro _ v967 ⟨xr969, rfl, r969, e968⟩
      refine ret_intro ?_
      have hw5 : Ext w v967 := hw4.trans e968
      obtain ⟨a970_0, a970_1, rfl, r970_0, r970_1⟩ := r969
      obtain ⟨s971, A971, n971, c971, rfl, z971⟩ := r970_0
      obtain rfl := r970_1
      refine wl_move rfl rfl (by decide) ?_
      refine wl_pure rfl rfl (v := .agg #[.bool s971, .slice A971 n971 c971]) (by decide) (by kernel_rfl) ?_
      refine wl_pure rfl rfl (v := .int .i64 0) (by decide) (by kernel_rfl) ?_
      refine wl_alloc rfl (z := .agg #[.bool false, .slice none 0 0]) (vs := [.bool false, .slice none 0 0]) (fun _ => by kernel_rfl) rfl (by decide) fun g972 v973 nb => ?_
      have hb975 := nb.bk
      have ge976 : w.heap.size ≤ g972 := by rw [← nb.at_]; exact hw5.size
      have q977 : g12 < g972 := by rw [← nb.at_]; exact (hb15.ext (e19.trans e968)).lt
      have e974 := nb.ext
      clear nb
      have hw6 : Ext w v973 := hw5.trans e974
      have hb979 := hb975
      refine wl_stored rfl rfl rfl aggInt rfl hb979 (Nat.le_of_ble_eq_true rfl) rfl [.bool s971, .slice A971 n971 c971] rfl fun v978 hb980 u981 hs982 => ?_
      have hw7 : Ext w v978 := u981.ext hw6 ge976
      refine wl_assign rfl rfl (by decide) ?_
      refine wl_nil ?_
      refine eo_then ?_
      refine cw_seq ?_
      refine cw_region ?_
      refine wl_load rfl rfl (load_agg aggInt ((hb4.ext (e8.trans (e14.trans (e19.trans (e968.trans e974))))).updN u981 (by omega)) [.bool sa, .slice Aa na ca] rfl (Nat.le_of_ble_eq_true rfl) rfl) (by decide) ?_
      refine wl_load rfl rfl (load_agg aggInt ((hb15.ext (e19.trans (e968.trans e974))).updN u981 (by omega)) [.bool sf, .slice Af nf cf] rfl (Nat.le_of_ble_eq_true rfl) rfl) (by decide) ?_
      have L983 : ln (x % z) ≤ 1048576 := Nat.le_trans (ln_emod h0) Lz
      have L984 : ln (x % z - (Int.natAbs z : Int)) ≤ 1048577 := Nat.le_trans (ln_sub L983 (by rw [ln_abs]; exact Lz)) (by decide)
      refine wl_call rfl rfl (vs := [.agg #[.bool sa, .slice Aa na ca], .agg #[.bool sf, .slice Af nf cf]]) (by kernel_rfl) (by decide) (g_zint_Sym_big hw7.size (hx.ext hw7) (Nat.le_trans la (by decide)) (hz.ext hw7) (Nat.le_trans lf (by decide)) h0 hgt2) ?_
      rintro _ v985 ⟨xr987, rfl, r987, e986⟩
      refine ret_intro ?_
      have hw8 : Ext w v985 := hw7.trans e986
      obtain ⟨a988_0, a988_1, rfl, r988_0, r988_1⟩ := r987
      obtain ⟨s989, A989, n989, c989, rfl, z989⟩ := r988_0
      obtain rfl := r988_1
      refine wl_move rfl rfl (by decide) ?_
      refine wl_pure rfl rfl (v := .agg #[.bool s989, .slice A989 n989 c989]) (by decide) (by kernel_rfl) ?_
      refine wl_pure rfl rfl (v := .int .i64 0) (by decide) (by kernel_rfl) ?_
      refine wl_alloc rfl (z := .agg #[.bool false, .slice none 0 0]) (vs := [.bool false, .slice none 0 0]) (fun _ => by kernel_rfl) rfl (by decide) fun g990 v991 nb => ?_
      have hb993 := nb.bk
      have ge994 : w.heap.size ≤ g990 := by rw [← nb.at_]; exact hw8.size
      have q995 : g972 < g990 := by rw [← nb.at_]; exact (hb980.ext e986).lt
      have e992 := nb.ext
      clear nb
      have hw9 : Ext w v991 := hw8.trans e992
      have hb997 := hb993
      refine wl_stored rfl rfl rfl aggInt rfl hb997 (Nat.le_of_ble_eq_true rfl) rfl [.bool s989, .slice A989 n989 c989] rfl fun v996 hb998 u999 hs1000 => ?_
      have hw10 : Ext w v996 := u999.ext hw9 ge994
      refine wl_assign rfl rfl (by decide) ?_
      refine wl_nil ?_
      refine eo_then ?_
      refine cw_seq ?_
      refine cw_seq ?_
      refine cw_region ?_
      refine wl_load rfl rfl (load_agg aggInt ((((hb15.ext (e19.trans (e968.trans e974))).updN u981 (by omega)).ext (e986.trans e992)).updN u999 (by omega)) [.bool sf, .slice Af nf cf] rfl (Nat.le_of_ble_eq_true rfl) rfl) (by decide) ?_
      refine wl_call rfl rfl (vs := [.agg #[.bool sf, .slice Af nf cf]]) (by kernel_rfl) (by decide) (g_zint_Sign (hz.ext hw10) (Nat.le_trans lf (by decide))) ?_
      rintro _ v1001 ⟨xr1003, rfl, r1003, e1002⟩
      refine ret_intro ?_
      have hw11 : Ext w v1001 := hw10.trans e1002
      obtain rfl := r1003
      refine wl_cmp rfl rfl rfl false (scmp_eq_f h0) (by decide) ?_
      refine wl_nil ?_
      refine eo_then ?_
      refine cw_false rfl ?_
      refine cw_skip ?_
      refine eo_then ?_
      refine cw_seq ?_
      refine cw_region ?_
      refine wl_load rfl rfl (load_agg aggInt (((((hb9.ext (e14.trans (e19.trans (e968.trans e974)))).updN u981 (by omega)).ext (e986.trans e992)).updN u999 (by omega)).ext e1002) [.bool sb, .slice Ab nb cb] rfl (Nat.le_of_ble_eq_true rfl) rfl) (by decide) ?_
      refine wl_load rfl rfl (load_agg aggInt (((((hb15.ext (e19.trans (e968.trans e974))).updN u981 (by omega)).ext (e986.trans e992)).updN u999 (by omega)).ext e1002) [.bool sf, .slice Af nf cf] rfl (Nat.le_of_ble_eq_true rfl) rfl) (by decide) ?_
      have L1004 : ln (y % z) ≤ 1048576 := Nat.le_trans (ln_emod h0) Lz
      refine wl_call rfl rfl (vs := [.agg #[.bool sb, .slice Ab nb cb], .agg #[.bool sf, .slice Af nf cf]]) (by kernel_rfl) (by decide) (g_zint_Mod hw11.size (hy.ext hw11) (Nat.le_trans lb (by decide)) (hz.ext hw11) (Nat.le_trans lf (by decide)) h0) ?_
      rintro _ v1005 ⟨xr1007, rfl, r1007, e1006⟩
      refine ret_intro ?_
      have hw12 : Ext w v1005 := hw11.trans e1006
      obtain ⟨a1008_0, a1008_1, rfl, r1008_0, r1008_1⟩ := r1007
      obtain ⟨s1009, A1009, n1009, c1009, rfl, z1009⟩ := r1008_0
      obtain rfl := r1008_1
      refine wl_move rfl rfl (by decide) ?_
      refine wl_pure rfl rfl (v := .agg #[.bool s1009, .slice A1009 n1009 c1009]) (by decide) (by kernel_rfl) ?_
      refine wl_pure rfl rfl (v := .int .i64 0) (by decide) (by kernel_rfl) ?_
      refine wl_alloc rfl (z := .agg #[.bool false, .slice none 0 0]) (vs := [.bool false, .slice none 0 0]) (fun _ => by kernel_rfl) rfl (by decide) fun g1010 v1011 nb => ?_
      have hb1013 := nb.bk
      have ge1014 : w.heap.size ≤ g1010 := by rw [← nb.at_]; exact hw12.size
      have q1015 : g990 < g1010 := by rw [← nb.at_]; exact (hb998.ext (e1002.trans e1006)).lt
      have e1012 := nb.ext
      clear nb
      have hw13 : Ext w v1011 := hw12.trans e1012
      have hb1017 := hb1013
      refine wl_stored rfl rfl rfl aggInt rfl hb1017 (Nat.le_of_ble_eq_true rfl) rfl [.bool s1009, .slice A1009 n1009 c1009] rfl fun v1016 hb1018 u1019 hs1020 => ?_
      have hw14 : Ext w v1016 := u1019.ext hw13 ge1014
      refine wl_assign rfl rfl (by decide) ?_
      refine wl_nil ?_
      refine eo_then ?_
      refine cw_seq ?_
      refine cw_seq ?_
      refine cw_region ?_
      refine wl_move rfl rfl (by decide) ?_
      refine wl_cmp rfl rfl rfl false (by decide) (by decide) ?_
      refine wl_move rfl rfl (by decide) ?_
      refine wl_move rfl rfl (by decide) ?_
      refine wl_cmp rfl rfl rfl false (by decide) (by decide) ?_
      refine wl_pure rfl rfl (v := .bool false) (by decide) (by kernel_rfl) ?_
      refine wl_move rfl rfl (by decide) ?_
      refine wl_move rfl rfl (by decide) ?_
      refine wl_cmp rfl rfl rfl false (by decide) (by decide) ?_
      refine wl_pure rfl rfl (v := .bool false) (by decide) (by kernel_rfl) ?_
      refine wl_move rfl rfl (by decide) ?_
      refine wl_load rfl rfl (load_agg aggInt ((((hb980.ext (e986.trans e992)).updN u999 (by omega)).ext (e1002.trans (e1006.trans e1012))).updN u1019 (by omega)) [.bool s971, .slice A971 n971 c971] rfl (Nat.le_of_ble_eq_true rfl) rfl) (by decide) ?_
      refine wl_load rfl rfl (load_agg aggInt ((((((hb15.ext (e19.trans (e968.trans e974))).updN u981 (by omega)).ext (e986.trans e992)).updN u999 (by omega)).ext (e1002.trans (e1006.trans e1012))).updN u1019 (by omega)) [.bool sf, .slice Af nf cf] rfl (Nat.le_of_ble_eq_true rfl) rfl) (by decide) ?_
      refine wl_call rfl rfl (vs := [.agg #[.bool s971, .slice A971 n971 c971], .agg #[.bool sf, .slice Af nf cf]]) (by kernel_rfl) (by decide) (g_law5_within ((((((z971.ext e974).updT hb979 u981).ext (e986.trans e992)).updT hb997 u999).ext (e1002.trans (e1006.trans e1012))).updT hb1017 u1019).zi (z971.le (Nat.le_trans L966 (by decide))) (hz.ext hw14) (Nat.le_trans lf (by decide)) (emod_in5 h0).1 (emod_in5 h0).2) ?_
      rintro _ v1021 ⟨xr1023, rfl, r1023, e1022⟩
      refine ret_intro ?_
      have hw15 : Ext w v1021 := hw14.trans e1022
      obtain rfl := r1023
      refine wl_pure rfl rfl (v := .bool false) (by decide) (by kernel_rfl) ?_
      refine wl_pure rfl rfl (v := .bool false) (by decide) (by kernel_rfl) ?_
      refine wl_move rfl rfl (by decide) ?_
      refine wl_load rfl rfl (load_agg aggInt (hb1018.ext e1022) [.bool s1009, .slice A1009 n1009 c1009] rfl (Nat.le_of_ble_eq_true rfl) rfl) (by decide) ?_
      refine wl_load rfl rfl (load_agg aggInt (((((((hb15.ext (e19.trans (e968.trans e974))).updN u981 (by omega)).ext (e986.trans e992)).updN u999 (by omega)).ext (e1002.trans (e1006.trans e1012))).updN u1019 (by omega)).ext e1022) [.bool sf, .slice Af nf cf] rfl (Nat.le_of_ble_eq_true rfl) rfl) (by decide) ?_
      refine wl_call rfl rfl (vs := [.agg #[.bool s1009, .slice A1009 n1009 c1009], .agg #[.bool sf, .slice Af nf cf]]) (by kernel_rfl) (by decide) (g_law5_within (((z1009.ext e1012).updT hb1017 u1019).ext e1022).zi (z1009.le (Nat.le_trans L1004 (by decide))) (hz.ext hw15) (Nat.le_trans lf (by decide)) (emod_in5 h0).1 (emod_in5 h0).2) ?_
      rintro _ v1024 ⟨xr1026, rfl, r1026, e1025⟩
      refine ret_intro ?_
      have hw16 : Ext w v1024 := hw15.trans e1025
      obtain rfl := r1026
      refine wl_pure rfl rfl (v := .bool false) (by decide) (by kernel_rfl) ?_
      refine wl_pure rfl rfl (v := .bool false) (by decide) (by kernel_rfl) ?_
      refine wl_nil ?_
      refine eo_then ?_
      refine cw_false rfl ?_
      refine cw_skip ?_
      refine eo_then ?_
      refine cw_seq ?_
      have L1027 : ln (x * y) ≤ 2097152 := Nat.le_trans (ln_mul Lx Ly) (by decide)
      have L1029 : ln ((x * y) % z) ≤ 1048576 := Nat.le_trans (ln_emod h0) Lz
      refine cw_draw mix 9 [6, 7] [Is (.agg #[.bool sa, .slice Aa na ca]), Is (.agg #[.bool sb, .slice Ab nb cb]), ZR w.heap.size (x * y), Is (.agg #[.bool sf, .slice Af nf cf]), T2 (ZR w.heap.size ((x * y) % z)) (Is (.int .i64 0)), T2 (ZR w.heap.size ((x * y) % z)) (Is (.int .i64 0)), ZR w.heap.size ((x * y) % z), Is (.int .i64 0), PR v1024.heap.size 24 [.bool false, .slice none 0 0]] [[], [], [0, 1], [], [2, 3], [4], [5], [5], []] [[], [], [0, 1], [], [0, 1, 2, 3], [0, 1, 2, 3, 4], [0, 1, 2, 3, 4, 5], [0, 1, 2, 3, 4, 5], [], [0, 1, 2, 3, 4, 5, 6, 8], [0, 1, 2, 3, 4, 5, 6, 7, 8, 9]] rfl
        (obs_cons rfl rfl (hob rfl rfl ?_) (obs_cons rfl rfl (hob rfl rfl ?_) (obs_cons rfl rfl (hob rfl rfl ?_) (obs_cons rfl rfl (hob rfl rfl ?_) (obs_cons rfl rfl (hob rfl rfl ?_) (obs_cons rfl rfl (hob rfl rfl ?_) (obs_float rfl rfl (fob rfl ?_) (obs_float rfl rfl (fob rfl ?_) (obs_cons rfl rfl (hob rfl rfl ?_) obs_nil))))))))) ?_
      · -- 0
        intro v1035 e1036
        have hw17 : Ext w v1035 := hw16.trans e1036
        refine deps_nil ?_
        refine wl_load rfl rfl (load_agg aggInt (((((((hb4.ext (e8.trans (e14.trans (e19.trans (e968.trans e974))))).updN u981 (by omega)).ext (e986.trans e992)).updN u999 (by omega)).ext (e1002.trans (e1006.trans e1012))).updN u1019 (by omega)).ext (e1022.trans (e1025.trans e1036))) [.bool sa, .slice Aa na ca] rfl (Nat.le_of_ble_eq_true rfl) rfl) (by decide) ?_
        exact pi_done rfl (Ext.refl _) rfl
      · -- 1
        intro v1037 e1038
        have hw17 : Ext w v1037 := hw16.trans e1038
        refine deps_nil ?_
        refine wl_load rfl rfl (load_agg aggInt (((((((hb9.ext (e14.trans (e19.trans (e968.trans e974)))).updN u981 (by omega)).ext (e986.trans e992)).updN u999 (by omega)).ext (e1002.trans (e1006.trans e1012))).updN u1019 (by omega)).ext (e1022.trans (e1025.trans e1038))) [.bool sb, .slice Ab nb cb] rfl (Nat.le_of_ble_eq_true rfl) rfl) (by decide) ?_
        exact pi_done rfl (Ext.refl _) rfl
      · -- 2
        intro v1039 e1040
        have hw17 : Ext w v1039 := hw16.trans e1040
        refine deps_cons rfl rfl fun x1041 y1042 h1043 e1044 f1045 => ?_
        obtain rfl := h1043
        refine deps_cons rfl rfl fun x1046 y1047 h1048 e1049 f1050 => ?_
        obtain rfl := h1048
        refine deps_nil ?_
        have L1051 : ln (x * y) ≤ 2097152 := Nat.le_trans (ln_mul Lx Ly) (by decide)
        refine wl_call rfl rfl (vs := [.agg #[.bool sa, .slice Aa na ca], .agg #[.bool sb, .slice Ab nb cb]]) (by kernel_rfl) (by decide) (g_zint_Mul hw17.size (hx.ext hw17) (Nat.le_trans la (by decide)) (hy.ext hw17) (Nat.le_trans lb (by decide))) ?_
        rintro _ v1052 ⟨xr1054, rfl, r1054, e1053⟩
        refine ret_intro ?_
        have hw18 : Ext w v1052 := hw17.trans e1053
        obtain ⟨s1055, A1055, n1055, c1055, rfl, z1055⟩ := r1054
        exact pi_done rfl e1053 ⟨_, _, _, _, rfl, z1055⟩
      · -- 3
        intro v1056 e1057
        have hw17 : Ext w v1056 := hw16.trans e1057
        refine deps_nil ?_
        refine wl_load rfl rfl (load_agg aggInt (((((((hb15.ext (e19.trans (e968.trans e974))).updN u981 (by omega)).ext (e986.trans e992)).updN u999 (by omega)).ext (e1002.trans (e1006.trans e1012))).updN u1019 (by omega)).ext (e1022.trans (e1025.trans e1057))) [.bool sf, .slice Af nf cf] rfl (Nat.le_of_ble_eq_true rfl) rfl) (by decide) ?_
        exact pi_done rfl (Ext.refl _) rfl
      · -- 4
        intro v1058 e1059
        have hw17 : Ext w v1058 := hw16.trans e1059
        refine deps_cons rfl rfl fun x1060 y1061 h1062 e1063 f1064 => ?_
        obtain ⟨s1065, A1065, n1065, c1065, rfl, z1065⟩ := h1062
        have z1065 := z1065.ext f1064
        refine deps_cons rfl rfl fun x1066 y1067 h1068 e1069 f1070 => ?_
        obtain rfl := h1068
        refine deps_nil ?_
        have L1071 : ln ((x * y) % z) ≤ 1048576 := Nat.le_trans (ln_emod h0) Lz
        refine wl_call rfl rfl (vs := [.agg #[.bool s1065, .slice A1065 n1065 c1065], .agg #[.bool sf, .slice Af nf cf]]) (by kernel_rfl) (by decide) (g_zint_Mod hw17.size z1065.zi (z1065.le (Nat.le_trans L1027 (by decide))) (hz.ext hw17) (Nat.le_trans lf (by decide)) h0) ?_
        rintro _ v1072 ⟨xr1074, rfl, r1074, e1073⟩
        refine ret_intro ?_
        have hw18 : Ext w v1072 := hw17.trans e1073
        obtain ⟨a1075_0, a1075_1, rfl, r1075_0, r1075_1⟩ := r1074
        obtain ⟨s1076, A1076, n1076, c1076, rfl, z1076⟩ := r1075_0
        obtain rfl := r1075_1
        exact pi_done rfl e1073 ⟨_, _, rfl, ⟨_, _, _, _, rfl, z1076⟩, rfl⟩
      · -- 5
        intro v1077 e1078
        have hw17 : Ext w v1077 := hw16.trans e1078
        refine deps_cons rfl rfl fun x1079 y1080 h1081 e1082 f1083 => ?_
        obtain ⟨a1084_0, a1084_1, rfl, r1084_0, r1084_1⟩ := h1081
        obtain ⟨s1085, A1085, n1085, c1085, rfl, z1085⟩ := r1084_0
        obtain rfl := r1084_1
        have z1085 := z1085.ext f1083
        refine deps_nil ?_
        refine wl_move rfl rfl (by decide) ?_
        exact pi_done rfl (Ext.refl _) ⟨_, _, rfl, ⟨_, _, _, _, rfl, z1085⟩, rfl⟩
      · -- 6
        intro v1086 e1087
        have hw17 : Ext w v1086 := hw16.trans e1087
        refine deps_cons rfl rfl fun x1088 y1089 h1090 e1091 f1092 => ?_
        obtain ⟨a1093_0, a1093_1, rfl, r1093_0, r1093_1⟩ := h1090
        obtain ⟨s1094, A1094, n1094, c1094, rfl, z1094⟩ := r1093_0
        obtain rfl := r1093_1
        have z1094 := z1094.ext f1092
        refine deps_nil ?_
        exact ⟨.agg #[.bool s1094, .slice A1094 n1094 c1094], rfl, rfl, fun _ => by kernel_rfl, ⟨_, _, _, _, rfl, z1094⟩⟩
      · -- 7
        intro v1095 e1096
        have hw17 : Ext w v1095 := hw16.trans e1096
        refine deps_cons rfl rfl fun x1097 y1098 h1099 e1100 f1101 => ?_
        obtain ⟨a1102_0, a1102_1, rfl, r1102_0, r1102_1⟩ := h1099
        obtain ⟨s1103, A1103, n1103, c1103, rfl, z1103⟩ := r1102_0
        obtain rfl := r1102_1
        have z1103 := z1103.ext f1101
        refine deps_nil ?_
        exact ⟨.int .i64 0, rfl, rfl, fun _ => by kernel_rfl, rfl⟩
      · -- 8
        intro v1104 e1105
        have hw17 : Ext w v1104 := hw16.trans e1105
        refine deps_nil ?_
        refine wl_alloc rfl (z := .agg #[.bool false, .slice none 0 0]) (vs := [.bool false, .slice none 0 0]) (fun _ => by kernel_rfl) rfl (by decide) fun g1106 v1107 nb => ?_
        exact pi_done rfl nb.ext ⟨_, rfl, by rw [← nb.at_]; exact e1105.size, nb.bk⟩
      · -- all
        intro v1108 e1109
        have hw17 : Ext w v1108 := hw16.trans e1109
        refine deps_cons rfl rfl fun x1110 y1111 h1112 e1113 f1114 => ?_
        obtain rfl := h1112
        refine deps_cons rfl rfl fun x1115 y1116 h1117 e1118 f1119 => ?_
        obtain rfl := h1117
        refine deps_cons rfl rfl fun x1120 y1121 h1122 e1123 f1124 => ?_
        obtain ⟨s1125, A1125, n1125, c1125, rfl, z1125⟩ := h1122
        have z1125 := z1125.ext f1124
        refine deps_cons rfl rfl fun x1126 y1127 h1128 e1129 f1130 => ?_
        obtain rfl := h1128
        refine deps_cons rfl rfl fun x1131 y1132 h1133 e1134 f1135 => ?_
        obtain ⟨a1136_0, a1136_1, rfl, r1136_0, r1136_1⟩ := h1133
        obtain ⟨s1137, A1137, n1137, c1137, rfl, z1137⟩ := r1136_0
        obtain rfl := r1136_1
        have z1137 := z1137.ext f1135
        refine deps_cons rfl rfl fun x1138 y1139 h1140 e1141 f1142 => ?_
        obtain ⟨a1143_0, a1143_1, rfl, r1143_0, r1143_1⟩ := h1140
        obtain ⟨s1144, A1144, n1144, c1144, rfl, z1144⟩ := r1143_0
        obtain rfl := r1143_1
        have z1144 := z1144.ext f1142
        refine deps_cons rfl rfl fun x1145 y1146 h1147 e1148 f1149 => ?_
        obtain ⟨s1150, A1150, n1150, c1150, rfl, z1150⟩ := h1147
        have z1150 := z1150.ext f1149
        refine deps_cons rfl rfl fun x1151 y1152 h1153 e1154 f1155 => ?_
        obtain rfl := h1153
        refine deps_cons rfl rfl fun x1156 y1157 h1158 e1159 f1160 => ?_
        obtain ⟨g1161, rfl, ge1163, hb1162⟩ := h1158
        have hb1162 := hb1162.ext f1160
        have q1164 : g1010 < g1161 := Nat.lt_of_lt_of_le (hb1018.ext (e1022.trans e1025)).lt ge1163
        have ge1163 : w.heap.size ≤ g1161 := Nat.le_trans hw16.size ge1163
        refine deps_nil ?_
        have hb1166 := hb1162
        refine wl_stored rfl rfl rfl aggInt rfl hb1166 (Nat.le_of_ble_eq_true rfl) rfl [.bool s1150, .slice A1150 n1150 c1150] rfl fun v1165 hb1167 u1168 hs1169 => ?_
        have hw18 : Ext w v1165 := u1168.ext hw17 ge1163
        refine wl_assign rfl rfl (by decide) ?_
        refine wl_nil ?_
        refine eo_np ?_
        refine eo_then ?_
        refine cw_seq ?_
        have L1170 : ln ((x % z) * (y % z)) ≤ 2097152 := Nat.le_trans (ln_mul L966 L1004) (by decide)
        have L1172 : ln (((x % z) * (y % z)) % z) ≤ 1048576 := Nat.le_trans (ln_emod h0) Lz
        refine cw_draw mix 9 [6, 7] [Is (.agg #[.bool s971, .slice A971 n971 c971]), Is (.agg #[.bool s1009, .slice A1009 n1009 c1009]), ZR w.heap.size ((x % z) * (y % z)), Is (.agg #[.bool sf, .slice Af nf cf]), T2 (ZR w.heap.size (((x % z) * (y % z)) % z)) (Is (.int .i64 0)), T2 (ZR w.heap.size (((x % z) * (y % z)) % z)) (Is (.int .i64 0)), ZR w.heap.size (((x % z) * (y % z)) % z), Is (.int .i64 0), PR v1165.heap.size 24 [.bool false, .slice none 0 0]] [[], [], [0, 1], [], [2, 3], [4], [5], [5], []] [[], [], [0, 1], [], [0, 1, 2, 3], [0, 1, 2, 3, 4], [0, 1, 2, 3, 4, 5], [0, 1, 2, 3, 4, 5], [], [0, 1, 2, 3, 4, 5, 6, 8], [0, 1, 2, 3, 4, 5, 6, 7, 8, 9]] rfl
          (obs_cons rfl rfl (hob rfl rfl ?_) (obs_cons rfl rfl (hob rfl rfl ?_) (obs_cons rfl rfl (hob rfl rfl ?_) (obs_cons rfl rfl (hob rfl rfl ?_) (obs_cons rfl rfl (hob rfl rfl ?_) (obs_cons rfl rfl (hob rfl rfl ?_) (obs_float rfl rfl (fob rfl ?_) (obs_float rfl rfl (fob rfl ?_) (obs_cons rfl rfl (hob rfl rfl ?_) obs_nil))))))))) ?_
        · -- 0
          intro v1178 e1179
          have hw19 : Ext w v1178 := hw18.trans e1179
          refine deps_nil ?_
          refine wl_load rfl rfl (load_agg aggInt (((((((hb980.ext (e986.trans e992)).updN u999 (by omega)).ext (e1002.trans (e1006.trans e1012))).updN u1019 (by omega)).ext (e1022.trans (e1025.trans e1109))).updN u1168 (by omega)).ext e1179) [.bool s971, .slice A971 n971 c971] rfl (Nat.le_of_ble_eq_true rfl) rfl) (by decide) ?_
          exact pi_done rfl (Ext.refl _) rfl
        · -- 1
          intro v1180 e1181
          have hw19 : Ext w v1180 := hw18.trans e1181
          refine deps_nil ?_
          refine wl_load rfl rfl (load_agg aggInt (((hb1018.ext (e1022.trans (e1025.trans e1109))).updN u1168 (by omega)).ext e1181) [.bool s1009, .slice A1009 n1009 c1009] rfl (Nat.le_of_ble_eq_true rfl) rfl) (by decide) ?_
          exact pi_done rfl (Ext.refl _) rfl
        · -- 2
          intro v1182 e1183
          have hw19 : Ext w v1182 := hw18.trans e1183
          refine deps_cons rfl rfl fun x1184 y1185 h1186 e1187 f1188 => ?_
          obtain rfl := h1186
          refine deps_cons rfl rfl fun x1189 y1190 h1191 e1192 f1193 => ?_
          obtain rfl := h1191
          refine deps_nil ?_
          have L1194 : ln ((x % z) * (y % z)) ≤ 2097152 := Nat.le_trans (ln_mul L966 L1004) (by decide)
          refine wl_call rfl rfl (vs := [.agg #[.bool s971, .slice A971 n971 c971], .agg #[.bool s1009, .slice A1009 n1009 c1009]]) (by kernel_rfl) (by decide) (g_zint_Mul hw19.size (((((((((z971.ext e974).updT hb979 u981).ext (e986.trans e992)).updT hb997 u999).ext (e1002.trans (e1006.trans e1012))).updT hb1017 u1019).ext (e1022.trans (e1025.trans e1109))).updT hb1166 u1168).ext e1183).zi (z971.le (Nat.le_trans L966 (by decide))) (((((z1009.ext e1012).updT hb1017 u1019).ext (e1022.trans (e1025.trans e1109))).updT hb1166 u1168).ext e1183).zi (z1009.le (Nat.le_trans L1004 (by decide)))) ?_
          rintro _ v1195 ⟨xr1197, rfl, r1197, e1196⟩
          refine ret_intro ?_
          have hw20 : Ext w v1195 := hw19.trans e1196
          obtain ⟨s1198, A1198, n1198, c1198, rfl, z1198⟩ := r1197
          exact pi_done rfl e1196 ⟨_, _, _, _, rfl, z1198⟩
        · -- 3
          intro v1199 e1200
          have hw19 : Ext w v1199 := hw18.trans e1200
          refine deps_nil ?_
          refine wl_load rfl rfl (load_agg aggInt (((((((((hb15.ext (e19.trans (e968.trans e974))).updN u981 (by omega)).ext (e986.trans e992)).updN u999 (by omega)).ext (e1002.trans (e1006.trans e1012))).updN u1019 (by omega)).ext (e1022.trans (e1025.trans e1109))).updN u1168 (by omega)).ext e1200) [.bool sf, .slice Af nf cf] rfl (Nat.le_of_ble_eq_true rfl) rfl) (by decide) ?_
          exact pi_done rfl (Ext.refl _) rfl
        · -- 4
          intro v1201 e1202
          have hw19 : Ext w v1201 := hw18.trans e1202
          refine deps_cons rfl rfl fun x1203 y1204 h1205 e1206 f1207 => ?_
          obtain ⟨s1208, A1208, n1208, c1208, rfl, z1208⟩ := h1205
          have z1208 := z1208.ext f1207
          refine deps_cons rfl rfl fun x1209 y1210 h1211 e1212 f1213 => ?_
          obtain rfl := h1211
          refine deps_nil ?_
          have L1214 : ln (((x % z) * (y % z)) % z) ≤ 1048576 := Nat.le_trans (ln_emod h0) Lz
          refine wl_call rfl rfl (vs := [.agg #[.bool s1208, .slice A1208 n1208 c1208], .agg #[.bool sf, .slice Af nf cf]]) (by kernel_rfl) (by decide) (g_zint_Mod hw19.size z1208.zi (z1208.le (Nat.le_trans L1170 (by decide))) (hz.ext hw19) (Nat.le_trans lf (by decide)) h0) ?_
          rintro _ v1215 ⟨xr1217, rfl, r1217, e1216⟩
          refine ret_intro ?_
          have hw20 : Ext w v1215 := hw19.trans e1216
          obtain ⟨a1218_0, a1218_1, rfl, r1218_0, r1218_1⟩ := r1217
          obtain ⟨s1219, A1219, n1219, c1219, rfl, z1219⟩ := r1218_0
          obtain rfl := r1218_1
          exact pi_done rfl e1216 ⟨_, _, rfl, ⟨_, _, _, _, rfl, z1219⟩, rfl⟩
        · -- 5
          intro v1220 e1221
          have hw19 : Ext w v1220 := hw18.trans e1221
          refine deps_cons rfl rfl fun x1222 y1223 h1224 e1225 f1226 => ?_
          obtain ⟨a1227_0, a1227_1, rfl, r1227_0, r1227_1⟩ := h1224
          obtain ⟨s1228, A1228, n1228, c1228, rfl, z1228⟩ := r1227_0
          obtain rfl := r1227_1
          have z1228 := z1228.ext f1226
          refine deps_nil ?_
          refine wl_move rfl rfl (by decide) ?_
          exact pi_done rfl (Ext.refl _) ⟨_, _, rfl, ⟨_, _, _, _, rfl, z1228⟩, rfl⟩
        · -- 6
          intro v1229 e1230
          have hw19 : Ext w v1229 := hw18.trans e1230
          refine deps_cons rfl rfl fun x1231 y1232 h1233 e1234 f1235 => ?_
          obtain ⟨a1236_0, a1236_1, rfl, r1236_0, r1236_1⟩ := h1233
          obtain ⟨s1237, A1237, n1237, c1237, rfl, z1237⟩ := r1236_0
          obtain rfl := r1236_1
          have z1237 := z1237.ext f1235
          refine deps_nil ?_
          exact ⟨.agg #[.bool s1237, .slice A1237 n1237 c1237], rfl, rfl, fun _ => by kernel_rfl, ⟨_, _, _, _, rfl, z1237⟩⟩
        · -- 7
          intro v1238 e1239
          have hw19 : Ext w v1238 := hw18.trans e1239
          refine deps_cons rfl rfl fun x1240 y1241 h1242 e1243 f1244 => ?_
          obtain ⟨a1245_0, a1245_1, rfl, r1245_0, r1245_1⟩ := h1242
          obtain ⟨s1246, A1246, n1246, c1246, rfl, z1246⟩ := r1245_0
          obtain rfl := r1245_1
          have z1246 := z1246.ext f1244
          refine deps_nil ?_
          exact ⟨.int .i64 0, rfl, rfl, fun _ => by kernel_rfl, rfl⟩
        · -- 8
          intro v1247 e1248
          have hw19 : Ext w v1247 := hw18.trans e1248
          refine deps_nil ?_
          refine wl_alloc rfl (z := .agg #[.bool false, .slice none 0 0]) (vs := [.bool false, .slice none 0 0]) (fun _ => by kernel_rfl) rfl (by decide) fun g1249 v1250 nb => ?_
          exact pi_done rfl nb.ext ⟨_, rfl, by rw [← nb.at_]; exact e1248.size, nb.bk⟩
        · -- all
          intro v1251 e1252
          have hw19 : Ext w v1251 := hw18.trans e1252
          refine deps_cons rfl rfl fun x1253 y1254 h1255 e1256 f1257 => ?_
          obtain rfl := h1255
          refine deps_cons rfl rfl fun x1258 y1259 h1260 e1261 f1262 => ?_
          obtain rfl := h1260
          refine deps_cons rfl rfl fun x1263 y1264 h1265 e1266 f1267 => ?_
          obtain ⟨s1268, A1268, n1268, c1268, rfl, z1268⟩ := h1265
          have z1268 := z1268.ext f1267
          refine deps_cons rfl rfl fun x1269 y1270 h1271 e1272 f1273 => ?_
          obtain rfl := h1271
          refine deps_cons rfl rfl fun x1274 y1275 h1276 e1277 f1278 => ?_
          obtain ⟨a1279_0, a1279_1, rfl, r1279_0, r1279_1⟩ := h1276
          obtain ⟨s1280, A1280, n1280, c1280, rfl, z1280⟩ := r1279_0
          obtain rfl := r1279_1
          have z1280 := z1280.ext f1278
          refine deps_cons rfl rfl fun x1281 y1282 h1283 e1284 f1285 => ?_
          obtain ⟨a1286_0, a1286_1, rfl, r1286_0, r1286_1⟩ := h1283
          obtain ⟨s1287, A1287, n1287, c1287, rfl, z1287⟩ := r1286_0
          obtain rfl := r1286_1
          have z1287 := z1287.ext f1285
          refine deps_cons rfl rfl fun x1288 y1289 h1290 e1291 f1292 => ?_
          obtain ⟨s1293, A1293, n1293, c1293, rfl, z1293⟩ := h1290
          have z1293 := z1293.ext f1292
          refine deps_cons rfl rfl fun x1294 y1295 h1296 e1297 f1298 => ?_
          obtain rfl := h1296
          refine deps_cons rfl rfl fun x1299 y1300 h1301 e1302 f1303 => ?_
          obtain ⟨g1304, rfl, ge1306, hb1305⟩ := h1301
          have hb1305 := hb1305.ext f1303
          have q1307 : g1161 < g1304 := Nat.lt_of_lt_of_le hb1167.lt ge1306
          have ge1306 : w.heap.size ≤ g1304 := Nat.le_trans hw18.size ge1306
          refine deps_nil ?_
          have hb1309 := hb1305
          refine wl_stored rfl rfl rfl aggInt rfl hb1309 (Nat.le_of_ble_eq_true rfl) rfl [.bool s1293, .slice A1293 n1293 c1293] rfl fun v1308 hb1310 u1311 hs1312 => ?_
          have hw20 : Ext w v1308 := u1311.ext hw19 ge1306
          refine wl_assign rfl rfl (by decide) ?_
          refine wl_nil ?_
          refine eo_np ?_
          refine eo_then ?_
          refine cw_seq ?_
          have L1313 : ln (x + y) ≤ 1048577 := Nat.le_trans (ln_add Lx Ly) (by decide)
          have L1315 : ln ((x + y) % z) ≤ 1048576 := Nat.le_trans (ln_emod h0) Lz
          refine cw_draw mix 9 [6, 7] [Is (.agg #[.bool sa, .slice Aa na ca]), Is (.agg #[.bool sb, .slice Ab nb cb]), ZR w.heap.size (x + y), Is (.agg #[.bool sf, .slice Af nf cf]), T2 (ZR w.heap.size ((x + y) % z)) (Is (.int .i64 0)), T2 (ZR w.heap.size ((x + y) % z)) (Is (.int .i64 0)), ZR w.heap.size ((x + y) % z), Is (.int .i64 0), PR v1308.heap.size 24 [.bool false, .slice none 0 0]] [[], [], [0, 1], [], [2, 3], [4], [5], [5], []] [[], [], [0, 1], [], [0, 1, 2, 3], [0, 1, 2, 3, 4], [0, 1, 2, 3, 4, 5], [0, 1, 2, 3, 4, 5], [], [0, 1, 2, 3, 4, 5, 6, 8], [0, 1, 2, 3, 4, 5, 6, 7, 8, 9]] rfl
            (obs_cons rfl rfl (hob rfl rfl ?_) (obs_cons rfl rfl (hob rfl rfl ?_) (obs_cons rfl rfl (hob rfl rfl ?_) (obs_cons rfl rfl (hob rfl rfl ?_) (obs_cons rfl rfl (hob rfl rfl ?_) (obs_cons rfl rfl (hob rfl rfl ?_) (obs_float rfl rfl (fob rfl ?_) (obs_float rfl rfl (fob rfl ?_) (obs_cons rfl rfl (hob rfl rfl ?_) obs_nil))))))))) ?_
          · -- 0
            intro v1321 e1322
            have hw21 : Ext w v1321 := hw20.trans e1322
            refine deps_nil ?_
            refine wl_load rfl rfl (load_agg aggInt (((((((((((hb4.ext (e8.trans (e14.trans (e19.trans (e968.trans e974))))).updN u981 (by omega)).ext (e986.trans e992)).updN u999 (by omega)).ext (e1002.trans (e1006.trans e1012))).updN u1019 (by omega)).ext (e1022.trans (e1025.trans e1109))).updN u1168 (by omega)).ext e1252).updN u1311 (by omega)).ext e1322) [.bool sa, .slice Aa na ca] rfl (Nat.le_of_ble_eq_true rfl) rfl) (by decide) ?_
            exact pi_done rfl (Ext.refl _) rfl
          · -- 1
            intro v1323 e1324
            have hw21 : Ext w v1323 := hw20.trans e1324
            refine deps_nil ?_
            refine wl_load rfl rfl (load_agg aggInt (((((((((((hb9.ext (e14.trans (e19.trans (e968.trans e974)))).updN u981 (by omega)).ext (e986.trans e992)).updN u999 (by omega)).ext (e1002.trans (e1006.trans e1012))).updN u1019 (by omega)).ext (e1022.trans (e1025.trans e1109))).updN u1168 (by omega)).ext e1252).updN u1311 (by omega)).ext e1324) [.bool sb, .slice Ab nb cb] rfl (Nat.le_of_ble_eq_true rfl) rfl) (by decide) ?_
            exact pi_done rfl (Ext.refl _) rfl
          · -- 2
            intro v1325 e1326
            have hw21 : Ext w v1325 := hw20.trans e1326
            refine deps_cons rfl rfl fun x1327 y1328 h1329 e1330 f1331 => ?_
            obtain rfl := h1329
            refine deps_cons rfl rfl fun x1332 y1333 h1334 e1335 f1336 => ?_
            obtain rfl := h1334
            refine deps_nil ?_
            have L1337 : ln (x + y) ≤ 1048577 := Nat.le_trans (ln_add Lx Ly) (by decide)
            refine wl_call rfl rfl (vs := [.agg #[.bool sa, .slice Aa na ca], .agg #[.bool sb, .slice Ab nb cb]]) (by kernel_rfl) (by decide) (g_zint_Add hw21.size (hx.ext hw21) (Nat.le_trans la (by decide)) (hy.ext hw21) (Nat.le_trans lb (by decide))) ?_
            rintro _ v1338 ⟨xr1340, rfl, r1340, e1339⟩
            refine ret_intro ?_
            have hw22 : Ext w v1338 := hw21.trans e1339
            obtain ⟨s1341, A1341, n1341, c1341, rfl, z1341⟩ := r1340
            exact pi_done rfl e1339 ⟨_, _, _, _, rfl, z1341⟩
          · -- 3
            intro v1342 e1343
            have hw21 : Ext w v1342 := hw20.trans e1343
            refine deps_nil ?_
            refine wl_load rfl rfl (load_agg aggInt (((((((((((hb15.ext (e19.trans (e968.trans e974))).updN u981 (by omega)).ext (e986.trans e992)).updN u999 (by omega)).ext (e1002.trans (e1006.trans e1012))).updN u1019 (by omega)).ext (e1022.trans (e1025.trans e1109))).updN u1168 (by omega)).ext e1252).updN u1311 (by omega)).ext e1343) [.bool sf, .slice Af nf cf] rfl (Nat.le_of_ble_eq_true rfl) rfl) (by decide) ?_
            exact pi_done rfl (Ext.refl _) rfl
          · -- 4
            intro v1344 e1345
            have hw21 : Ext w v1344 := hw20.trans e1345
            refine deps_cons rfl rfl fun x1346 y1347 h1348 e1349 f1350 => ?_
            obtain ⟨s1351, A1351, n1351, c1351, rfl, z1351⟩ := h1348
            have z1351 := z1351.ext f1350
            refine deps_cons rfl rfl fun x1352 y1353 h1354 e1355 f1356 => ?_
            obtain rfl := h1354
            refine deps_nil ?_
            have L1357 : ln ((x + y) % z) ≤ 1048576 := Nat.le_trans (ln_emod h0) Lz
            refine wl_call rfl rfl (vs := [.agg #[.bool s1351, .slice A1351 n1351 c1351], .agg #[.bool sf, .slice Af nf cf]]) (by kernel_rfl) (by decide) (g_zint_Mod hw21.size z1351.zi (z1351.le (Nat.le_trans L1313 (by decide))) (hz.ext hw21) (Nat.le_trans lf (by decide)) h0) ?_
            rintro _ v1358 ⟨xr1360, rfl, r1360, e1359⟩
            refine ret_intro ?_
            have hw22 : Ext w v1358 := hw21.trans e1359
            obtain ⟨a1361_0, a1361_1, rfl, r1361_0, r1361_1⟩ := r1360
            obtain ⟨s1362, A1362, n1362, c1362, rfl, z1362⟩ := r1361_0
            obtain rfl := r1361_1
            exact pi_done rfl e1359 ⟨_, _, rfl, ⟨_, _, _, _, rfl, z1362⟩, rfl⟩
          · -- 5
            intro v1363 e1364
            have hw21 : Ext w v1363 := hw20.trans e1364
            refine deps_cons rfl rfl fun x1365 y1366 h1367 e1368 f1369 => ?_
            obtain ⟨a1370_0, a1370_1, rfl, r1370_0, r1370_1⟩ := h1367
            obtain ⟨s1371, A1371, n1371, c1371, rfl, z1371⟩ := r1370_0
            obtain rfl := r1370_1
            have z1371 := z1371.ext f1369
            refine deps_nil ?_
            refine wl_move rfl rfl (by decide) ?_
            exact pi_done rfl (Ext.refl _) ⟨_, _, rfl, ⟨_, _, _, _, rfl, z1371⟩, rfl⟩
          · -- 6
            intro v1372 e1373
            have hw21 : Ext w v1372 := hw20.trans e1373
            refine deps_cons rfl rfl fun x1374 y1375 h1376 e1377 f1378 => ?_
            obtain ⟨a1379_0, a1379_1, rfl, r1379_0, r1379_1⟩ := h1376
            obtain ⟨s1380, A1380, n1380, c1380, rfl, z1380⟩ := r1379_0
            obtain rfl := r1379_1
            have z1380 := z1380.ext f1378
            refine deps_nil ?_
            exact ⟨.agg #[.bool s1380, .slice A1380 n1380 c1380], rfl, rfl, fun _ => by kernel_rfl, ⟨_, _, _, _, rfl, z1380⟩⟩
          · -- 7
            intro v1381 e1382
            have hw21 : Ext w v1381 := hw20.trans e1382
            refine deps_cons rfl rfl fun x1383 y1384 h1385 e1386 f1387 => ?_
            obtain ⟨a1388_0, a1388_1, rfl, r1388_0, r1388_1⟩ := h1385
            obtain ⟨s1389, A1389, n1389, c1389, rfl, z1389⟩ := r1388_0
            obtain rfl := r1388_1
            have z1389 := z1389.ext f1387
            refine deps_nil ?_
            exact ⟨.int .i64 0, rfl, rfl, fun _ => by kernel_rfl, rfl⟩
          · -- 8
            intro v1390 e1391
            have hw21 : Ext w v1390 := hw20.trans e1391
            refine deps_nil ?_
            refine wl_alloc rfl (z := .agg #[.bool false, .slice none 0 0]) (vs := [.bool false, .slice none 0 0]) (fun _ => by kernel_rfl) rfl (by decide) fun g1392 v1393 nb => ?_
            exact pi_done rfl nb.ext ⟨_, rfl, by rw [← nb.at_]; exact e1391.size, nb.bk⟩
          · -- all
            intro v1394 e1395
            have hw21 : Ext w v1394 := hw20.trans e1395
            refine deps_cons rfl rfl fun x1396 y1397 h1398 e1399 f1400 => ?_
            obtain rfl := h1398
            refine deps_cons rfl rfl fun x1401 y1402 h1403 e1404 f1405 => ?_
            obtain rfl := h1403
            refine deps_cons rfl rfl fun x1406 y1407 h1408 e1409 f1410 => ?_
            obtain ⟨s1411, A1411, n1411, c1411, rfl, z1411⟩ := h1408
            have z1411 := z1411.ext f1410
            refine deps_cons rfl rfl fun x1412 y1413 h1414 e1415 f1416 => ?_
            obtain rfl := h1414
            refine deps_cons rfl rfl fun x1417 y1418 h1419 e1420 f1421 => ?_
            obtain ⟨a1422_0, a1422_1, rfl, r1422_0, r1422_1⟩ := h1419
            obtain ⟨s1423, A1423, n1423, c1423, rfl, z1423⟩ := r1422_0
            obtain rfl := r1422_1
            have z1423 := z1423.ext f1421
            refine deps_cons rfl rfl fun x1424 y1425 h1426 e1427 f1428 => ?_
            obtain ⟨a1429_0, a1429_1, rfl, r1429_0, r1429_1⟩ := h1426
            obtain ⟨s1430, A1430, n1430, c1430, rfl, z1430⟩ := r1429_0
            obtain rfl := r1429_1
            have z1430 := z1430.ext f1428
            refine deps_cons rfl rfl fun x1431 y1432 h1433 e1434 f1435 => ?_
            obtain ⟨s1436, A1436, n1436, c1436, rfl, z1436⟩ := h1433
            have z1436 := z1436.ext f1435
            refine deps_cons rfl rfl fun x1437 y1438 h1439 e1440 f1441 => ?_
            obtain rfl := h1439
            refine deps_cons rfl rfl fun x1442 y1443 h1444 e1445 f1446 => ?_
            obtain ⟨g1447, rfl, ge1449, hb1448⟩ := h1444
            have hb1448 := hb1448.ext f1446
            have q1450 : g1304 < g1447 := Nat.lt_of_lt_of_le hb1310.lt ge1449
            have ge1449 : w.heap.size ≤ g1447 := Nat.le_trans hw20.size ge1449
            refine deps_nil ?_
            have hb1452 := hb1448
            refine wl_stored rfl rfl rfl aggInt rfl hb1452 (Nat.le_of_ble_eq_true rfl) rfl [.bool s1436, .slice A1436 n1436 c1436] rfl fun v1451 hb1453 u1454 hs1455 => ?_
            have hw22 : Ext w v1451 := u1454.ext hw21 ge1449
            refine wl_assign rfl rfl (by decide) ?_
            refine wl_nil ?_
            refine eo_np ?_
            refine eo_then ?_
            refine cw_seq ?_
            have L1456 : ln ((x % z) + (y % z)) ≤ 1048577 := Nat.le_trans (ln_add L966 L1004) (by decide)
            have L1458 : ln (-z) ≤ 1048576 := (by rw [ln_neg]; exact Lz)
            have L1460 : ln (((x % z) + (y % z)) % (-z)) ≤ 1048576 := Nat.le_trans (ln_emod h0n) L1458
            refine cw_draw mix 10 [7, 8] [Is (.agg #[.bool s971, .slice A971 n971 c971]), Is (.agg #[.bool s1009, .slice A1009 n1009 c1009]), ZR w.heap.size ((x % z) + (y % z)), Is (.agg #[.bool sf, .slice Af nf cf]), ZR w.heap.size (-z), T2 (ZR w.heap.size (((x % z) + (y % z)) % (-z))) (Is (.int .i64 0)), T2 (ZR w.heap.size (((x % z) + (y % z)) % (-z))) (Is (.int .i64 0)), ZR w.heap.size (((x % z) + (y % z)) % (-z)), Is (.int .i64 0), PR v1451.heap.size 24 [.bool false, .slice none 0 0]] [[], [], [0, 1], [], [3], [2, 4], [5], [6], [6], []] [[], [], [0, 1], [], [0, 1, 2, 3], [0, 1, 2, 3, 4], [0, 1, 2, 3, 4, 5], [0, 1, 2, 3, 4, 5, 6], [0, 1, 2, 3, 4, 5, 6], [], [0, 1, 2, 3, 4, 5, 6, 7, 9], [0, 1, 2, 3, 4, 5, 6, 7, 8, 9, 10]] rfl
              (obs_cons rfl rfl (hob rfl rfl ?_) (obs_cons rfl rfl (hob rfl rfl ?_) (obs_cons rfl rfl (hob rfl rfl ?_) (obs_cons rfl rfl (hob rfl rfl ?_) (obs_cons rfl rfl (hob rfl rfl ?_) (obs_cons rfl rfl (hob rfl rfl ?_) (obs_cons rfl rfl (hob rfl rfl ?_) (obs_float rfl rfl (fob rfl ?_) (obs_float rfl rfl (fob rfl ?_) (obs_cons rfl rfl (hob rfl rfl ?_) obs_nil)))))))))) ?_
            · -- 0
              intro v1466 e1467
              have hw23 : Ext w v1466 := hw22.trans e1467
              refine deps_nil ?_
              refine wl_load rfl rfl (load_agg aggInt (((((((((((hb980.ext (e986.trans e992)).updN u999 (by omega)).ext (e1002.trans (e1006.trans e1012))).updN u1019 (by omega)).ext (e1022.trans (e1025.trans e1109))).updN u1168 (by omega)).ext e1252).updN u1311 (by omega)).ext e1395).updN u1454 (by omega)).ext e1467) [.bool s971, .slice A971 n971 c971] rfl (Nat.le_of_ble_eq_true rfl) rfl) (by decide) ?_
              exact pi_done rfl (Ext.refl _) rfl
            · -- 1
              intro v1468 e1469
              have hw23 : Ext w v1468 := hw22.trans e1469
              refine deps_nil ?_
              refine wl_load rfl rfl (load_agg aggInt (((((((hb1018.ext (e1022.trans (e1025.trans e1109))).updN u1168 (by omega)).ext e1252).updN u1311 (by omega)).ext e1395).updN u1454 (by omega)).ext e1469) [.bool s1009, .slice A1009 n1009 c1009] rfl (Nat.le_of_ble_eq_true rfl) rfl) (by decide) ?_
              exact pi_done rfl (Ext.refl _) rfl
            · -- 2
              intro v1470 e1471
              have hw23 : Ext w v1470 := hw22.trans e1471
              refine deps_cons rfl rfl fun x1472 y1473 h1474 e1475 f1476 => ?_
              obtain rfl := h1474
              refine deps_cons rfl rfl fun x1477 y1478 h1479 e1480 f1481 => ?_
              obtain rfl := h1479
              refine deps_nil ?_
              have L1482 : ln ((x % z) + (y % z)) ≤ 1048577 := Nat.le_trans (ln_add L966 L1004) (by decide)
              refine wl_call rfl rfl (vs := [.agg #[.bool s971, .slice A971 n971 c971], .agg #[.bool s1009, .slice A1009 n1009 c1009]]) (by kernel_rfl) (by decide) (g_zint_Add hw23.size (((((((((((((z971.ext e974).updT hb979 u981).ext (e986.trans e992)).updT hb997 u999).ext (e1002.trans (e1006.trans e1012))).updT hb1017 u1019).ext (e1022.trans (e1025.trans e1109))).updT hb1166 u1168).ext e1252).updT hb1309 u1311).ext e1395).updT hb1452 u1454).ext e1471).zi (z971.le (Nat.le_trans L966 (by decide))) (((((((((z1009.ext e1012).updT hb1017 u1019).ext (e1022.trans (e1025.trans e1109))).updT hb1166 u1168).ext e1252).updT hb1309 u1311).ext e1395).updT hb1452 u1454).ext e1471).zi (z1009.le (Nat.le_trans L1004 (by decide)))) ?_
              rintro _ v1483 ⟨xr1485, rfl, r1485, e1484⟩
              refine ret_intro ?_
              have hw24 : Ext w v1483 := hw23.trans e1484
              obtain ⟨s1486, A1486, n1486, c1486, rfl, z1486⟩ := r1485
              exact pi_done rfl e1484 ⟨_, _, _, _, rfl, z1486⟩
            · -- 3
              intro v1487 e1488
              have hw23 : Ext w v1487 := hw22.trans e1488
              refine deps_nil ?_
              refine wl_load rfl rfl (load_agg aggInt (((((((((((((hb15.ext (e19.trans (e968.trans e974))).updN u981 (by omega)).ext (e986.trans e992)).updN u999 (by omega)).ext (e1002.trans (e1006.trans e1012))).updN u1019 (by omega)).ext (e1022.trans (e1025.trans e1109))).updN u1168 (by omega)).ext e1252).updN u1311 (by omega)).ext e1395).updN u1454 (by omega)).ext e1488) [.bool sf, .slice Af nf cf] rfl (Nat.le_of_ble_eq_true rfl) rfl) (by decide) ?_
              exact pi_done rfl (Ext.refl _) rfl
            · -- 4
              intro v1489 e1490
              have hw23 : Ext w v1489 := hw22.trans e1490
              refine deps_cons rfl rfl fun x1491 y1492 h1493 e1494 f1495 => ?_
              obtain rfl := h1493
              refine deps_nil ?_
              have L1496 : ln (-z) ≤ 1048576 := (by rw [ln_neg]; exact Lz)
              refine wl_call rfl rfl (vs := [.agg #[.bool sf, .slice Af nf cf]]) (by kernel_rfl) (by decide) (g_zint_Neg hw23.size (hz.ext hw23) (Nat.le_trans lf (by decide))) ?_
              rintro _ v1497 ⟨xr1499, rfl, r1499, e1498⟩
              refine ret_intro ?_
              have hw24 : Ext w v1497 := hw23.trans e1498
              obtain ⟨s1500, A1500, n1500, c1500, rfl, z1500⟩ := r1499
              exact pi_done rfl e1498 ⟨_, _, _, _, rfl, z1500⟩
            · -- 5
              intro v1501 e1502
              have hw23 : Ext w v1501 := hw22.trans e1502
              refine deps_cons rfl rfl fun x1503 y1504 h1505 e1506 f1507 => ?_
              obtain ⟨s1508, A1508, n1508, c1508, rfl, z1508⟩ := h1505
              have z1508 := z1508.ext f1507
              refine deps_cons rfl rfl fun x1509 y1510 h1511 e1512 f1513 => ?_
              obtain ⟨s1514, A1514, n1514, c1514, rfl, z1514⟩ := h1511
              have z1514 := z1514.ext f1513
              refine deps_nil ?_
              have L1515 : ln (((x % z) + (y % z)) % (-z)) ≤ 1048576 := Nat.le_trans (ln_emod h0n) L1458
              refine wl_call rfl rfl (vs := [.agg #[.bool s1508, .slice A1508 n1508 c1508], .agg #[.bool s1514, .slice A1514 n1514 c1514]]) (by kernel_rfl) (by decide) (g_zint_Mod hw23.size z1508.zi (z1508.le (Nat.le_trans L1456 (by decide))) z1514.zi (z1514.le (Nat.le_trans L1458 (by decide))) h0n) ?_
              rintro _ v1516 ⟨xr1518, rfl, r1518, e1517⟩
              refine ret_intro ?_
              have hw24 : Ext w v1516 := hw23.trans e1517
              obtain ⟨a1519_0, a1519_1, rfl, r1519_0, r1519_1⟩ := r1518
              obtain ⟨s1520, A1520, n1520, c1520, rfl, z1520⟩ := r1519_0
              obtain rfl := r1519_1
              exact pi_done rfl e1517 ⟨_, _, rfl, ⟨_, _, _, _, rfl, z1520⟩, rfl⟩
            · -- 6
              intro v1521 e1522
              have hw23 : Ext w v1521 := hw22.trans e1522
              refine deps_cons rfl rfl fun x1523 y1524 h1525 e1526 f1527 => ?_
              obtain ⟨a1528_0, a1528_1, rfl, r1528_0, r1528_1⟩ := h1525
              obtain ⟨s1529, A1529, n1529, c1529, rfl, z1529⟩ := r1528_0
              obtain rfl := r1528_1
              have z1529 := z1529.ext f1527
              refine deps_nil ?_
              refine wl_move rfl rfl (by decide) ?_
              exact pi_done rfl (Ext.refl _) ⟨_, _, rfl, ⟨_, _, _, _, rfl, z1529⟩, rfl⟩
            · -- 7
              intro v1530 e1531
              have hw23 : Ext w v1530 := hw22.trans e1531
              refine deps_cons rfl rfl fun x1532 y1533 h1534 e1535 f1536 => ?_
              obtain ⟨a1537_0, a1537_1, rfl, r1537_0, r1537_1⟩ := h1534
              obtain ⟨s1538, A1538, n1538, c1538, rfl, z1538⟩ := r1537_0
              obtain rfl := r1537_1
              have z1538 := z1538.ext f1536
              refine deps_nil ?_
              exact ⟨.agg #[.bool s1538, .slice A1538 n1538 c1538], rfl, rfl, fun _ => by kernel_rfl, ⟨_, _, _, _, rfl, z1538⟩⟩
            · -- 8
              intro v1539 e1540
              have hw23 : Ext w v1539 := hw22.trans e1540
              refine deps_cons rfl rfl fun x1541 y1542 h1543 e1544 f1545 => ?_
              obtain ⟨a1546_0, a1546_1, rfl, r1546_0, r1546_1⟩ := h1543
              obtain ⟨s1547, A1547, n1547, c1547, rfl, z1547⟩ := r1546_0
              obtain rfl := r1546_1
              have z1547 := z1547.ext f1545
              refine deps_nil ?_
              exact ⟨.int .i64 0, rfl, rfl, fun _ => by kernel_rfl, rfl⟩
            · -- 9
              intro v1548 e1549
              have hw23 : Ext w v1548 := hw22.trans e1549
              refine deps_nil ?_
              refine wl_alloc rfl (z := .agg #[.bool false, .slice none 0 0]) (vs := [.bool false, .slice none 0 0]) (fun _ => by kernel_rfl) rfl (by decide) fun g1550 v1551 nb => ?_
              exact pi_done rfl nb.ext ⟨_, rfl, by rw [← nb.at_]; exact e1549.size, nb.bk⟩
            · -- all
              intro v1552 e1553
              have hw23 : Ext w v1552 := hw22.trans e1553
              refine deps_cons rfl rfl fun x1554 y1555 h1556 e1557 f1558 => ?_
              obtain rfl := h1556
              refine deps_cons rfl rfl fun x1559 y1560 h1561 e1562 f1563 => ?_
              obtain rfl := h1561
              refine deps_cons rfl rfl fun x1564 y1565 h1566 e1567 f1568 => ?_
              obtain ⟨s1569, A1569, n1569, c1569, rfl, z1569⟩ := h1566
              have z1569 := z1569.ext f1568
              refine deps_cons rfl rfl fun x1570 y1571 h1572 e1573 f1574 => ?_
              obtain rfl := h1572
              refine deps_cons rfl rfl fun x1575 y1576 h1577 e1578 f1579 => ?_
              obtain ⟨s1580, A1580, n1580, c1580, rfl, z1580⟩ := h1577
              have z1580 := z1580.ext f1579
              refine deps_cons rfl rfl fun x1581 y1582 h1583 e1584 f1585 => ?_
              obtain ⟨a1586_0, a1586_1, rfl, r1586_0, r1586_1⟩ := h1583
              obtain ⟨s1587, A1587, n1587, c1587, rfl, z1587⟩ := r1586_0
              obtain rfl := r1586_1
              have z1587 := z1587.ext f1585
              refine deps_cons rfl rfl fun x1588 y1589 h1590 e1591 f1592 => ?_
              obtain ⟨a1593_0, a1593_1, rfl, r1593_0, r1593_1⟩ := h1590
              obtain ⟨s1594, A1594, n1594, c1594, rfl, z1594⟩ := r1593_0
              obtain rfl := r1593_1
              have z1594 := z1594.ext f1592
              refine deps_cons rfl rfl fun x1595 y1596 h1597 e1598 f1599 => ?_
              obtain ⟨s1600, A1600, n1600, c1600, rfl, z1600⟩ := h1597
              have z1600 := z1600.ext f1599
              refine deps_cons rfl rfl fun x1601 y1602 h1603 e1604 f1605 => ?_
              obtain rfl := h1603
              refine deps_cons rfl rfl fun x1606 y1607 h1608 e1609 f1610 => ?_
              obtain ⟨g1611, rfl, ge1613, hb1612⟩ := h1608
              have hb1612 := hb1612.ext f1610
              have q1614 : g1447 < g1611 := Nat.lt_of_lt_of_le hb1453.lt ge1613
              have ge1613 : w.heap.size ≤ g1611 := Nat.le_trans hw22.size ge1613
              refine deps_nil ?_
              have hb1616 := hb1612
              refine wl_stored rfl rfl rfl aggInt rfl hb1616 (Nat.le_of_ble_eq_true rfl) rfl [.bool s1600, .slice A1600 n1600 c1600] rfl fun v1615 hb1617 u1618 hs1619 => ?_
              have hw24 : Ext w v1615 := u1618.ext hw23 ge1613
              refine wl_assign rfl rfl (by decide) ?_
              refine wl_nil ?_
              refine eo_np ?_
              refine eo_then ?_
              refine cw_seq ?_
              have L1620 : ln (y * z + x) ≤ 2097153 := Nat.le_trans (ln_add (ln_mul Ly Lz) Lx) (by decide)
              have L1622 : ln ((y * z + x) % z) ≤ 1048576 := Nat.le_trans (ln_emod h0) Lz
              refine cw_draw mix 10 [7, 8] [Is (.agg #[.bool sb, .slice Ab nb cb]), Is (.agg #[.bool sf, .slice Af nf cf]), Is (.agg #[.bool sa, .slice Aa na ca]), ZR w.heap.size (y * z + x), Is (.agg #[.bool sf, .slice Af nf cf]), T2 (ZR w.heap.size ((y * z + x) % z)) (Is (.int .i64 0)), T2 (ZR w.heap.size ((y * z + x) % z)) (Is (.int .i64 0)), ZR w.heap.size ((y * z + x) % z), Is (.int .i64 0), PR v1615.heap.size 24 [.bool false, .slice none 0 0]] [[], [], [], [0, 1, 2], [], [3, 4], [5], [6], [6], []] [[], [], [], [0, 1, 2], [], [0, 1, 2, 3, 4], [0, 1, 2, 3, 4, 5], [0, 1, 2, 3, 4, 5, 6], [0, 1, 2, 3, 4, 5, 6], [], [0, 1, 2, 3, 4, 5, 6, 7, 9], [0, 1, 2, 3, 4, 5, 6, 7, 8, 9, 10]] rfl
                (obs_cons rfl rfl (hob rfl rfl ?_) (obs_cons rfl rfl (hob rfl rfl ?_) (obs_cons rfl rfl (hob rfl rfl ?_) (obs_cons rfl rfl (hob rfl rfl ?_) (obs_cons rfl rfl (hob rfl rfl ?_) (obs_cons rfl rfl (hob rfl rfl ?_) (obs_cons rfl rfl (hob rfl rfl ?_) (obs_float rfl rfl (fob rfl ?_) (obs_float rfl rfl (fob rfl ?_) (obs_cons rfl rfl (hob rfl rfl ?_) obs_nil)))))))))) ?_
              · -- 0
                intro v1628 e1629
                have hw25 : Ext w v1628 := hw24.trans e1629
                refine deps_nil ?_
                refine wl_load rfl rfl (load_agg aggInt (((((((((((((((hb9.ext (e14.trans (e19.trans (e968.trans e974)))).updN u981 (by omega)).ext (e986.trans e992)).updN u999 (by omega)).ext (e1002.trans (e1006.trans e1012))).updN u1019 (by omega)).ext (e1022.trans (e1025.trans e1109))).updN u1168 (by omega)).ext e1252).updN u1311 (by omega)).ext e1395).updN u1454 (by omega)).ext e1553).updN u1618 (by omega)).ext e1629) [.bool sb, .slice Ab nb cb] rfl (Nat.le_of_ble_eq_true rfl) rfl) (by decide) ?_
                exact pi_done rfl (Ext.refl _) rfl
              · -- 1
                intro v1630 e1631
                have hw25 : Ext w v1630 := hw24.trans e1631
                refine deps_nil ?_
                refine wl_load rfl rfl (load_agg aggInt (((((((((((((((hb15.ext (e19.trans (e968.trans e974))).updN u981 (by omega)).ext (e986.trans e992)).updN u999 (by omega)).ext (e1002.trans (e1006.trans e1012))).updN u1019 (by omega)).ext (e1022.trans (e1025.trans e1109))).updN u1168 (by omega)).ext e1252).updN u1311 (by omega)).ext e1395).updN u1454 (by omega)).ext e1553).updN u1618 (by omega)).ext e1631) [.bool sf, .slice Af nf cf] rfl (Nat.le_of_ble_eq_true rfl) rfl) (by decide) ?_
                exact pi_done rfl (Ext.refl _) rfl
              · -- 2
                intro v1632 e1633
                have hw25 : Ext w v1632 := hw24.trans e1633
                refine deps_nil ?_
                refine wl_load rfl rfl (load_agg aggInt (((((((((((((((hb4.ext (e8.trans (e14.trans (e19.trans (e968.trans e974))))).updN u981 (by omega)).ext (e986.trans e992)).updN u999 (by omega)).ext (e1002.trans (e1006.trans e1012))).updN u1019 (by omega)).ext (e1022.trans (e1025.trans e1109))).updN u1168 (by omega)).ext e1252).updN u1311 (by omega)).ext e1395).updN u1454 (by omega)).ext e1553).updN u1618 (by omega)).ext e1633) [.bool sa, .slice Aa na ca] rfl (Nat.le_of_ble_eq_true rfl) rfl) (by decide) ?_
                exact pi_done rfl (Ext.refl _) rfl
              · -- 3
                intro v1634 e1635
                have hw25 : Ext w v1634 := hw24.trans e1635
                refine deps_cons rfl rfl fun x1636 y1637 h1638 e1639 f1640 => ?_
                obtain rfl := h1638
                refine deps_cons rfl rfl fun x1641 y1642 h1643 e1644 f1645 => ?_
                obtain rfl := h1643
                refine deps_cons rfl rfl fun x1646 y1647 h1648 e1649 f1650 => ?_
                obtain rfl := h1648
                refine deps_nil ?_
                have L1651 : ln (y * z + x) ≤ 2097153 := Nat.le_trans (ln_add (ln_mul Ly Lz) Lx) (by decide)
                refine wl_call rfl rfl (vs := [.agg #[.bool sb, .slice Ab nb cb], .agg #[.bool sf, .slice Af nf cf], .agg #[.bool sa, .slice Aa na ca]]) (by kernel_rfl) (by decide) (g_zint_MulAdd hw25.size (hy.ext hw25) (Nat.le_trans lb (by decide)) (hz.ext hw25) (Nat.le_trans lf (by decide)) (hx.ext hw25) (Nat.le_trans la (by decide))) ?_
                rintro _ v1652 ⟨xr1654, rfl, r1654, e1653⟩
                refine ret_intro ?_
                have hw26 : Ext w v1652 := hw25.trans e1653
                obtain ⟨s1655, A1655, n1655, c1655, rfl, z1655⟩ := r1654
                exact pi_done rfl e1653 ⟨_, _, _, _, rfl, z1655⟩
              · -- 4
                intro v1656 e1657
                have hw25 : Ext w v1656 := hw24.trans e1657
                refine deps_nil ?_
                refine wl_load rfl rfl (load_agg aggInt (((((((((((((((hb15.ext (e19.trans (e968.trans e974))).updN u981 (by omega)).ext (e986.trans e992)).updN u999 (by omega)).ext (e1002.trans (e1006.trans e1012))).updN u1019 (by omega)).ext (e1022.trans (e1025.trans e1109))).updN u1168 (by omega)).ext e1252).updN u1311 (by omega)).ext e1395).updN u1454 (by omega)).ext e1553).updN u1618 (by omega)).ext e1657) [.bool sf, .slice Af nf cf] rfl (Nat.le_of_ble_eq_true rfl) rfl) (by decide) ?_
                exact pi_done rfl (Ext.refl _) rfl
              · -- 5
                intro v1658 e1659
                have hw25 : Ext w v1658 := hw24.trans e1659
                refine deps_cons rfl rfl fun x1660 y1661 h1662 e1663 f1664 => ?_
                obtain ⟨s1665, A1665, n1665, c1665, rfl, z1665⟩ := h1662
                have z1665 := z1665.ext f1664
                refine deps_cons rfl rfl fun x1666 y1667 h1668 e1669 f1670 => ?_
                obtain rfl := h1668
                refine deps_nil ?_
                have L1671 : ln ((y * z + x) % z) ≤ 1048576 := Nat.le_trans (ln_emod h0) Lz
                refine wl_call rfl rfl (vs := [.agg #[.bool s1665, .slice A1665 n1665 c1665], .agg #[.bool sf, .slice Af nf cf]]) (by kernel_rfl) (by decide) (g_zint_Mod hw25.size z1665.zi (z1665.le (Nat.le_trans L1620 (by decide))) (hz.ext hw25) (Nat.le_trans lf (by decide)) h0) ?_
                rintro _ v1672 ⟨xr1674, rfl, r1674, e1673⟩
                refine ret_intro ?_
                have hw26 : Ext w v1672 := hw25.trans e1673
                obtain ⟨a1675_0, a1675_1, rfl, r1675_0, r1675_1⟩ := r1674
                obtain ⟨s1676, A1676, n1676, c1676, rfl, z1676⟩ := r1675_0
                obtain rfl := r1675_1
                exact pi_done rfl e1673 ⟨_, _, rfl, ⟨_, _, _, _, rfl, z1676⟩, rfl⟩
              · -- 6
                intro v1677 e1678
                have hw25 : Ext w v1677 := hw24.trans e1678
                refine deps_cons rfl rfl fun x1679 y1680 h1681 e1682 f1683 => ?_
                obtain ⟨a1684_0, a1684_1, rfl, r1684_0, r1684_1⟩ := h1681
                obtain ⟨s1685, A1685, n1685, c1685, rfl, z1685⟩ := r1684_0
                obtain rfl := r1684_1
                have z1685 := z1685.ext f1683
                refine deps_nil ?_
                refine wl_move rfl rfl (by decide) ?_
                exact pi_done rfl (Ext.refl _) ⟨_, _, rfl, ⟨_, _, _, _, rfl, z1685⟩, rfl⟩
              · -- 7
                intro v1686 e1687
                have hw25 : Ext w v1686 := hw24.trans e1687
                refine deps_cons rfl rfl fun x1688 y1689 h1690 e1691 f1692 => ?_
                obtain ⟨a1693_0, a1693_1, rfl, r1693_0, r1693_1⟩ := h1690
                obtain ⟨s1694, A1694, n1694, c1694, rfl, z1694⟩ := r1693_0
                obtain rfl := r1693_1
                have z1694 := z1694.ext f1692
                refine deps_nil ?_
                exact ⟨.agg #[.bool s1694, .slice A1694 n1694 c1694], rfl, rfl, fun _ => by kernel_rfl, ⟨_, _, _, _, rfl, z1694⟩⟩
              · -- 8
                intro v1695 e1696
                have hw25 : Ext w v1695 := hw24.trans e1696
                refine deps_cons rfl rfl fun x1697 y1698 h1699 e1700 f1701 => ?_
                obtain ⟨a1702_0, a1702_1, rfl, r1702_0, r1702_1⟩ := h1699
                obtain ⟨s1703, A1703, n1703, c1703, rfl, z1703⟩ := r1702_0
                obtain rfl := r1702_1
                have z1703 := z1703.ext f1701
                refine deps_nil ?_
                exact ⟨.int .i64 0, rfl, rfl, fun _ => by kernel_rfl, rfl⟩
              · -- 9
                intro v1704 e1705
                have hw25 : Ext w v1704 := hw24.trans e1705
                refine deps_nil ?_
                refine wl_alloc rfl (z := .agg #[.bool false, .slice none 0 0]) (vs := [.bool false, .slice none 0 0]) (fun _ => by kernel_rfl) rfl (by decide) fun g1706 v1707 nb => ?_
                exact pi_done rfl nb.ext ⟨_, rfl, by rw [← nb.at_]; exact e1705.size, nb.bk⟩
              · -- all
                intro v1708 e1709
                have hw25 : Ext w v1708 := hw24.trans e1709
                refine deps_cons rfl rfl fun x1710 y1711 h1712 e1713 f1714 => ?_
                obtain rfl := h1712
                refine deps_cons rfl rfl fun x1715 y1716 h1717 e1718 f1719 => ?_
                obtain rfl := h1717
                refine deps_cons rfl rfl fun x1720 y1721 h1722 e1723 f1724 => ?_
                obtain rfl := h1722
                refine deps_cons rfl rfl fun x1725 y1726 h1727 e1728 f1729 => ?_
                obtain ⟨s1730, A1730, n1730, c1730, rfl, z1730⟩ := h1727
                have z1730 := z1730.ext f1729
                refine deps_cons rfl rfl fun x1731 y1732 h1733 e1734 f1735 => ?_
                obtain rfl := h1733
                refine deps_cons rfl rfl fun x1736 y1737 h1738 e1739 f1740 => ?_
                obtain ⟨a1741_0, a1741_1, rfl, r1741_0, r1741_1⟩ := h1738
                obtain ⟨s1742, A1742, n1742, c1742, rfl, z1742⟩ := r1741_0
                obtain rfl := r1741_1
                have z1742 := z1742.ext f1740
                refine deps_cons rfl rfl fun x1743 y1744 h1745 e1746 f1747 => ?_
                obtain ⟨a1748_0, a1748_1, rfl, r1748_0, r1748_1⟩ := h1745
                obtain ⟨s1749, A1749, n1749, c1749, rfl, z1749⟩ := r1748_0
                obtain rfl := r1748_1
                have z1749 := z1749.ext f1747
                refine deps_cons rfl rfl fun x1750 y1751 h1752 e1753 f1754 => ?_
                obtain ⟨s1755, A1755, n1755, c1755, rfl, z1755⟩ := h1752
                have z1755 := z1755.ext f1754
                refine deps_cons rfl rfl fun x1756 y1757 h1758 e1759 f1760 => ?_
                obtain rfl := h1758
                refine deps_cons rfl rfl fun x1761 y1762 h1763 e1764 f1765 => ?_
                obtain ⟨g1766, rfl, ge1768, hb1767⟩ := h1763
                have hb1767 := hb1767.ext f1765
                have q1769 : g1611 < g1766 := Nat.lt_of_lt_of_le hb1617.lt ge1768
                have ge1768 : w.heap.size ≤ g1766 := Nat.le_trans hw24.size ge1768
                refine deps_nil ?_
                have hb1771 := hb1767
                refine wl_stored rfl rfl rfl aggInt rfl hb1771 (Nat.le_of_ble_eq_true rfl) rfl [.bool s1755, .slice A1755 n1755 c1755] rfl fun v1770 hb1772 u1773 hs1774 => ?_
                have hw26 : Ext w v1770 := u1773.ext hw25 ge1768
                refine wl_assign rfl rfl (by decide) ?_
                refine wl_nil ?_
                refine eo_np ?_
                refine eo_then ?_
                refine cw_seq ?_
                refine cw_seq ?_
                refine cw_region ?_
                refine wl_move rfl rfl (by decide) ?_
                refine wl_cmp rfl rfl rfl false (by decide) (by decide) ?_
                refine wl_move rfl rfl (by decide) ?_
                refine wl_move rfl rfl (by decide) ?_
                refine wl_cmp rfl rfl rfl false (by decide) (by decide) ?_
                refine wl_pure rfl rfl (v := .bool false) (by decide) (by kernel_rfl) ?_
                refine wl_move rfl rfl (by decide) ?_
                refine wl_move rfl rfl (by decide) ?_
                refine wl_cmp rfl rfl rfl false (by decide) (by decide) ?_
                refine wl_pure rfl rfl (v := .bool false) (by decide) (by kernel_rfl) ?_
                refine wl_move rfl rfl (by decide) ?_
                refine wl_move rfl rfl (by decide) ?_
                refine wl_cmp rfl rfl rfl false (by decide) (by decide) ?_
                refine wl_pure rfl rfl (v := .bool false) (by decide) (by kernel_rfl) ?_
                refine wl_move rfl rfl (by decide) ?_
                refine wl_move rfl rfl (by decide) ?_
                refine wl_cmp rfl rfl rfl false (by decide) (by decide) ?_
                refine wl_pure rfl rfl (v := .bool false) (by decide) (by kernel_rfl) ?_
                refine wl_move rfl rfl (by decide) ?_
                refine wl_load rfl rfl (load_agg aggInt ((((((((hb1167.ext e1252).updN u1311 (by omega)).ext e1395).updN u1454 (by omega)).ext e1553).updN u1618 (by omega)).ext e1709).updN u1773 (by omega)) [.bool s1150, .slice A1150 n1150 c1150] rfl (Nat.le_of_ble_eq_true rfl) rfl) (by decide) ?_
                refine wl_load rfl rfl (load_agg aggInt ((((((hb1310.ext e1395).updN u1454 (by omega)).ext e1553).updN u1618 (by omega)).ext e1709).updN u1773 (by omega)) [.bool s1293, .slice A1293 n1293 c1293] rfl (Nat.le_of_ble_eq_true rfl) rfl) (by decide) ?_
                refine wl_call rfl rfl (vs := [.agg #[.bool s1150, .slice A1150 n1150 c1150], .agg #[.bool s1293, .slice A1293 n1293 c1293]]) (by kernel_rfl) (by decide) (g_law5_alike (((((((((z1150.updT hb1166 u1168).ext e1252).updT hb1309 u1311).ext e1395).updT hb1452 u1454).ext e1553).updT hb1616 u1618).ext e1709).updT hb1771 u1773) (z1150.le (Nat.le_trans L1029 (by decide))) ((((((((z1293.updT hb1309 u1311).ext e1395).updT hb1452 u1454).ext e1553).updT hb1616 u1618).ext e1709).updT hb1771 u1773).cast (by first | exact res_mul.symm | exact res_mul | exact res_add.symm | exact res_add | exact res_mad | exact res_mad.symm | rfl)) (z1293.le (Nat.le_trans L1172 (by decide)))) ?_
                rintro _ v1775 ⟨xr1777, rfl, r1777, e1776⟩
                refine ret_intro ?_
                have hw27 : Ext w v1775 := hw26.trans e1776
                obtain rfl := r1777
                refine wl_pure rfl rfl (v := .bool false) (by decide) (by kernel_rfl) ?_
                refine wl_pure rfl rfl (v := .bool false) (by decide) (by kernel_rfl) ?_
                refine wl_move rfl rfl (by decide) ?_
                refine wl_load rfl rfl (load_agg aggInt (((((hb1453.ext e1553).updN u1618 (by omega)).ext e1709).updN u1773 (by omega)).ext e1776) [.bool s1436, .slice A1436 n1436 c1436] rfl (Nat.le_of_ble_eq_true rfl) rfl) (by decide) ?_
                refine wl_load rfl rfl (load_agg aggInt (((hb1617.ext e1709).updN u1773 (by omega)).ext e1776) [.bool s1600, .slice A1600 n1600 c1600] rfl (Nat.le_of_ble_eq_true rfl) rfl) (by decide) ?_
                refine wl_call rfl rfl (vs := [.agg #[.bool s1436, .slice A1436 n1436 c1436], .agg #[.bool s1600, .slice A1600 n1600 c1600]]) (by kernel_rfl) (by decide) (g_law5_alike ((((((z1436.updT hb1452 u1454).ext e1553).updT hb1616 u1618).ext e1709).updT hb1771 u1773).ext e1776) (z1436.le (Nat.le_trans L1315 (by decide))) (((((z1600.updT hb1616 u1618).ext e1709).updT hb1771 u1773).ext e1776).cast (by first | exact res_mul.symm | exact res_mul | exact res_add.symm | exact res_add | exact res_mad | exact res_mad.symm | rfl)) (z1600.le (Nat.le_trans L1460 (by decide)))) ?_
                rintro _ v1778 ⟨xr1780, rfl, r1780, e1779⟩
                refine ret_intro ?_
                have hw28 : Ext w v1778 := hw27.trans e1779
                obtain rfl := r1780
                refine wl_pure rfl rfl (v := .bool false) (by decide) (by kernel_rfl) ?_
                refine wl_pure rfl rfl (v := .bool false) (by decide) (by kernel_rfl) ?_
                refine wl_move rfl rfl (by decide) ?_
                refine wl_load rfl rfl (load_agg aggInt (hb1772.ext (e1776.trans e1779)) [.bool s1755, .slice A1755 n1755 c1755] rfl (Nat.le_of_ble_eq_true rfl) rfl) (by decide) ?_
                refine wl_load rfl rfl (load_agg aggInt (((((((((((((((hb980.ext (e986.trans e992)).updN u999 (by omega)).ext (e1002.trans (e1006.trans e1012))).updN u1019 (by omega)).ext (e1022.trans (e1025.trans e1109))).updN u1168 (by omega)).ext e1252).updN u1311 (by omega)).ext e1395).updN u1454 (by omega)).ext e1553).updN u1618 (by omega)).ext e1709).updN u1773 (by omega)).ext (e1776.trans e1779)) [.bool s971, .slice A971 n971 c971] rfl (Nat.le_of_ble_eq_true rfl) rfl) (by decide) ?_
                refine wl_call rfl rfl (vs := [.agg #[.bool s1755, .slice A1755 n1755 c1755], .agg #[.bool s971, .slice A971 n971 c971]]) (by kernel_rfl) (by decide) (g_law5_alike ((z1755.updT hb1771 u1773).ext (e1776.trans e1779)) (z1755.le (Nat.le_trans L1622 (by decide))) ((((((((((((((((((z971.ext e974).updT hb979 u981).ext (e986.trans e992)).updT hb997 u999).ext (e1002.trans (e1006.trans e1012))).updT hb1017 u1019).ext (e1022.trans (e1025.trans e1109))).updT hb1166 u1168).ext e1252).updT hb1309 u1311).ext e1395).updT hb1452 u1454).ext e1553).updT hb1616 u1618).ext e1709).updT hb1771 u1773).ext (e1776.trans e1779)).cast (by first | exact res_mul.symm | exact res_mul | exact res_add.symm | exact res_add | exact res_mad | exact res_mad.symm | rfl)) (z971.le (Nat.le_trans L966 (by decide)))) ?_
                rintro _ v1781 ⟨xr1783, rfl, r1783, e1782⟩
                refine ret_intro ?_
                have hw29 : Ext w v1781 := hw28.trans e1782
                obtain rfl := r1783
                refine wl_pure rfl rfl (v := .bool false) (by decide) (by kernel_rfl) ?_
                refine wl_pure rfl rfl (v := .bool false) (by decide) (by kernel_rfl) ?_
                refine wl_nil ?_
                refine eo_then ?_
                refine cw_false rfl ?_
                refine cw_skip ?_
                refine eo_then ?_
                refine cw_seq ?_
                have L1784 : ln ((x % z) + (x % z)) ≤ 1048577 := Nat.le_trans (ln_add L966 L966) (by decide)
                have L1786 : ln ((Int.natAbs z : Int)) ≤ 1048576 := (by rw [ln_abs]; exact Lz)
                refine cw_draw mix 6 [] [Is (.agg #[.bool s971, .slice A971 n971 c971]), Is (.agg #[.bool s971, .slice A971 n971 c971]), ZR w.heap.size ((x % z) + (x % z)), Is (.agg #[.bool sf, .slice Af nf cf]), ZR w.heap.size ((Int.natAbs z : Int)), Is (.int .i64 (scmp ((x % z) + (x % z)) (Int.natAbs z : Int)))] [[], [], [0, 1], [], [3], [2, 4]] [[], [], [0, 1], [], [0, 1, 2, 3], [0, 1, 2, 3, 4], [0, 1, 2, 3, 4, 5]] rfl
                  (obs_cons rfl rfl (hob rfl rfl ?_) (obs_cons rfl rfl (hob rfl rfl ?_) (obs_cons rfl rfl (hob rfl rfl ?_) (obs_cons rfl rfl (hob rfl rfl ?_) (obs_cons rfl rfl (hob rfl rfl ?_) (obs_cons rfl rfl (hob rfl rfl ?_) obs_nil)))))) ?_
                · -- 0
                  intro v1788 e1789
                  have hw30 : Ext w v1788 := hw29.trans e1789
                  refine deps_nil ?_
                  refine wl_load rfl rfl (load_agg aggInt (((((((((((((((hb980.ext (e986.trans e992)).updN u999 (by omega)).ext (e1002.trans (e1006.trans e1012))).updN u1019 (by omega)).ext (e1022.trans (e1025.trans e1109))).updN u1168 (by omega)).ext e1252).updN u1311 (by omega)).ext e1395).updN u1454 (by omega)).ext e1553).updN u1618 (by omega)).ext e1709).updN u1773 (by omega)).ext (e1776.trans (e1779.trans (e1782.trans e1789)))) [.bool s971, .slice A971 n971 c971] rfl (Nat.le_of_ble_eq_true rfl) rfl) (by decide) ?_
                  exact pi_done rfl (Ext.refl _) rfl
                · -- 1
                  intro v1790 e1791
                  have hw30 : Ext w v1790 := hw29.trans e1791
                  refine deps_nil ?_
                  refine wl_load rfl rfl (load_agg aggInt (((((((((((((((hb980.ext (e986.trans e992)).updN u999 (by omega)).ext (e1002.trans (e1006.trans e1012))).updN u1019 (by omega)).ext (e1022.trans (e1025.trans e1109))).updN u1168 (by omega)).ext e1252).updN u1311 (by omega)).ext e1395).updN u1454 (by omega)).ext e1553).updN u1618 (by omega)).ext e1709).updN u1773 (by omega)).ext (e1776.trans (e1779.trans (e1782.trans e1791)))) [.bool s971, .slice A971 n971 c971] rfl (Nat.le_of_ble_eq_true rfl) rfl) (by decide) ?_
                  exact pi_done rfl (Ext.refl _) rfl
                · -- 2
                  intro v1792 e1793
                  have hw30 : Ext w v1792 := hw29.trans e1793
                  refine deps_cons rfl rfl fun x1794 y1795 h1796 e1797 f1798 => ?_
                  obtain rfl := h1796
                  refine deps_cons rfl rfl fun x1799 y1800 h1801 e1802 f1803 => ?_
                  obtain rfl := h1801
                  refine deps_nil ?_
                  have L1804 : ln ((x % z) + (x % z)) ≤ 1048577 := Nat.le_trans (ln_add L966 L966) (by decide)
                  refine wl_call rfl rfl (vs := [.agg #[.bool s971, .slice A971 n971 c971], .agg #[.bool s971, .slice A971 n971 c971]]) (by kernel_rfl) (by decide) (g_zint_Add hw30.size (((((((((((((((((z971.ext e974).updT hb979 u981).ext (e986.trans e992)).updT hb997 u999).ext (e1002.trans (e1006.trans e1012))).updT hb1017 u1019).ext (e1022.trans (e1025.trans e1109))).updT hb1166 u1168).ext e1252).updT hb1309 u1311).ext e1395).updT hb1452 u1454).ext e1553).updT hb1616 u1618).ext e1709).updT hb1771 u1773).ext (e1776.trans (e1779.trans (e1782.trans e1793)))).zi (z971.le (Nat.le_trans L966 (by decide))) (((((((((((((((((z971.ext e974).updT hb979 u981).ext (e986.trans e992)).updT hb997 u999).ext (e1002.trans (e1006.trans e1012))).updT hb1017 u1019).ext (e1022.trans (e1025.trans e1109))).updT hb1166 u1168).ext e1252).updT hb1309 u1311).ext e1395).updT hb1452 u1454).ext e1553).updT hb1616 u1618).ext e1709).updT hb1771 u1773).ext (e1776.trans (e1779.trans (e1782.trans e1793)))).zi (z971.le (Nat.le_trans L966 (by decide)))) ?_
                  rintro _ v1805 ⟨xr1807, rfl, r1807, e1806⟩
                  refine ret_intro ?_
                  have hw31 : Ext w v1805 := hw30.trans e1806
                  obtain ⟨s1808, A1808, n1808, c1808, rfl, z1808⟩ := r1807
                  exact pi_done rfl e1806 ⟨_, _, _, _, rfl, z1808⟩
                · -- 3
                  intro v1809 e1810
                  have hw30 : Ext w v1809 := hw29.trans e1810
                  refine deps_nil ?_
                  refine wl_load rfl rfl (load_agg aggInt (((((((((((((((((hb15.ext (e19.trans (e968.trans e974))).updN u981 (by omega)).ext (e986.trans e992)).updN u999 (by omega)).ext (e1002.trans (e1006.trans e1012))).updN u1019 (by omega)).ext (e1022.trans (e1025.trans e1109))).updN u1168 (by omega)).ext e1252).updN u1311 (by omega)).ext e1395).updN u1454 (by omega)).ext e1553).updN u1618 (by omega)).ext e1709).updN u1773 (by omega)).ext (e1776.trans (e1779.trans (e1782.trans e1810)))) [.bool sf, .slice Af nf cf] rfl (Nat.le_of_ble_eq_true rfl) rfl) (by decide) ?_
                  exact pi_done rfl (Ext.refl _) rfl
                · -- 4
                  intro v1811 e1812
                  have hw30 : Ext w v1811 := hw29.trans e1812
                  refine deps_cons rfl rfl fun x1813 y1814 h1815 e1816 f1817 => ?_
                  obtain rfl := h1815
                  refine deps_nil ?_
                  have L1818 : ln ((Int.natAbs z : Int)) ≤ 1048576 := (by rw [ln_abs]; exact Lz)
                  refine wl_call rfl rfl (vs := [.agg #[.bool sf, .slice Af nf cf]]) (by kernel_rfl) (by decide) (g_zint_Abs hw30.size (hz.ext hw30) (Nat.le_trans lf (by decide))) ?_
                  rintro _ v1819 ⟨xr1821, rfl, r1821, e1820⟩
                  refine ret_intro ?_
                  have hw31 : Ext w v1819 := hw30.trans e1820
                  obtain ⟨s1822, A1822, n1822, c1822, rfl, z1822⟩ := r1821
                  exact pi_done rfl e1820 ⟨_, _, _, _, rfl, z1822⟩
                · -- 5
                  intro v1823 e1824
                  have hw30 : Ext w v1823 := hw29.trans e1824
                  refine deps_cons rfl rfl fun x1825 y1826 h1827 e1828 f1829 => ?_
                  obtain ⟨s1830, A1830, n1830, c1830, rfl, z1830⟩ := h1827
                  have z1830 := z1830.ext f1829
                  refine deps_cons rfl rfl fun x1831 y1832 h1833 e1834 f1835 => ?_
                  obtain ⟨s1836, A1836, n1836, c1836, rfl, z1836⟩ := h1833
                  have z1836 := z1836.ext f1835
                  refine deps_nil ?_
                  refine wl_call rfl rfl (vs := [.agg #[.bool s1830, .slice A1830 n1830 c1830], .agg #[.bool s1836, .slice A1836 n1836 c1836]]) (by kernel_rfl) (by decide) (g_zint_Cmp z1830.zi (z1830.le (Nat.le_trans L1784 (by decide))) z1836.zi (z1836.le (Nat.le_trans L1786 (by decide)))) ?_
                  rintro _ v1837 ⟨xr1839, rfl, r1839, e1838⟩
                  refine ret_intro ?_
                  have hw31 : Ext w v1837 := hw30.trans e1838
                  obtain rfl := r1839
                  exact pi_done rfl e1838 rfl
                · -- all
                  intro v1840 e1841
                  have hw30 : Ext w v1840 := hw29.trans e1841
                  refine deps_cons rfl rfl fun x1842 y1843 h1844 e1845 f1846 => ?_
                  obtain rfl := h1844
                  refine deps_cons rfl rfl fun x1847 y1848 h1849 e1850 f1851 => ?_
                  obtain rfl := h1849
                  refine deps_cons rfl rfl fun x1852 y1853 h1854 e1855 f1856 => ?_
                  obtain ⟨s1857, A1857, n1857, c1857, rfl, z1857⟩ := h1854
                  have z1857 := z1857.ext f1856
                  refine deps_cons rfl rfl fun x1858 y1859 h1860 e1861 f1862 => ?_
                  obtain rfl := h1860
                  refine deps_cons rfl rfl fun x1863 y1864 h1865 e1866 f1867 => ?_
                  obtain ⟨s1868, A1868, n1868, c1868, rfl, z1868⟩ := h1865
                  have z1868 := z1868.ext f1867
                  refine deps_cons rfl rfl fun x1869 y1870 h1871 e1872 f1873 => ?_
                  obtain rfl := h1871
                  refine deps_nil ?_
                  refine wl_assign rfl rfl (by decide) ?_
                  refine wl_nil ?_
                  refine eo_np ?_
                  refine eo_then ?_
                  refine cw_seq ?_
                  refine cw_seq ?_
                  refine cw_region ?_
                  refine wl_move rfl rfl (by decide) ?_
                  refine wl_cmp rfl rfl rfl false (scmp_le_f hgt2) (by decide) ?_
                  refine wl_nil ?_
                  refine eo_then ?_
                  refine cw_false rfl ?_
                  refine cw_skip ?_
                  refine eo_then ?_
                  refine cw_seq ?_
                  have L1874 : ln ((Int.natAbs z : Int)) ≤ 1048576 := (by rw [ln_abs]; exact Lz)
                  have L1876 : ln ((x % z) - (Int.natAbs z : Int)) ≤ 1048577 := Nat.le_trans (ln_sub L966 L1874) (by decide)
                  refine cw_draw mix 6 [] [Is (.agg #[.bool s989, .slice A989 n989 c989]), Is (.agg #[.bool s971, .slice A971 n971 c971]), Is (.agg #[.bool sf, .slice Af nf cf]), ZR w.heap.size ((Int.natAbs z : Int)), ZR w.heap.size ((x % z) - (Int.natAbs z : Int)), Is (.bool true)] [[], [], [], [2], [1, 3], [0, 4]] [[], [], [], [2], [1, 2, 3], [0, 1, 2, 3, 4], [0, 1, 2, 3, 4, 5]] rfl
                    (obs_cons rfl rfl (hob rfl rfl ?_) (obs_cons rfl rfl (hob rfl rfl ?_) (obs_cons rfl rfl (hob rfl rfl ?_) (obs_cons rfl rfl (hob rfl rfl ?_) (obs_cons rfl rfl (hob rfl rfl ?_) (obs_cons rfl rfl (hob rfl rfl ?_) obs_nil)))))) ?_
                  · -- 0
                    intro v1878 e1879
                    have hw31 : Ext w v1878 := hw30.trans e1879
                    refine deps_nil ?_
                    refine wl_load rfl rfl (load_agg aggInt (((((((((((((hb998.ext (e1002.trans (e1006.trans e1012))).updN u1019 (by omega)).ext (e1022.trans (e1025.trans e1109))).updN u1168 (by omega)).ext e1252).updN u1311 (by omega)).ext e1395).updN u1454 (by omega)).ext e1553).updN u1618 (by omega)).ext e1709).updN u1773 (by omega)).ext (e1776.trans (e1779.trans (e1782.trans (e1841.trans e1879))))) [.bool s989, .slice A989 n989 c989] rfl (Nat.le_of_ble_eq_true rfl) rfl) (by decide) ?_
                    exact pi_done rfl (Ext.refl _) rfl
                  · -- 1
                    intro v1880 e1881
                    have hw31 : Ext w v1880 := hw30.trans e1881
                    refine deps_nil ?_
                    refine wl_load rfl rfl (load_agg aggInt (((((((((((((((hb980.ext (e986.trans e992)).updN u999 (by omega)).ext (e1002.trans (e1006.trans e1012))).updN u1019 (by omega)).ext (e1022.trans (e1025.trans e1109))).updN u1168 (by omega)).ext e1252).updN u1311 (by omega)).ext e1395).updN u1454 (by omega)).ext e1553).updN u1618 (by omega)).ext e1709).updN u1773 (by omega)).ext (e1776.trans (e1779.trans (e1782.trans (e1841.trans e1881))))) [.bool s971, .slice A971 n971 c971] rfl (Nat.le_of_ble_eq_true rfl) rfl) (by decide) ?_
                    exact pi_done rfl (Ext.refl _) rfl
                  · -- 2
                    intro v1882 e1883
                    have hw31 : Ext w v1882 := hw30.trans e1883
                    refine deps_nil ?_
                    refine wl_load rfl rfl (load_agg aggInt (((((((((((((((((hb15.ext (e19.trans (e968.trans e974))).updN u981 (by omega)).ext (e986.trans e992)).updN u999 (by omega)).ext (e1002.trans (e1006.trans e1012))).updN u1019 (by omega)).ext (e1022.trans (e1025.trans e1109))).updN u1168 (by omega)).ext e1252).updN u1311 (by omega)).ext e1395).updN u1454 (by omega)).ext e1553).updN u1618 (by omega)).ext e1709).updN u1773 (by omega)).ext (e1776.trans (e1779.trans (e1782.trans (e1841.trans e1883))))) [.bool sf, .slice Af nf cf] rfl (Nat.le_of_ble_eq_true rfl) rfl) (by decide) ?_
                    exact pi_done rfl (Ext.refl _) rfl
                  · -- 3
                    intro v1884 e1885
                    have hw31 : Ext w v1884 := hw30.trans e1885
                    refine deps_cons rfl rfl fun x1886 y1887 h1888 e1889 f1890 => ?_
                    obtain rfl := h1888
                    refine deps_nil ?_
                    have L1891 : ln ((Int.natAbs z : Int)) ≤ 1048576 := (by rw [ln_abs]; exact Lz)
                    refine wl_call rfl rfl (vs := [.agg #[.bool sf, .slice Af nf cf]]) (by kernel_rfl) (by decide) (g_zint_Abs hw31.size (hz.ext hw31) (Nat.le_trans lf (by decide))) ?_
                    rintro _ v1892 ⟨xr1894, rfl, r1894, e1893⟩
                    refine ret_intro ?_
                    have hw32 : Ext w v1892 := hw31.trans e1893
                    obtain ⟨s1895, A1895, n1895, c1895, rfl, z1895⟩ := r1894
                    exact pi_done rfl e1893 ⟨_, _, _, _, rfl, z1895⟩
                  · -- 4
                    intro v1896 e1897
                    have hw31 : Ext w v1896 := hw30.trans e1897
                    refine deps_cons rfl rfl fun x1898 y1899 h1900 e1901 f1902 => ?_
                    obtain rfl := h1900
                    refine deps_cons rfl rfl fun x1903 y1904 h1905 e1906 f1907 => ?_
                    obtain ⟨s1908, A1908, n1908, c1908, rfl, z1908⟩ := h1905
                    have z1908 := z1908.ext f1907
                    refine deps_nil ?_
                    have L1909 : ln ((x % z) - (Int.natAbs z : Int)) ≤ 1048577 := Nat.le_trans (ln_sub L966 L1874) (by decide)
                    refine wl_call rfl rfl (vs := [.agg #[.bool s971, .slice A971 n971 c971], .agg #[.bool s1908, .slice A1908 n1908 c1908]]) (by kernel_rfl) (by decide) (g_zint_Sub hw31.size (((((((((((((((((z971.ext e974).updT hb979 u981).ext (e986.trans e992)).updT hb997 u999).ext (e1002.trans (e1006.trans e1012))).updT hb1017 u1019).ext (e1022.trans (e1025.trans e1109))).updT hb1166 u1168).ext e1252).updT hb1309 u1311).ext e1395).updT hb1452 u1454).ext e1553).updT hb1616 u1618).ext e1709).updT hb1771 u1773).ext (e1776.trans (e1779.trans (e1782.trans (e1841.trans e1897))))).zi (z971.le (Nat.le_trans L966 (by decide))) z1908.zi (z1908.le (Nat.le_trans L1874 (by decide)))) ?_
                    rintro _ v1910 ⟨xr1912, rfl, r1912, e1911⟩
                    refine ret_intro ?_
                    have hw32 : Ext w v1910 := hw31.trans e1911
                    obtain ⟨s1913, A1913, n1913, c1913, rfl, z1913⟩ := r1912
                    exact pi_done rfl e1911 ⟨_, _, _, _, rfl, z1913⟩
                  · -- 5
                    intro v1914 e1915
                    have hw31 : Ext w v1914 := hw30.trans e1915
                    refine deps_cons rfl rfl fun x1916 y1917 h1918 e1919 f1920 => ?_
                    obtain rfl := h1918
                    refine deps_cons rfl rfl fun x1921 y1922 h1923 e1924 f1925 => ?_
                    obtain ⟨s1926, A1926, n1926, c1926, rfl, z1926⟩ := h1923
                    have z1926 := z1926.ext f1925
                    refine deps_nil ?_
                    refine wl_call rfl rfl (vs := [.agg #[.bool s989, .slice A989 n989 c989], .agg #[.bool s1926, .slice A1926 n1926 c1926]]) (by kernel_rfl) (by decide) (g_law5_alike (((((((((((((((z989.ext e992).updT hb997 u999).ext (e1002.trans (e1006.trans e1012))).updT hb1017 u1019).ext (e1022.trans (e1025.trans e1109))).updT hb1166 u1168).ext e1252).updT hb1309 u1311).ext e1395).updT hb1452 u1454).ext e1553).updT hb1616 u1618).ext e1709).updT hb1771 u1773).ext (e1776.trans (e1779.trans (e1782.trans (e1841.trans e1915))))) (z989.le (Nat.le_trans L984 (by decide))) (z1926.cast (by first | exact res_mul.symm | exact res_mul | exact res_add.symm | exact res_add | exact res_mad | exact res_mad.symm | rfl)) (z1926.le (Nat.le_trans L1876 (by decide)))) ?_
                    rintro _ v1927 ⟨xr1929, rfl, r1929, e1928⟩
                    refine ret_intro ?_
                    have hw32 : Ext w v1927 := hw31.trans e1928
                    obtain rfl := r1929
                    exact pi_done rfl e1928 rfl
                  · -- all
                    intro v1930 e1931
                    have hw31 : Ext w v1930 := hw30.trans e1931
                    refine deps_cons rfl rfl fun x1932 y1933 h1934 e1935 f1936 => ?_
                    obtain rfl := h1934
                    refine deps_cons rfl rfl fun x1937 y1938 h1939 e1940 f1941 => ?_
                    obtain rfl := h1939
                    refine deps_cons rfl rfl fun x1942 y1943 h1944 e1945 f1946 => ?_
                    obtain rfl := h1944
                    refine deps_cons rfl rfl fun x1947 y1948 h1949 e1950 f1951 => ?_
                    obtain ⟨s1952, A1952, n1952, c1952, rfl, z1952⟩ := h1949
                    have z1952 := z1952.ext f1951
                    refine deps_cons rfl rfl fun x1953 y1954 h1955 e1956 f1957 => ?_
                    obtain ⟨s1958, A1958, n1958, c1958, rfl, z1958⟩ := h1955
                    have z1958 := z1958.ext f1957
                    refine deps_cons rfl rfl fun x1959 y1960 h1961 e1962 f1963 => ?_
                    obtain rfl := h1961
                    refine deps_nil ?_
                    refine wl_assign rfl rfl (by decide) ?_
                    refine wl_nil ?_
                    refine eo_np ?_
                    refine eo_then ?_
                    refine cw_ret ?_
                    refine eo_ret [.bool true] rfl ⟨rfl, trivial⟩ ?_
                    exact bool_of _ _ ⟨_, rfl, rfl, hw31⟩
end Go.Proofs.YtmjdmjflgiicaaaDoor
