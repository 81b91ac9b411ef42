/- Parts Law5d, joined. -/
import Derived.Test.YtmjdmjflgiicaaaDoorV3

namespace Go.Proofs.YtmjdmjflgiicaaaDoor
open Go.RowKit
theorem emod_inD {a z : Int} (h : z ≠ 0) : 0 ≤ a % z ∧ a % z < z.natAbs := ⟨Int.emod_nonneg _ h, by have := Int.emod_lt a h; omega⟩
theorem flo_abs {q r x y : Int} (h : Flo q r x y) (hy : y ≠ 0) : r.natAbs < y.natAbs := by
  rcases Int.lt_or_gt_of_ne hy with h1 | h1
  · have := h.neg h1; omega
  · have := h.pos h1; omega
theorem flo_sgn {q r x y : Int} (h : Flo q r x y) (hy : y ≠ 0) : 0 ≤ scmp r 0 * scmp y 0 := by
  rcases Int.lt_or_gt_of_ne hy with h1 | h1
  · have h2 := h.neg h1
    have e : scmp y 0 = -1 := by have := scmp_cases y 0; omega
    rw [e]; have := scmp_cases r 0; omega
  · have h2 := h.pos h1
    have e : scmp y 0 = 1 := by have := scmp_cases y 0; omega
    rw [e]; have := scmp_cases r 0; omega
theorem tm_sgn (x y : Int) : 0 ≤ scmp (x.tmod y) 0 * scmp x 0 := by
  rcases Int.lt_trichotomy x 0 with h | h | h
  · have e : scmp x 0 = -1 := by have := scmp_cases x 0; omega
    have h2 : 0 ≤ (-x).tmod y := Int.tmod_nonneg y (by omega)
    rw [Int.neg_tmod] at h2
    rw [e]; have := scmp_cases (x.tmod y) 0; omega
  · subst h; simp [scmp]
  · have e : scmp x 0 = 1 := by have := scmp_cases x 0; omega
    have h2 : 0 ≤ x.tmod y := Int.tmod_nonneg y (by omega)
    rw [e]; have := scmp_cases (x.tmod y) 0; omega
theorem flo_same5 {q r x y : Int} (h : Flo q r x y) (hy : y ≠ 0) (ht : x.tmod y = 0) : r = 0 ∧ q = x.tdiv y := by
  have e1 := h.eq
  have e2 := Int.tdiv_mul_add_tmod x y
  rw [ht, Int.add_zero] at e2
  have hd : y ∣ r := ⟨x.tdiv y - q, by rw [Int.mul_sub, Int.mul_comm y, Int.mul_comm y, e2]; omega⟩
  have hr : r = 0 := by
    by_cases h0 : r = 0
    · exact h0
    · have := Nat.le_of_dvd (by omega) (Int.natAbs_dvd_natAbs.2 hd)
      have := flo_abs h hy
      omega
  refine ⟨hr, Int.eq_of_mul_eq_mul_right hy ?_⟩
  rw [e2]; omega
theorem flo_rest5 {q r x y : Int} (h : Flo q r x y) (ht : x.tmod y ≠ 0) : r ≠ 0 := fun e => ht (Int.tmod_eq_zero_of_dvd ⟨q, by have := h.eq; rw [Int.mul_comm]; omega⟩)
theorem emod_rest5 {x y : Int} (ht : x.tmod y ≠ 0) : x % y ≠ 0 := fun e => ht (Int.tmod_eq_zero_of_dvd (Int.dvd_of_emod_eq_zero e))
theorem ediv_same5 {x y : Int} (hy : y ≠ 0) (ht : x.tmod y = 0) : x / y = x.tdiv y := by
  have hd := Int.dvd_of_tmod_eq_zero ht
  obtain ⟨k, rfl⟩ := hd
  rw [Int.mul_ediv_cancel_left _ hy, Int.mul_tdiv_cancel_left _ hy]
theorem ediv_eq5 (x y : Int) : x / y * y + x % y = x := by rw [Int.mul_comm]; exact Int.mul_ediv_add_emod x y
theorem ln_floq {q r x y : Int} {N : Nat} (h : Flo q r x y) (hy : y ≠ 0) (hx : ln x ≤ N) (hN : 1 ≤ N) : ln q ≤ N + 1 := by
  have h1 := flo_abs h hy
  have h2 : (q * y).natAbs ≤ x.natAbs + y.natAbs := by have := h.eq; omega
  rw [Int.natAbs_mul] at h2
  have h3 : q.natAbs ≤ x.natAbs + 1 := by
    refine Nat.le_of_mul_le_mul_right (c := y.natAbs) ?_ (by omega)
    have : x.natAbs * 1 ≤ x.natAbs * y.natAbs := Nat.mul_le_mul_left _ (by omega)
    rw [Nat.add_mul]; omega
  refine Nat.le_trans (ln_mono (y := (x.natAbs : Int) + 1) (by omega)) ?_
  exact Nat.le_trans (ln_add (by rw [ln_abs]; exact hx) (show ln 1 ≤ 1 by decide +kernel)) (by omega)
theorem ln_flor {q r x y : Int} {N : Nat} (h : Flo q r x y) (hy : y ≠ 0) (hl : ln y ≤ N) : ln r ≤ N := Nat.le_trans (ln_mono (by have := flo_abs h hy; omega)) hl
theorem g_zint_FloorD {w : World} {b : Nat} (hb : b ≤ w.heap.size) {s t : Bool} {A B : Option Addr} {n cap m cap' : Nat} {x y : Int} (hx : Zi w s A n cap x) (hl : n ≤ 68719476736) (hy : Zi w t B m cap' y) (hl' : m ≤ 68719476736) (h0 : y ≠ 0) :
    Calls Tryd.prog 28 #[.agg #[.bool s, .slice A n cap], .agg #[.bool t, .slice B m cap']] w (fun e w' => ∃ q r, Flo q r x y ∧ Gv w (T3 (ZR b q) (ZR b r) (Is (.int .i64 0))) e w') := by
  refine (zint_Floor hx hl hy hl' h0).mono fun e w' h => ?_
  obtain ⟨q, r, h1, h2⟩ := h
  exact ⟨q, r, h1.out, gzze hb _ _ h2⟩
theorem g_zint_FloorD_bad {w : World} {b : Nat} (hb : b ≤ w.heap.size) {s t : Bool} {A B : Option Addr} {n cap m cap' : Nat} {x y : Int} (hx : Zi w s A n cap x) (hl : n ≤ 68719476736) (hy : Zi w t B m cap' y) (hl' : m ≤ 68719476736) (h0 : y = 0) :
    Calls Tryd.prog 28 #[.agg #[.bool s, .slice A n cap], .agg #[.bool t, .slice B m cap']] w (Gv w (T3 (ZR b 0) (ZR b 0) (Is (.int .i64 4)))) := (zint_Floor_bad hx hl hy hl' h0).mono (gzze hb)
set_option maxHeartbeats 4000000 in
theorem g_zint_Euclid_badDI {w : World} {sa : Bool} {Aa : Option Addr} {na ca : Nat} {x : Int} {sb : Bool} {Ab : Option Addr} {nb cb : Nat} {y : Int} (hx : Zi w sa Aa na ca x) (la : na ≤ 68719476736) (hy : Zi w sb Ab nb cb y) (lb : nb ≤ 68719476736) (h0 : y = 0) :
    Calls Tryd.prog 29 #[.agg #[.bool sa, .slice Aa na ca], .agg #[.bool sb, .slice Ab nb cb]] w (Gv w (T3 (ZR w.heap.size (0)) (ZR w.heap.size (0)) (Is (.int .i64 4)))) := by
  have Lx : ln x ≤ 68719476736 := Nat.le_trans hx.ln la
  have Ly : ln y ≤ 68719476736 := Nat.le_trans hy.ln lb
  refine sx_enter Tryd.func29 rfl (n := 41) rfl (Nat.le_of_ble_eq_true rfl) (args := [.agg #[.bool sa, .slice Aa na ca], .agg #[.bool sb, .slice Ab nb cb]]) ?_
  refine cw_keep [(0, .agg #[.bool sa, .slice Aa na ca]), (1, .agg #[.bool sb, .slice Ab nb cb])] ⟨rfl, rfl, trivial⟩ ?_
  refine cw_seq ?_
  refine cw_region ?_
  refine wl_box rfl rfl (vs := [.bool sa, .slice Aa na ca]) rfl (by decide) fun g1 v2 nb => ?_
  have hb4 := nb.bk
  have ge5 : w.heap.size ≤ g1 := by rw [← nb.at_]; exact (Ext.refl w).size
  have e3 := nb.ext
  clear nb
  have hw1 : Ext w v2 := (Ext.refl w).trans e3
  refine wl_box rfl rfl (vs := [.bool sb, .slice Ab nb cb]) rfl (by decide) fun g6 v7 nb => ?_
  have hb9 := nb.bk
  have ge10 : w.heap.size ≤ g6 := by rw [← nb.at_]; exact hw1.size
  have q11 : g1 < g6 := by rw [← nb.at_]; exact hb4.lt
  have e8 := nb.ext
  clear nb
  have hw2 : Ext w v7 := hw1.trans e8
  refine wl_alloc rfl (z := .agg #[.bool false, .slice none 0 0]) (vs := [.bool false, .slice none 0 0]) (fun _ => by kernel_rfl) rfl (by decide) fun g12 v13 nb => ?_
  have hb15 := nb.bk
  have ge16 : w.heap.size ≤ g12 := by rw [← nb.at_]; exact hw2.size
  have q17 : g6 < g12 := by rw [← nb.at_]; exact hb9.lt
  have e14 := nb.ext
  clear nb
  have hw3 : Ext w v13 := hw2.trans e14
  refine wl_alloc rfl (z := .agg #[.bool false, .slice none 0 0]) (vs := [.bool false, .slice none 0 0]) (fun _ => by kernel_rfl) rfl (by decide) fun g18 v19 nb => ?_
  have hb21 := nb.bk
  have ge22 : w.heap.size ≤ g18 := by rw [← nb.at_]; exact hw3.size
  have q23 : g12 < g18 := by rw [← nb.at_]; exact hb15.lt
  have e20 := nb.ext
  clear nb
  have hw4 : Ext w v19 := hw3.trans e20
  refine wl_assign rfl rfl (by decide) ?_
  refine wl_nil ?_
  refine eo_then ?_
  refine cw_seq ?_
  refine cw_region ?_
  refine wl_load rfl rfl (load_agg aggInt (hb4.ext (e8.trans (e14.trans e20))) [.bool sa, .slice Aa na ca] rfl (Nat.le_of_ble_eq_true rfl) rfl) (by decide) ?_
  refine wl_load rfl rfl (load_agg aggInt (hb9.ext (e14.trans e20)) [.bool sb, .slice Ab nb cb] rfl (Nat.le_of_ble_eq_true rfl) rfl) (by decide) ?_
  refine wl_call rfl rfl (vs := [.agg #[.bool sa, .slice Aa na ca], .agg #[.bool sb, .slice Ab nb cb]]) (by kernel_rfl) (by decide) (g_zint_Trunc_bad hw4.size (hx.ext hw4) (Nat.le_trans la (by decide)) (hy.ext hw4) (Nat.le_trans lb (by decide)) h0) ?_
  rintro _ v24 ⟨xr26, rfl, r26, e25⟩
  refine ret_intro ?_
  have hw5 : Ext w v24 := hw4.trans e25
  obtain ⟨a27_0, a27_1, a27_2, rfl, r27_0, r27_1, r27_2⟩ := r26
  obtain ⟨s28, A28, n28, c28, rfl, z28⟩ := r27_0
  obtain ⟨s29, A29, n29, c29, rfl, z29⟩ := r27_1
  obtain rfl := r27_2
  refine wl_move rfl rfl (by decide) ?_
  refine wl_pure rfl rfl (v := .agg #[.bool s28, .slice A28 n28 c28]) (by decide) (by kernel_rfl) ?_
  refine wl_pure rfl rfl (v := .agg #[.bool s29, .slice A29 n29 c29]) (by decide) (by kernel_rfl) ?_
  refine wl_pure rfl rfl (v := .int .i64 4) (by decide) (by kernel_rfl) ?_
  refine wl_alloc rfl (z := .agg #[.bool false, .slice none 0 0]) (vs := [.bool false, .slice none 0 0]) (fun _ => by kernel_rfl) rfl (by decide) fun g30 v31 nb => ?_
  have hb33 := nb.bk
  have ge34 : w.heap.size ≤ g30 := by rw [← nb.at_]; exact hw5.size
  have q35 : g18 < g30 := by rw [← nb.at_]; exact (hb21.ext e25).lt
  have e32 := nb.ext
  clear nb
  have hw6 : Ext w v31 := hw5.trans e32
  refine wl_alloc rfl (z := .agg #[.bool false, .slice none 0 0]) (vs := [.bool false, .slice none 0 0]) (fun _ => by kernel_rfl) rfl (by decide) fun g36 v37 nb => ?_
  have hb39 := nb.bk
  have ge40 : w.heap.size ≤ g36 := by rw [← nb.at_]; exact hw6.size
  have q41 : g30 < g36 := by rw [← nb.at_]; exact hb33.lt
  have e38 := nb.ext
  clear nb
  have hw7 : Ext w v37 := hw6.trans e38
  have hb43 := (hb33.ext e38)
  refine wl_stored rfl rfl rfl aggInt rfl hb43 (Nat.le_of_ble_eq_true rfl) rfl [.bool s28, .slice A28 n28 c28] rfl fun v42 hb44 u45 hs46 => ?_
  have hw8 : Ext w v42 := u45.ext hw7 ge34
  have hb48 := (hb39.updN u45 (by omega))
  refine wl_stored rfl rfl rfl aggInt rfl hb48 (Nat.le_of_ble_eq_true rfl) rfl [.bool s29, .slice A29 n29 c29] rfl fun v47 hb49 u50 hs51 => ?_
  have hw9 : Ext w v47 := u50.ext hw8 ge40
  refine wl_assign rfl rfl (by decide) ?_
  refine wl_nil ?_
  refine eo_then ?_
  refine cw_seq ?_
  refine cw_seq ?_
  refine cw_region ?_
  refine wl_move rfl rfl (by decide) ?_
  refine wl_cmp rfl rfl rfl true (by decide) (by decide) ?_
  refine wl_move rfl rfl (by decide) ?_
  refine wl_off rfl (by decide) ?_
  refine wl_off rfl (by decide) ?_
  refine wl_off rfl (by decide) ?_
  refine wl_pure rfl rfl (v := .bool true) (by decide) (by kernel_rfl) ?_
  refine wl_nil ?_
  refine eo_then ?_
  refine cw_true rfl ?_
  refine cw_seq ?_
  refine cw_keep [(0, .agg #[.bool sa, .slice Aa na ca]), (1, .agg #[.bool sb, .slice Ab nb cb]), (2, .pointer (some ⟨g1, 0, none⟩)), (3, .pointer (some ⟨g6, 0, none⟩)), (4, .pointer (some ⟨g12, 0, none⟩)), (5, .pointer (some ⟨g18, 0, none⟩)), (11, .agg #[.bool sa, .slice Aa na ca]), (12, .agg #[.bool sb, .slice Ab nb cb]), (13, .tuple #[.agg #[.bool s28, .slice A28 n28 c28], .agg #[.bool s29, .slice A29 n29 c29], .int .i64 4]), (10, .tuple #[.agg #[.bool s28, .slice A28 n28 c28], .agg #[.bool s29, .slice A29 n29 c29], .int .i64 4]), (14, .agg #[.bool s28, .slice A28 n28 c28]), (15, .agg #[.bool s29, .slice A29 n29 c29]), (16, .int .i64 4), (7, .pointer (some ⟨g30, 0, none⟩)), (8, .pointer (some ⟨g36, 0, none⟩)), (9, .int .i64 4), (17, .int .i64 4), (18, .bool true), (19, .bool true), (20, undef), (21, undef), (22, undef), (23, .bool true)] ⟨rfl, rfl, rfl, rfl, rfl, rfl, rfl, rfl, rfl, rfl, rfl, rfl, rfl, rfl, rfl, rfl, rfl, rfl, rfl, rfl, rfl, rfl, rfl, trivial⟩ ?_
  obtain ⟨v52, hv, e53⟩ : ∃ v, v = v47.drew ∧ Ext v47 v := ⟨_, rfl, (Ext.refl _).drew⟩
  have hw10 : Ext w v52 := hw9.trans e53
  have hb55 := ((((hb15.ext (e20.trans (e25.trans (e32.trans e38)))).updN u45 (by omega)).updN u50 (by omega)).ext e53)
  obtain ⟨v54, hr59, hb56, u57, hs58⟩ := run_stored (P := Tryd.prog) (us := [.bool s28, .slice A28 n28 c28]) (off := 0) aggInt rfl hb55 (Nat.le_of_ble_eq_true rfl) rfl [.bool s28, .slice A28 n28 c28] rfl
  have hw11 : Ext w v54 := u57.ext hw10 ge16
  have hb61 := (((((hb21.ext (e25.trans (e32.trans e38))).updN u45 (by omega)).updN u50 (by omega)).ext e53).updN u57 (by omega))
  obtain ⟨v60, hr65, hb62, u63, hs64⟩ := run_stored (P := Tryd.prog) (us := [.bool s29, .slice A29 n29 c29]) (off := 0) aggInt rfl hb61 (Nat.le_of_ble_eq_true rfl) rfl [.bool s29, .slice A29 n29 c29] rfl
  have hw12 : Ext w v60 := u63.ext hw11 ge22
  refine cw_det mix (w := v52) [.agg #[.bool s28, .slice A28 n28 c28], .agg #[.bool s29, .slice A29 n29 c29], .int .i64 4, undef, undef, .int .i64 4] [v52, v54, v60] [3, 4] [[], [], [], [0], [1], [2]] [[], [], [], [0], [0, 1, 3], [0, 1, 2, 3, 4]] [(0, 0), (1, 0), (1, 1), (2, 0), (2, 1), (2, 2), (3, 0), (4, 1), (5, 2)] rfl hv ?_ ?_
  ·
    refine dobs_val ([(0, .agg #[.bool sa, .slice Aa na ca]), (1, .agg #[.bool sb, .slice Ab nb cb]), (2, .pointer (some ⟨g1, 0, none⟩)), (3, .pointer (some ⟨g6, 0, none⟩)), (4, .pointer (some ⟨g12, 0, none⟩)), (5, .pointer (some ⟨g18, 0, none⟩)), (11, .agg #[.bool sa, .slice Aa na ca]), (12, .agg #[.bool sb, .slice Ab nb cb]), (13, .tuple #[.agg #[.bool s28, .slice A28 n28 c28], .agg #[.bool s29, .slice A29 n29 c29], .int .i64 4]), (10, .tuple #[.agg #[.bool s28, .slice A28 n28 c28], .agg #[.bool s29, .slice A29 n29 c29], .int .i64 4]), (14, .agg #[.bool s28, .slice A28 n28 c28]), (15, .agg #[.bool s29, .slice A29 n29 c29]), (16, .int .i64 4), (7, .pointer (some ⟨g30, 0, none⟩)), (8, .pointer (some ⟨g36, 0, none⟩)), (9, .int .i64 4), (17, .int .i64 4), (18, .bool true), (19, .bool true), (20, undef), (21, undef), (22, undef), (23, .bool true)]) rfl rfl rfl rfl rfl (rd_load rfl (load_agg aggInt ((hb44.updN u50 (by omega)).ext e53) [.bool s28, .slice A28 n28 c28] rfl (Nat.le_of_ble_eq_true rfl) rfl)) ?_
    refine dobs_val ([(0, .agg #[.bool sa, .slice Aa na ca]), (1, .agg #[.bool sb, .slice Ab nb cb]), (2, .pointer (some ⟨g1, 0, none⟩)), (3, .pointer (some ⟨g6, 0, none⟩)), (4, .pointer (some ⟨g12, 0, none⟩)), (5, .pointer (some ⟨g18, 0, none⟩)), (11, .agg #[.bool sa, .slice Aa na ca]), (12, .agg #[.bool sb, .slice Ab nb cb]), (13, .tuple #[.agg #[.bool s28, .slice A28 n28 c28], .agg #[.bool s29, .slice A29 n29 c29], .int .i64 4]), (10, .tuple #[.agg #[.bool s28, .slice A28 n28 c28], .agg #[.bool s29, .slice A29 n29 c29], .int .i64 4]), (14, .agg #[.bool s28, .slice A28 n28 c28]), (15, .agg #[.bool s29, .slice A29 n29 c29]), (16, .int .i64 4), (7, .pointer (some ⟨g30, 0, none⟩)), (8, .pointer (some ⟨g36, 0, none⟩)), (9, .int .i64 4), (17, .int .i64 4), (18, .bool true), (19, .bool true), (20, undef), (21, undef), (22, undef), (23, .bool true)]) rfl rfl rfl rfl rfl (rd_load rfl (load_agg aggInt (hb49.ext e53) [.bool s29, .slice A29 n29 c29] rfl (Nat.le_of_ble_eq_true rfl) rfl)) ?_
    refine dobs_val ([(0, .agg #[.bool sa, .slice Aa na ca]), (1, .agg #[.bool sb, .slice Ab nb cb]), (2, .pointer (some ⟨g1, 0, none⟩)), (3, .pointer (some ⟨g6, 0, none⟩)), (4, .pointer (some ⟨g12, 0, none⟩)), (5, .pointer (some ⟨g18, 0, none⟩)), (11, .agg #[.bool sa, .slice Aa na ca]), (12, .agg #[.bool sb, .slice Ab nb cb]), (13, .tuple #[.agg #[.bool s28, .slice A28 n28 c28], .agg #[.bool s29, .slice A29 n29 c29], .int .i64 4]), (10, .tuple #[.agg #[.bool s28, .slice A28 n28 c28], .agg #[.bool s29, .slice A29 n29 c29], .int .i64 4]), (14, .agg #[.bool s28, .slice A28 n28 c28]), (15, .agg #[.bool s29, .slice A29 n29 c29]), (16, .int .i64 4), (7, .pointer (some ⟨g30, 0, none⟩)), (8, .pointer (some ⟨g36, 0, none⟩)), (9, .int .i64 4), (17, .int .i64 4), (18, .bool true), (19, .bool true), (20, undef), (21, undef), (22, undef), (23, .bool true)]) rfl rfl rfl rfl rfl (rd_load rfl (load_agg aggInt ((hb49.ext e53).updN u57 (by omega)) [.bool s29, .slice A29 n29 c29] rfl (Nat.le_of_ble_eq_true rfl) rfl)) ?_
    refine dobs_val ([(0, .agg #[.bool sa, .slice Aa na ca]), (1, .agg #[.bool sb, .slice Ab nb cb]), (2, .pointer (some ⟨g1, 0, none⟩)), (3, .pointer (some ⟨g6, 0, none⟩)), (4, .pointer (some ⟨g12, 0, none⟩)), (5, .pointer (some ⟨g18, 0, none⟩)), (11, .agg #[.bool sa, .slice Aa na ca]), (12, .agg #[.bool sb, .slice Ab nb cb]), (13, .tuple #[.agg #[.bool s28, .slice A28 n28 c28], .agg #[.bool s29, .slice A29 n29 c29], .int .i64 4]), (10, .tuple #[.agg #[.bool s28, .slice A28 n28 c28], .agg #[.bool s29, .slice A29 n29 c29], .int .i64 4]), (14, .agg #[.bool s28, .slice A28 n28 c28]), (15, .agg #[.bool s29, .slice A29 n29 c29]), (16, .int .i64 4), (7, .pointer (some ⟨g30, 0, none⟩)), (8, .pointer (some ⟨g36, 0, none⟩)), (9, .int .i64 4), (17, .int .i64 4), (18, .bool true), (19, .bool true), (20, undef), (21, undef), (22, undef), (23, .bool true)]) rfl rfl rfl rfl rfl (rd_move rfl) ?_
    refine dobs_val ([(0, .agg #[.bool sa, .slice Aa na ca]), (1, .agg #[.bool sb, .slice Ab nb cb]), (2, .pointer (some ⟨g1, 0, none⟩)), (3, .pointer (some ⟨g6, 0, none⟩)), (4, .pointer (some ⟨g12, 0, none⟩)), (5, .pointer (some ⟨g18, 0, none⟩)), (11, .agg #[.bool sa, .slice Aa na ca]), (12, .agg #[.bool sb, .slice Ab nb cb]), (13, .tuple #[.agg #[.bool s28, .slice A28 n28 c28], .agg #[.bool s29, .slice A29 n29 c29], .int .i64 4]), (10, .tuple #[.agg #[.bool s28, .slice A28 n28 c28], .agg #[.bool s29, .slice A29 n29 c29], .int .i64 4]), (14, .agg #[.bool s28, .slice A28 n28 c28]), (15, .agg #[.bool s29, .slice A29 n29 c29]), (16, .int .i64 4), (7, .pointer (some ⟨g30, 0, none⟩)), (8, .pointer (some ⟨g36, 0, none⟩)), (9, .int .i64 4), (17, .int .i64 4), (18, .bool true), (19, .bool true), (20, undef), (21, undef), (22, undef), (23, .bool true)]) rfl rfl rfl rfl rfl (rd_move rfl) ?_
    refine dobs_val ([(0, .agg #[.bool sa, .slice Aa na ca]), (1, .agg #[.bool sb, .slice Ab nb cb]), (2, .pointer (some ⟨g1, 0, none⟩)), (3, .pointer (some ⟨g6, 0, none⟩)), (4, .pointer (some ⟨g12, 0, none⟩)), (5, .pointer (some ⟨g18, 0, none⟩)), (11, .agg #[.bool sa, .slice Aa na ca]), (12, .agg #[.bool sb, .slice Ab nb cb]), (13, .tuple #[.agg #[.bool s28, .slice A28 n28 c28], .agg #[.bool s29, .slice A29 n29 c29], .int .i64 4]), (10, .tuple #[.agg #[.bool s28, .slice A28 n28 c28], .agg #[.bool s29, .slice A29 n29 c29], .int .i64 4]), (14, .agg #[.bool s28, .slice A28 n28 c28]), (15, .agg #[.bool s29, .slice A29 n29 c29]), (16, .int .i64 4), (7, .pointer (some ⟨g30, 0, none⟩)), (8, .pointer (some ⟨g36, 0, none⟩)), (9, .int .i64 4), (17, .int .i64 4), (18, .bool true), (19, .bool true), (20, undef), (21, undef), (22, undef), (23, .bool true)]) rfl rfl rfl rfl rfl (rd_move rfl) ?_
    refine dobs_sto ((24, .agg #[.bool s28, .slice A28 n28 c28]) :: [(0, .agg #[.bool sa, .slice Aa na ca]), (1, .agg #[.bool sb, .slice Ab nb cb]), (2, .pointer (some ⟨g1, 0, none⟩)), (3, .pointer (some ⟨g6, 0, none⟩)), (4, .pointer (some ⟨g12, 0, none⟩)), (5, .pointer (some ⟨g18, 0, none⟩)), (11, .agg #[.bool sa, .slice Aa na ca]), (12, .agg #[.bool sb, .slice Ab nb cb]), (13, .tuple #[.agg #[.bool s28, .slice A28 n28 c28], .agg #[.bool s29, .slice A29 n29 c29], .int .i64 4]), (10, .tuple #[.agg #[.bool s28, .slice A28 n28 c28], .agg #[.bool s29, .slice A29 n29 c29], .int .i64 4]), (14, .agg #[.bool s28, .slice A28 n28 c28]), (15, .agg #[.bool s29, .slice A29 n29 c29]), (16, .int .i64 4), (7, .pointer (some ⟨g30, 0, none⟩)), (8, .pointer (some ⟨g36, 0, none⟩)), (9, .int .i64 4), (17, .int .i64 4), (18, .bool true), (19, .bool true), (20, undef), (21, undef), (22, undef), (23, .bool true)]) rfl rfl rfl rfl rfl (rd_store rfl rfl hr59) ?_
    refine dobs_sto ((25, .agg #[.bool s29, .slice A29 n29 c29]) :: [(0, .agg #[.bool sa, .slice Aa na ca]), (1, .agg #[.bool sb, .slice Ab nb cb]), (2, .pointer (some ⟨g1, 0, none⟩)), (3, .pointer (some ⟨g6, 0, none⟩)), (4, .pointer (some ⟨g12, 0, none⟩)), (5, .pointer (some ⟨g18, 0, none⟩)), (11, .agg #[.bool sa, .slice Aa na ca]), (12, .agg #[.bool sb, .slice Ab nb cb]), (13, .tuple #[.agg #[.bool s28, .slice A28 n28 c28], .agg #[.bool s29, .slice A29 n29 c29], .int .i64 4]), (10, .tuple #[.agg #[.bool s28, .slice A28 n28 c28], .agg #[.bool s29, .slice A29 n29 c29], .int .i64 4]), (14, .agg #[.bool s28, .slice A28 n28 c28]), (15, .agg #[.bool s29, .slice A29 n29 c29]), (16, .int .i64 4), (7, .pointer (some ⟨g30, 0, none⟩)), (8, .pointer (some ⟨g36, 0, none⟩)), (9, .int .i64 4), (17, .int .i64 4), (18, .bool true), (19, .bool true), (20, undef), (21, undef), (22, undef), (23, .bool true)]) rfl rfl rfl rfl rfl (rd_store rfl rfl hr65) ?_
    refine dobs_val ((26, .int .i64 4) :: [(0, .agg #[.bool sa, .slice Aa na ca]), (1, .agg #[.bool sb, .slice Ab nb cb]), (2, .pointer (some ⟨g1, 0, none⟩)), (3, .pointer (some ⟨g6, 0, none⟩)), (4, .pointer (some ⟨g12, 0, none⟩)), (5, .pointer (some ⟨g18, 0, none⟩)), (11, .agg #[.bool sa, .slice Aa na ca]), (12, .agg #[.bool sb, .slice Ab nb cb]), (13, .tuple #[.agg #[.bool s28, .slice A28 n28 c28], .agg #[.bool s29, .slice A29 n29 c29], .int .i64 4]), (10, .tuple #[.agg #[.bool s28, .slice A28 n28 c28], .agg #[.bool s29, .slice A29 n29 c29], .int .i64 4]), (14, .agg #[.bool s28, .slice A28 n28 c28]), (15, .agg #[.bool s29, .slice A29 n29 c29]), (16, .int .i64 4), (7, .pointer (some ⟨g30, 0, none⟩)), (8, .pointer (some ⟨g36, 0, none⟩)), (9, .int .i64 4), (17, .int .i64 4), (18, .bool true), (19, .bool true), (20, undef), (21, undef), (22, undef), (23, .bool true)]) rfl rfl rfl rfl rfl (rd_assign rfl) ?_
    exact dobs_nil
  clear hv
  refine eo_keep [(0, .agg #[.bool sa, .slice Aa na ca]), (1, .agg #[.bool sb, .slice Ab nb cb]), (2, .pointer (some ⟨g1, 0, none⟩)), (3, .pointer (some ⟨g6, 0, none⟩)), (4, .pointer (some ⟨g12, 0, none⟩)), (5, .pointer (some ⟨g18, 0, none⟩)), (11, .agg #[.bool sa, .slice Aa na ca]), (12, .agg #[.bool sb, .slice Ab nb cb]), (13, .tuple #[.agg #[.bool s28, .slice A28 n28 c28], .agg #[.bool s29, .slice A29 n29 c29], .int .i64 4]), (10, .tuple #[.agg #[.bool s28, .slice A28 n28 c28], .agg #[.bool s29, .slice A29 n29 c29], .int .i64 4]), (14, .agg #[.bool s28, .slice A28 n28 c28]), (15, .agg #[.bool s29, .slice A29 n29 c29]), (16, .int .i64 4), (7, .pointer (some ⟨g30, 0, none⟩)), (8, .pointer (some ⟨g36, 0, none⟩)), (9, .int .i64 4), (17, .int .i64 4), (18, .bool true), (19, .bool true), (20, undef), (21, undef), (22, undef), (23, .bool true), (24, .agg #[.bool s28, .slice A28 n28 c28]), (25, .agg #[.bool s29, .slice A29 n29 c29]), (26, .int .i64 4), (6, .int .i64 4)] ⟨rfl, rfl, rfl, rfl, rfl, rfl, rfl, rfl, rfl, rfl, rfl, rfl, rfl, rfl, rfl, rfl, rfl, rfl, rfl, rfl, rfl, rfl, rfl, rfl, rfl, rfl, rfl, trivial⟩ ?_
  refine eo_then ?_
  refine cw_ret ?_
  refine eo_thenR ?_
  refine eo_ret [.agg #[.bool s28, .slice A28 n28 c28], .agg #[.bool s29, .slice A29 n29 c29], .int .i64 4] rfl ⟨⟨_, rfl, load_agg aggInt (hb56.updN u63 (by omega)) [.bool s28, .slice A28 n28 c28] rfl (Nat.le_of_ble_eq_true rfl) rfl⟩, ⟨_, rfl, load_agg aggInt hb62 [.bool s29, .slice A29 n29 c29] rfl (Nat.le_of_ble_eq_true rfl) rfl⟩, rfl, trivial⟩ ?_
  exact ⟨_, rfl, ⟨_, _, _, rfl, ⟨_, _, _, _, rfl, ((((((z28.ext (e32.trans e38)).updT hb43 u45).updT hb48 u50).ext e53).updT hb55 u57).updT hb61 u63)⟩, ⟨_, _, _, _, rfl, ((((((z29.ext (e32.trans e38)).updT hb43 u45).updT hb48 u50).ext e53).updT hb55 u57).updT hb61 u63)⟩, rfl⟩, hw12⟩
theorem g_zint_Euclid_badD {w : World} {sa : Bool} {Aa : Option Addr} {na ca : Nat} {x : Int} {sb : Bool} {Ab : Option Addr} {nb cb : Nat} {y : Int} {b : Nat} (hb : b ≤ w.heap.size)  (hx : Zi w sa Aa na ca x) (la : na ≤ 68719476736) (hy : Zi w sb Ab nb cb y) (lb : nb ≤ 68719476736) (h0 : y = 0) :
    Calls Tryd.prog 29 #[.agg #[.bool sa, .slice Aa na ca], .agg #[.bool sb, .slice Ab nb cb]] w (Gv w (T3 (ZR b (0)) (ZR b (0)) (Is (.int .i64 4)))) := (g_zint_Euclid_badDI hx la hy lb h0).mono (Gv.imp (T3.imp (ZR.imp hb) (ZR.imp hb) Is.imp))
set_option maxHeartbeats 8000000 in
set_option maxRecDepth 20000 in
theorem law_ZintDivides {w : World} {sa : Bool} {Aa : Option Addr} {na ca : Nat} {x : Int} {sb : Bool} {Ab : Option Addr} {nb cb : Nat} {y : Int} (hx : Zi w sa Aa na ca x) (la : na ≤ 1048576) (hy : Zi w sb Ab nb cb y) (lb : nb ≤ 1048576) (hS : Signs w) :
    Calls Tryd.prog 4 #[.agg #[.bool sa, .slice Aa na ca], .agg #[.bool sb, .slice Ab nb cb]] w (BoolP true w) := by
  have Lx : ln x ≤ 1048576 := Nat.le_trans hx.ln la
  have Ly : ln y ≤ 1048576 := Nat.le_trans hy.ln lb
  refine sx_enter Tryd.func4 rfl (n := 169) rfl (Nat.le_of_ble_eq_true rfl) (args := [.agg #[.bool sa, .slice Aa na ca], .agg #[.bool sb, .slice Ab nb cb]]) ?_
  refine cw_keep [(0, .agg #[.bool sa, .slice Aa na ca]), (1, .agg #[.bool sb, .slice Ab nb cb])] ⟨rfl, rfl, trivial⟩ ?_
  refine cw_seq ?_
  refine cw_region ?_
  refine wl_box rfl rfl (vs := [.bool sa, .slice Aa na ca]) rfl (by decide) fun g1 v2 nb => ?_
  have hb4 := nb.bk
  have ge5 : w.heap.size ≤ g1 := by rw [← nb.at_]; exact (Ext.refl w).size
  have e3 := nb.ext
  clear nb
  have hw1 : Ext w v2 := (Ext.refl w).trans e3
  refine wl_box rfl rfl (vs := [.bool sb, .slice Ab nb cb]) rfl (by decide) fun g6 v7 nb => ?_
  have hb9 := nb.bk
  have ge10 : w.heap.size ≤ g6 := by rw [← nb.at_]; exact hw1.size
  have q11 : g1 < g6 := by rw [← nb.at_]; exact hb4.lt
  have e8 := nb.ext
  clear nb
  have hw2 : Ext w v7 := hw1.trans e8
  refine wl_assign rfl rfl (by decide) ?_
  refine wl_nil ?_
  refine eo_then ?_
  refine cw_seq ?_
  refine cw_seq ?_
  refine cw_region ?_
  refine wl_call rfl rfl (vs := []) (by kernel_rfl) (by decide) (g_law5_awake (hS.ext hw2)) ?_
  rintro _ v12 ⟨xr14, rfl, r14, e13⟩
  refine ret_intro ?_
  have hw3 : Ext w v12 := hw2.trans e13
  obtain rfl := r14
  refine wl_pure rfl rfl (v := .bool false) (by decide) (by kernel_rfl) ?_
  refine wl_nil ?_
  refine eo_then ?_
  refine cw_false rfl ?_
  refine cw_skip ?_
  refine eo_then ?_
  refine cw_seq ?_
  by_cases h0 : y = 0
  ·
    refine cw_region ?_
    refine wl_load rfl rfl (load_agg aggInt (hb4.ext (e8.trans e13)) [.bool sa, .slice Aa na ca] rfl (Nat.le_of_ble_eq_true rfl) rfl) (by decide) ?_
    refine wl_load rfl rfl (load_agg aggInt (hb9.ext e13) [.bool sb, .slice Ab nb cb] rfl (Nat.le_of_ble_eq_true rfl) rfl) (by decide) ?_
    refine wl_call rfl rfl (vs := [.agg #[.bool sa, .slice Aa na ca], .agg #[.bool sb, .slice Ab nb cb]]) (by kernel_rfl) (by decide) (g_zint_Trunc_bad hw3.size (hx.ext hw3) (Nat.le_trans la (by decide)) (hy.ext hw3) (Nat.le_trans lb (by decide)) h0) ?_
    rintro _ v15 ⟨xr17, rfl, r17, e16⟩
    refine ret_intro ?_
    have hw4 : Ext w v15 := hw3.trans e16
    obtain ⟨a18_0, a18_1, a18_2, rfl, r18_0, r18_1, r18_2⟩ := r17
    obtain ⟨s19, A19, n19, c19, rfl, z19⟩ := r18_0
    obtain ⟨s20, A20, n20, c20, rfl, z20⟩ := r18_1
    obtain rfl := r18_2
    refine wl_move rfl rfl (by decide) ?_
    refine wl_pure rfl rfl (v := .agg #[.bool s19, .slice A19 n19 c19]) (by decide) (by kernel_rfl) ?_
    refine wl_pure rfl rfl (v := .agg #[.bool s20, .slice A20 n20 c20]) (by decide) (by kernel_rfl) ?_
    refine wl_pure rfl rfl (v := .int .i64 4) (by decide) (by kernel_rfl) ?_
    refine wl_alloc rfl (z := .agg #[.bool false, .slice none 0 0]) (vs := [.bool false, .slice none 0 0]) (fun _ => by kernel_rfl) rfl (by decide) fun g21 v22 nb => ?_
    have hb24 := nb.bk
    have ge25 : w.heap.size ≤ g21 := by rw [← nb.at_]; exact hw4.size
    have q26 : g6 < g21 := by rw [← nb.at_]; exact (hb9.ext (e13.trans e16)).lt
    have e23 := nb.ext
    clear nb
    have hw5 : Ext w v22 := hw4.trans e23
    refine wl_alloc rfl (z := .agg #[.bool false, .slice none 0 0]) (vs := [.bool false, .slice none 0 0]) (fun _ => by kernel_rfl) rfl (by decide) fun g27 v28 nb => ?_
    have hb30 := nb.bk
    have ge31 : w.heap.size ≤ g27 := by rw [← nb.at_]; exact hw5.size
    have q32 : g21 < g27 := by rw [← nb.at_]; exact hb24.lt
    have e29 := nb.ext
    clear nb
    have hw6 : Ext w v28 := hw5.trans e29
    have hb34 := (hb24.ext e29)
    refine wl_stored rfl rfl rfl aggInt rfl hb34 (Nat.le_of_ble_eq_true rfl) rfl [.bool s19, .slice A19 n19 c19] rfl fun v33 hb35 u36 hs37 => ?_
    have hw7 : Ext w v33 := u36.ext hw6 ge25
    have hb39 := (hb30.updN u36 (by omega))
    refine wl_stored rfl rfl rfl aggInt rfl hb39 (Nat.le_of_ble_eq_true rfl) rfl [.bool s20, .slice A20 n20 c20] rfl fun v38 hb40 u41 hs42 => ?_
    have hw8 : Ext w v38 := u41.ext hw7 ge31
    refine wl_assign rfl rfl (by decide) ?_
    refine wl_nil ?_
    refine eo_then ?_
    refine cw_seq ?_
    refine cw_region ?_
    refine wl_load rfl rfl (load_agg aggInt (((hb4.ext (e8.trans (e13.trans (e16.trans (e23.trans e29))))).updN u36 (by omega)).updN u41 (by omega)) [.bool sa, .slice Aa na ca] rfl (Nat.le_of_ble_eq_true rfl) rfl) (by decide) ?_
    refine wl_load rfl rfl (load_agg aggInt (((hb9.ext (e13.trans (e16.trans (e23.trans e29)))).updN u36 (by omega)).updN u41 (by omega)) [.bool sb, .slice Ab nb cb] rfl (Nat.le_of_ble_eq_true rfl) rfl) (by decide) ?_
    refine wl_call rfl rfl (vs := [.agg #[.bool sa, .slice Aa na ca], .agg #[.bool sb, .slice Ab nb cb]]) (by kernel_rfl) (by decide) (g_zint_FloorD_bad hw8.size (hx.ext hw8) (Nat.le_trans la (by decide)) (hy.ext hw8) (Nat.le_trans lb (by decide)) h0) ?_
    rintro _ v43 ⟨xr45, rfl, r45, e44⟩
    refine ret_intro ?_
    have hw9 : Ext w v43 := hw8.trans e44
    obtain ⟨a46_0, a46_1, a46_2, rfl, r46_0, r46_1, r46_2⟩ := r45
    obtain ⟨s47, A47, n47, c47, rfl, z47⟩ := r46_0
    obtain ⟨s48, A48, n48, c48, rfl, z48⟩ := r46_1
    obtain rfl := r46_2
    refine wl_move rfl rfl (by decide) ?_
    refine wl_pure rfl rfl (v := .agg #[.bool s47, .slice A47 n47 c47]) (by decide) (by kernel_rfl) ?_
    refine wl_pure rfl rfl (v := .agg #[.bool s48, .slice A48 n48 c48]) (by decide) (by kernel_rfl) ?_
    refine wl_pure rfl rfl (v := .int .i64 4) (by decide) (by kernel_rfl) ?_
    refine wl_alloc rfl (z := .agg #[.bool false, .slice none 0 0]) (vs := [.bool false, .slice none 0 0]) (fun _ => by kernel_rfl) rfl (by decide) fun g49 v50 nb => ?_
    have hb52 := nb.bk
    have ge53 : w.heap.size ≤ g49 := by rw [← nb.at_]; exact hw9.size
    have q54 : g27 < g49 := by rw [← nb.at_]; exact (hb40.ext e44).lt
    have e51 := nb.ext
    clear nb
    have hw10 : Ext w v50 := hw9.trans e51
    refine wl_alloc rfl (z := .agg #[.bool false, .slice none 0 0]) (vs := [.bool false, .slice none 0 0]) (fun _ => by kernel_rfl) rfl (by decide) fun g55 v56 nb => ?_
    have hb58 := nb.bk
    have ge59 : w.heap.size ≤ g55 := by rw [← nb.at_]; exact hw10.size
    have q60 : g49 < g55 := by rw [← nb.at_]; exact hb52.lt
    have e57 := nb.ext
    clear nb
    have hw11 : Ext w v56 := hw10.trans e57
    have hb62 := (hb52.ext e57)
    refine wl_stored rfl rfl rfl aggInt rfl hb62 (Nat.le_of_ble_eq_true rfl) rfl [.bool s47, .slice A47 n47 c47] rfl fun v61 hb63 u64 hs65 => ?_
    have hw12 : Ext w v61 := u64.ext hw11 ge53
    have hb67 := (hb58.updN u64 (by omega))
    refine wl_stored rfl rfl rfl aggInt rfl hb67 (Nat.le_of_ble_eq_true rfl) rfl [.bool s48, .slice A48 n48 c48] rfl fun v66 hb68 u69 hs70 => ?_
    have hw13 : Ext w v66 := u69.ext hw12 ge59
    refine wl_assign rfl rfl (by decide) ?_
    refine wl_nil ?_
    refine eo_then ?_
    refine cw_seq ?_
    refine cw_region ?_
    refine wl_load rfl rfl (load_agg aggInt ((((((hb4.ext (e8.trans (e13.trans (e16.trans (e23.trans e29))))).updN u36 (by omega)).updN u41 (by omega)).ext (e44.trans (e51.trans e57))).updN u64 (by omega)).updN u69 (by omega)) [.bool sa, .slice Aa na ca] rfl (Nat.le_of_ble_eq_true rfl) rfl) (by decide) ?_
    refine wl_load rfl rfl (load_agg aggInt ((((((hb9.ext (e13.trans (e16.trans (e23.trans e29)))).updN u36 (by omega)).updN u41 (by omega)).ext (e44.trans (e51.trans e57))).updN u64 (by omega)).updN u69 (by omega)) [.bool sb, .slice Ab nb cb] rfl (Nat.le_of_ble_eq_true rfl) rfl) (by decide) ?_
    refine wl_call rfl rfl (vs := [.agg #[.bool sa, .slice Aa na ca], .agg #[.bool sb, .slice Ab nb cb]]) (by kernel_rfl) (by decide) (g_zint_Euclid_badD hw13.size (hx.ext hw13) (Nat.le_trans la (by decide)) (hy.ext hw13) (Nat.le_trans lb (by decide)) h0) ?_
    rintro _ v71 ⟨xr73, rfl, r73, e72⟩
    refine ret_intro ?_
    have hw14 : Ext w v71 := hw13.trans e72
    obtain ⟨a74_0, a74_1, a74_2, rfl, r74_0, r74_1, r74_2⟩ := r73
    obtain ⟨s75, A75, n75, c75, rfl, z75⟩ := r74_0
    obtain ⟨s76, A76, n76, c76, rfl, z76⟩ := r74_1
    obtain rfl := r74_2
    refine wl_move rfl rfl (by decide) ?_
    refine wl_pure rfl rfl (v := .agg #[.bool s75, .slice A75 n75 c75]) (by decide) (by kernel_rfl) ?_
    refine wl_pure rfl rfl (v := .agg #[.bool s76, .slice A76 n76 c76]) (by decide) (by kernel_rfl) ?_
    refine wl_pure rfl rfl (v := .int .i64 4) (by decide) (by kernel_rfl) ?_
    refine wl_alloc rfl (z := .agg #[.bool false, .slice none 0 0]) (vs := [.bool false, .slice none 0 0]) (fun _ => by kernel_rfl) rfl (by decide) fun g77 v78 nb => ?_
    have hb80 := nb.bk
    have ge81 : w.heap.size ≤ g77 := by rw [← nb.at_]; exact hw14.size
    have q82 : g55 < g77 := by rw [← nb.at_]; exact (hb68.ext e72).lt
    have e79 := nb.ext
    clear nb
    have hw15 : Ext w v78 := hw14.trans e79
    refine wl_alloc rfl (z := .agg #[.bool false, .slice none 0 0]) (vs := [.bool false, .slice none 0 0]) (fun _ => by kernel_rfl) rfl (by decide) fun g83 v84 nb => ?_
    have hb86 := nb.bk
    have ge87 : w.heap.size ≤ g83 := by rw [← nb.at_]; exact hw15.size
    have q88 : g77 < g83 := by rw [← nb.at_]; exact hb80.lt
    have e85 := nb.ext
    clear nb
    have hw16 : Ext w v84 := hw15.trans e85
    have hb90 := (hb80.ext e85)
    refine wl_stored rfl rfl rfl aggInt rfl hb90 (Nat.le_of_ble_eq_true rfl) rfl [.bool s75, .slice A75 n75 c75] rfl fun v89 hb91 u92 hs93 => ?_
    have hw17 : Ext w v89 := u92.ext hw16 ge81
    have hb95 := (hb86.updN u92 (by omega))
    refine wl_stored rfl rfl rfl aggInt rfl hb95 (Nat.le_of_ble_eq_true rfl) rfl [.bool s76, .slice A76 n76 c76] rfl fun v94 hb96 u97 hs98 => ?_
    have hw18 : Ext w v94 := u97.ext hw17 ge87
    refine wl_assign rfl rfl (by decide) ?_
    refine wl_nil ?_
    refine eo_then ?_
    refine cw_seq ?_
    refine cw_region ?_
    refine wl_load rfl rfl (load_agg aggInt (((((((((hb4.ext (e8.trans (e13.trans (e16.trans (e23.trans e29))))).updN u36 (by omega)).updN u41 (by omega)).ext (e44.trans (e51.trans e57))).updN u64 (by omega)).updN u69 (by omega)).ext (e72.trans (e79.trans e85))).updN u92 (by omega)).updN u97 (by omega)) [.bool sa, .slice Aa na ca] rfl (Nat.le_of_ble_eq_true rfl) rfl) (by decide) ?_
    refine wl_load rfl rfl (load_agg aggInt (((((((((hb9.ext (e13.trans (e16.trans (e23.trans e29)))).updN u36 (by omega)).updN u41 (by omega)).ext (e44.trans (e51.trans e57))).updN u64 (by omega)).updN u69 (by omega)).ext (e72.trans (e79.trans e85))).updN u92 (by omega)).updN u97 (by omega)) [.bool sb, .slice Ab nb cb] rfl (Nat.le_of_ble_eq_true rfl) rfl) (by decide) ?_
    refine wl_call rfl rfl (vs := [.agg #[.bool sa, .slice Aa na ca], .agg #[.bool sb, .slice Ab nb cb]]) (by kernel_rfl) (by decide) (g_zint_Exact_bad hw18.size (hx.ext hw18) (Nat.le_trans la (by decide)) (hy.ext hw18) (Nat.le_trans lb (by decide)) h0) ?_
    rintro _ v99 ⟨xr101, rfl, r101, e100⟩
    refine ret_intro ?_
    have hw19 : Ext w v99 := hw18.trans e100
    obtain ⟨a102_0, a102_1, rfl, r102_0, r102_1⟩ := r101
    obtain ⟨s103, A103, n103, c103, rfl, z103⟩ := r102_0
    obtain rfl := r102_1
    refine wl_move rfl rfl (by decide) ?_
    refine wl_pure rfl rfl (v := .agg #[.bool s103, .slice A103 n103 c103]) (by decide) (by kernel_rfl) ?_
    refine wl_pure rfl rfl (v := .int .i64 4) (by decide) (by kernel_rfl) ?_
    refine wl_alloc rfl (z := .agg #[.bool false, .slice none 0 0]) (vs := [.bool false, .slice none 0 0]) (fun _ => by kernel_rfl) rfl (by decide) fun g104 v105 nb => ?_
    have hb107 := nb.bk
    have ge108 : w.heap.size ≤ g104 := by rw [← nb.at_]; exact hw19.size
    have q109 : g83 < g104 := by rw [← nb.at_]; exact (hb96.ext e100).lt
    have e106 := nb.ext
    clear nb
    have hw20 : Ext w v105 := hw19.trans e106
    have hb111 := hb107
    refine wl_stored rfl rfl rfl aggInt rfl hb111 (Nat.le_of_ble_eq_true rfl) rfl [.bool s103, .slice A103 n103 c103] rfl fun v110 hb112 u113 hs114 => ?_
    have hw21 : Ext w v110 := u113.ext hw20 ge108
    refine wl_assign rfl rfl (by decide) ?_
    refine wl_nil ?_
    refine eo_then ?_
    refine cw_seq ?_
    refine cw_seq ?_
    refine cw_region ?_
    refine wl_load rfl rfl (load_agg aggInt (((((((((((hb9.ext (e13.trans (e16.trans (e23.trans e29)))).updN u36 (by omega)).updN u41 (by omega)).ext (e44.trans (e51.trans e57))).updN u64 (by omega)).updN u69 (by omega)).ext (e72.trans (e79.trans e85))).updN u92 (by omega)).updN u97 (by omega)).ext (e100.trans e106)).updN u113 (by omega)) [.bool sb, .slice Ab nb cb] rfl (Nat.le_of_ble_eq_true rfl) rfl) (by decide) ?_
    refine wl_call rfl rfl (vs := [.agg #[.bool sb, .slice Ab nb cb]]) (by kernel_rfl) (by decide) (g_zint_Sign (hy.ext hw21) (Nat.le_trans lb (by decide))) ?_
    rintro _ v115 ⟨xr117, rfl, r117, e116⟩
    refine ret_intro ?_
    have hw22 : Ext w v115 := hw21.trans e116
    obtain rfl := r117
    refine wl_cmp rfl rfl rfl true (scmp_eq_t h0) (by decide) ?_
    refine wl_nil ?_
    refine eo_then ?_
    refine cw_true rfl ?_
    refine cw_seq ?_
    refine cw_region ?_
    refine wl_move rfl rfl (by decide) ?_
    refine wl_cmp rfl rfl rfl true (by decide) (by decide) ?_
    refine wl_move rfl rfl (by decide) ?_
    refine wl_move rfl rfl (by decide) ?_
    refine wl_cmp rfl rfl rfl true (by decide) (by decide) ?_
    refine wl_pure rfl rfl (v := .bool true) (by decide) (by kernel_rfl) ?_
    refine wl_move rfl rfl (by decide) ?_
    refine wl_move rfl rfl (by decide) ?_
    refine wl_cmp rfl rfl rfl true (by decide) (by decide) ?_
    refine wl_pure rfl rfl (v := .bool true) (by decide) (by kernel_rfl) ?_
    refine wl_move rfl rfl (by decide) ?_
    refine wl_move rfl rfl (by decide) ?_
    refine wl_cmp rfl rfl rfl true (by decide) (by decide) ?_
    refine wl_pure rfl rfl (v := .bool true) (by decide) (by kernel_rfl) ?_
    refine wl_assign rfl rfl (by decide) ?_
    refine wl_nil ?_
    refine eo_then ?_
    refine cw_ret ?_
    refine eo_thenR ?_
    refine eo_ret [.bool true] rfl ⟨rfl, trivial⟩ ?_
    exact bool_of _ _ ⟨_, rfl, rfl, hw22⟩
  ·
    by_cases ht : x.tmod y = 0
    ·
      have htn : x.natAbs % y.natAbs = 0 := by rw [← Int.natAbs_tmod, ht]; rfl
      refine cw_region ?_
      refine wl_load rfl rfl (load_agg aggInt (hb4.ext (e8.trans e13)) [.bool sa, .slice Aa na ca] rfl (Nat.le_of_ble_eq_true rfl) rfl) (by decide) ?_
      refine wl_load rfl rfl (load_agg aggInt (hb9.ext e13) [.bool sb, .slice Ab nb cb] rfl (Nat.le_of_ble_eq_true rfl) rfl) (by decide) ?_
      have L118 : ln ((x).tdiv y) ≤ 1048576 := Nat.le_trans (ln_tdiv _ _) Lx
      have L119 : ln ((x).tmod y) ≤ 1048576 := Nat.le_trans (ln_tmod _ _) Lx
      refine wl_call rfl rfl (vs := [.agg #[.bool sa, .slice Aa na ca], .agg #[.bool sb, .slice Ab nb cb]]) (by kernel_rfl) (by decide) (g_zint_Trunc hw3.size (hx.ext hw3) (Nat.le_trans la (by decide)) (hy.ext hw3) (Nat.le_trans lb (by decide)) h0) ?_
      rintro _ v120 ⟨xr122, rfl, r122, e121⟩
      refine ret_intro ?_
      have hw4 : Ext w v120 := hw3.trans e121
      obtain ⟨a123_0, a123_1, a123_2, rfl, r123_0, r123_1, r123_2⟩ := r122
      obtain ⟨s124, A124, n124, c124, rfl, z124⟩ := r123_0
      obtain ⟨s125, A125, n125, c125, rfl, z125⟩ := r123_1
      obtain rfl := r123_2
      refine wl_move rfl rfl (by decide) ?_
      refine wl_pure rfl rfl (v := .agg #[.bool s124, .slice A124 n124 c124]) (by decide) (by kernel_rfl) ?_
      refine wl_pure rfl rfl (v := .agg #[.bool s125, .slice A125 n125 c125]) (by decide) (by kernel_rfl) ?_
      refine wl_pure rfl rfl (v := .int .i64 0) (by decide) (by kernel_rfl) ?_
      refine wl_alloc rfl (z := .agg #[.bool false, .slice none 0 0]) (vs := [.bool false, .slice none 0 0]) (fun _ => by kernel_rfl) rfl (by decide) fun g126 v127 nb => ?_
      have hb129 := nb.bk
      have ge130 : w.heap.size ≤ g126 := by rw [← nb.at_]; exact hw4.size
      have q131 : g6 < g126 := by rw [← nb.at_]; exact (hb9.ext (e13.trans e121)).lt
      have e128 := nb.ext
      clear nb
      have hw5 : Ext w v127 := hw4.trans e128
      refine wl_alloc rfl (z := .agg #[.bool false, .slice none 0 0]) (vs := [.bool false, .slice none 0 0]) (fun _ => by kernel_rfl) rfl (by decide) fun g132 v133 nb => ?_
      have hb135 := nb.bk
      have ge136 : w.heap.size ≤ g132 := by rw [← nb.at_]; exact hw5.size
      have q137 : g126 < g132 := by rw [← nb.at_]; exact hb129.lt
      have e134 := nb.ext
      clear nb
      have hw6 : Ext w v133 := hw5.trans e134
      have hb139 := (hb129.ext e134)
      refine wl_stored rfl rfl rfl aggInt rfl hb139 (Nat.le_of_ble_eq_true rfl) rfl [.bool s124, .slice A124 n124 c124] rfl fun v138 hb140 u141 hs142 => ?_
      have hw7 : Ext w v138 := u141.ext hw6 ge130
      have hb144 := (hb135.updN u141 (by omega))
      refine wl_stored rfl rfl rfl aggInt rfl hb144 (Nat.le_of_ble_eq_true rfl) rfl [.bool s125, .slice A125 n125 c125] rfl fun v143 hb145 u146 hs147 => ?_
      have hw8 : Ext w v143 := u146.ext hw7 ge136
      refine wl_assign rfl rfl (by decide) ?_
      refine wl_nil ?_
      refine eo_then ?_
      refine cw_seq ?_
      refine cw_region ?_
      refine wl_load rfl rfl (load_agg aggInt (((hb4.ext (e8.trans (e13.trans (e121.trans (e128.trans e134))))).updN u141 (by omega)).updN u146 (by omega)) [.bool sa, .slice Aa na ca] rfl (Nat.le_of_ble_eq_true rfl) rfl) (by decide) ?_
      refine wl_load rfl rfl (load_agg aggInt (((hb9.ext (e13.trans (e121.trans (e128.trans e134)))).updN u141 (by omega)).updN u146 (by omega)) [.bool sb, .slice Ab nb cb] rfl (Nat.le_of_ble_eq_true rfl) rfl) (by decide) ?_
      refine wl_call rfl rfl (vs := [.agg #[.bool sa, .slice Aa na ca], .agg #[.bool sb, .slice Ab nb cb]]) (by kernel_rfl) (by decide) (g_zint_FloorD hw8.size (hx.ext hw8) (Nat.le_trans la (by decide)) (hy.ext hw8) (Nat.le_trans lb (by decide)) h0) ?_
      rintro _ v148 ⟨q151, r152, p153, xr150, rfl, r150, e149⟩
      have L154 : ln (q151) ≤ 1048577 := (ln_floq p153 h0 Lx (by decide))
      have L155 : ln (r152) ≤ 1048576 := (ln_flor p153 h0 Ly)
      refine ret_intro ?_
      have hw9 : Ext w v148 := hw8.trans e149
      obtain ⟨a156_0, a156_1, a156_2, rfl, r156_0, r156_1, r156_2⟩ := r150
      obtain ⟨s157, A157, n157, c157, rfl, z157⟩ := r156_0
      obtain ⟨s158, A158, n158, c158, rfl, z158⟩ := r156_1
      obtain rfl := r156_2
      refine wl_move rfl rfl (by decide) ?_
      refine wl_pure rfl rfl (v := .agg #[.bool s157, .slice A157 n157 c157]) (by decide) (by kernel_rfl) ?_
      refine wl_pure rfl rfl (v := .agg #[.bool s158, .slice A158 n158 c158]) (by decide) (by kernel_rfl) ?_
      refine wl_pure rfl rfl (v := .int .i64 0) (by decide) (by kernel_rfl) ?_
      refine wl_alloc rfl (z := .agg #[.bool false, .slice none 0 0]) (vs := [.bool false, .slice none 0 0]) (fun _ => by kernel_rfl) rfl (by decide) fun g159 v160 nb => ?_
      have hb162 := nb.bk
      have ge163 : w.heap.size ≤ g159 := by rw [← nb.at_]; exact hw9.size
      have q164 : g132 < g159 := by rw [← nb.at_]; exact (hb145.ext e149).lt
      have e161 := nb.ext
      clear nb
      have hw10 : Ext w v160 := hw9.trans e161
      refine wl_alloc rfl (z := .agg #[.bool false, .slice none 0 0]) (vs := [.bool false, .slice none 0 0]) (fun _ => by kernel_rfl) rfl (by decide) fun g165 v166 nb => ?_
      have hb168 := nb.bk
      have ge169 : w.heap.size ≤ g165 := by rw [← nb.at_]; exact hw10.size
      have q170 : g159 < g165 := by rw [← nb.at_]; exact hb162.lt
      have e167 := nb.ext
      clear nb
      have hw11 : Ext w v166 := hw10.trans e167
      have hb172 := (hb162.ext e167)
      refine wl_stored rfl rfl rfl aggInt rfl hb172 (Nat.le_of_ble_eq_true rfl) rfl [.bool s157, .slice A157 n157 c157] rfl fun v171 hb173 u174 hs175 => ?_
      have hw12 : Ext w v171 := u174.ext hw11 ge163
      have hb177 := (hb168.updN u174 (by omega))
      refine wl_stored rfl rfl rfl aggInt rfl hb177 (Nat.le_of_ble_eq_true rfl) rfl [.bool s158, .slice A158 n158 c158] rfl fun v176 hb178 u179 hs180 => ?_
      have hw13 : Ext w v176 := u179.ext hw12 ge169
      refine wl_assign rfl rfl (by decide) ?_
      refine wl_nil ?_
      refine eo_then ?_
      refine cw_seq ?_
      refine cw_region ?_
      refine wl_load rfl rfl (load_agg aggInt ((((((hb4.ext (e8.trans (e13.trans (e121.trans (e128.trans e134))))).updN u141 (by omega)).updN u146 (by omega)).ext (e149.trans (e161.trans e167))).updN u174 (by omega)).updN u179 (by omega)) [.bool sa, .slice Aa na ca] rfl (Nat.le_of_ble_eq_true rfl) rfl) (by decide) ?_
      refine wl_load rfl rfl (load_agg aggInt ((((((hb9.ext (e13.trans (e121.trans (e128.trans e134)))).updN u141 (by omega)).updN u146 (by omega)).ext (e149.trans (e161.trans e167))).updN u174 (by omega)).updN u179 (by omega)) [.bool sb, .slice Ab nb cb] rfl (Nat.le_of_ble_eq_true rfl) rfl) (by decide) ?_
      have L181 : ln (x / y) ≤ 1048577 := Nat.le_trans (ln_ediv _ _) (Nat.succ_le_succ Lx)
      have L182 : ln (x % y) ≤ 1048576 := Nat.le_trans (ln_emod h0) Ly
      refine wl_call rfl rfl (vs := [.agg #[.bool sa, .slice Aa na ca], .agg #[.bool sb, .slice Ab nb cb]]) (by kernel_rfl) (by decide) (g_zint_Euclid hw13.size (hx.ext hw13) (Nat.le_trans la (by decide)) (hy.ext hw13) (Nat.le_trans lb (by decide)) h0) ?_
      rintro _ v183 ⟨xr185, rfl, r185, e184⟩
      refine ret_intro ?_
      have hw14 : Ext w v183 := hw13.trans e184
      obtain ⟨a186_0, a186_1, a186_2, rfl, r186_0, r186_1, r186_2⟩ := r185
      obtain ⟨s187, A187, n187, c187, rfl, z187⟩ := r186_0
      obtain ⟨s188, A188, n188, c188, rfl, z188⟩ := r186_1
      obtain rfl := r186_2
      refine wl_move rfl rfl (by decide) ?_
      refine wl_pure rfl rfl (v := .agg #[.bool s187, .slice A187 n187 c187]) (by decide) (by kernel_rfl) ?_
      refine wl_pure rfl rfl (v := .agg #[.bool s188, .slice A188 n188 c188]) (by decide) (by kernel_rfl) ?_
      refine wl_pure rfl rfl (v := .int .i64 0) (by decide) (by kernel_rfl) ?_
      refine wl_alloc rfl (z := .agg #[.bool false, .slice none 0 0]) (vs := [.bool false, .slice none 0 0]) (fun _ => by kernel_rfl) rfl (by decide) fun g189 v190 nb => ?_
      have hb192 := nb.bk
      have ge193 : w.heap.size ≤ g189 := by rw [← nb.at_]; exact hw14.size
      have q194 : g165 < g189 := by rw [← nb.at_]; exact (hb178.ext e184).lt
      have e191 := nb.ext
      clear nb
      have hw15 : Ext w v190 := hw14.trans e191
      refine wl_alloc rfl (z := .agg #[.bool false, .slice none 0 0]) (vs := [.bool false, .slice none 0 0]) (fun _ => by kernel_rfl) rfl (by decide) fun g195 v196 nb => ?_
      have hb198 := nb.bk
      have ge199 : w.heap.size ≤ g195 := by rw [← nb.at_]; exact hw15.size
      have q200 : g189 < g195 := by rw [← nb.at_]; exact hb192.lt
      have e197 := nb.ext
      clear nb
      have hw16 : Ext w v196 := hw15.trans e197
      have hb202 := (hb192.ext e197)
      refine wl_stored rfl rfl rfl aggInt rfl hb202 (Nat.le_of_ble_eq_true rfl) rfl [.bool s187, .slice A187 n187 c187] rfl fun v201 hb203 u204 hs205 => ?_
      have hw17 : Ext w v201 := u204.ext hw16 ge193
      have hb207 := (hb198.updN u204 (by omega))
      refine wl_stored rfl rfl rfl aggInt rfl hb207 (Nat.le_of_ble_eq_true rfl) rfl [.bool s188, .slice A188 n188 c188] rfl fun v206 hb208 u209 hs210 => ?_
      have hw18 : Ext w v206 := u209.ext hw17 ge199
      refine wl_assign rfl rfl (by decide) ?_
      refine wl_nil ?_
      refine eo_then ?_
      refine cw_seq ?_
      refine cw_region ?_
      refine wl_load rfl rfl (load_agg aggInt (((((((((hb4.ext (e8.trans (e13.trans (e121.trans (e128.trans e134))))).updN u141 (by omega)).updN u146 (by omega)).ext (e149.trans (e161.trans e167))).updN u174 (by omega)).updN u179 (by omega)).ext (e184.trans (e191.trans e197))).updN u204 (by omega)).updN u209 (by omega)) [.bool sa, .slice Aa na ca] rfl (Nat.le_of_ble_eq_true rfl) rfl) (by decide) ?_
      refine wl_load rfl rfl (load_agg aggInt (((((((((hb9.ext (e13.trans (e121.trans (e128.trans e134)))).updN u141 (by omega)).updN u146 (by omega)).ext (e149.trans (e161.trans e167))).updN u174 (by omega)).updN u179 (by omega)).ext (e184.trans (e191.trans e197))).updN u204 (by omega)).updN u209 (by omega)) [.bool sb, .slice Ab nb cb] rfl (Nat.le_of_ble_eq_true rfl) rfl) (by decide) ?_
      have L211 : ln (x.tdiv y) ≤ 1048576 := Nat.le_trans (ln_tdiv _ _) Lx
      refine wl_call rfl rfl (vs := [.agg #[.bool sa, .slice Aa na ca], .agg #[.bool sb, .slice Ab nb cb]]) (by kernel_rfl) (by decide) (g_zint_Exact_ok hw18.size (hx.ext hw18) (Nat.le_trans la (by decide)) (hy.ext hw18) (Nat.le_trans lb (by decide)) h0 htn) ?_
      rintro _ v212 ⟨xr214, rfl, r214, e213⟩
      refine ret_intro ?_
      have hw19 : Ext w v212 := hw18.trans e213
      obtain ⟨a215_0, a215_1, rfl, r215_0, r215_1⟩ := r214
      obtain ⟨s216, A216, n216, c216, rfl, z216⟩ := r215_0
      obtain rfl := r215_1
      refine wl_move rfl rfl (by decide) ?_
      refine wl_pure rfl rfl (v := .agg #[.bool s216, .slice A216 n216 c216]) (by decide) (by kernel_rfl) ?_
      refine wl_pure rfl rfl (v := .int .i64 0) (by decide) (by kernel_rfl) ?_
      refine wl_alloc rfl (z := .agg #[.bool false, .slice none 0 0]) (vs := [.bool false, .slice none 0 0]) (fun _ => by kernel_rfl) rfl (by decide) fun g217 v218 nb => ?_
      have hb220 := nb.bk
      have ge221 : w.heap.size ≤ g217 := by rw [← nb.at_]; exact hw19.size
      have q222 : g195 < g217 := by rw [← nb.at_]; exact (hb208.ext e213).lt
      have e219 := nb.ext
      clear nb
      have hw20 : Ext w v218 := hw19.trans e219
      have hb224 := hb220
      refine wl_stored rfl rfl rfl aggInt rfl hb224 (Nat.le_of_ble_eq_true rfl) rfl [.bool s216, .slice A216 n216 c216] rfl fun v223 hb225 u226 hs227 => ?_
      have hw21 : Ext w v223 := u226.ext hw20 ge221
      refine wl_assign rfl rfl (by decide) ?_
      refine wl_nil ?_
      refine eo_then ?_
      refine cw_seq ?_
      refine cw_seq ?_
      refine cw_region ?_
      refine wl_load rfl rfl (load_agg aggInt (((((((((((hb9.ext (e13.trans (e121.trans (e128.trans e134)))).updN u141 (by omega)).updN u146 (by omega)).ext (e149.trans (e161.trans e167))).updN u174 (by omega)).updN u179 (by omega)).ext (e184.trans (e191.trans e197))).updN u204 (by omega)).updN u209 (by omega)).ext (e213.trans e219)).updN u226 (by omega)) [.bool sb, .slice Ab nb cb] rfl (Nat.le_of_ble_eq_true rfl) rfl) (by decide) ?_
      refine wl_call rfl rfl (vs := [.agg #[.bool sb, .slice Ab nb cb]]) (by kernel_rfl) (by decide) (g_zint_Sign (hy.ext hw21) (Nat.le_trans lb (by decide))) ?_
      rintro _ v228 ⟨xr230, rfl, r230, e229⟩
      refine ret_intro ?_
      have hw22 : Ext w v228 := hw21.trans e229
      obtain rfl := r230
      refine wl_cmp rfl rfl rfl false (scmp_eq_f h0) (by decide) ?_
      refine wl_nil ?_
      refine eo_then ?_
      refine cw_false rfl ?_
      refine cw_skip ?_
      refine eo_then ?_
      refine cw_seq ?_
      refine cw_seq ?_
      refine cw_region ?_
      refine wl_move rfl rfl (by decide) ?_
      refine wl_cmp rfl rfl rfl false (by decide) (by decide) ?_
      refine wl_move rfl rfl (by decide) ?_
      refine wl_move rfl rfl (by decide) ?_
      refine wl_cmp rfl rfl rfl false (by decide) (by decide) ?_
      refine wl_pure rfl rfl (v := .bool false) (by decide) (by kernel_rfl) ?_
      refine wl_move rfl rfl (by decide) ?_
      refine wl_move rfl rfl (by decide) ?_
      refine wl_cmp rfl rfl rfl false (by decide) (by decide) ?_
      refine wl_pure rfl rfl (v := .bool false) (by decide) (by kernel_rfl) ?_
      refine wl_nil ?_
      refine eo_then ?_
      refine cw_false rfl ?_
      refine cw_skip ?_
      refine eo_then ?_
      refine cw_seq ?_
      refine cw_region ?_
      refine wl_load rfl rfl (load_agg aggInt ((((((((((((hb4.ext (e8.trans (e13.trans (e121.trans (e128.trans e134))))).updN u141 (by omega)).updN u146 (by omega)).ext (e149.trans (e161.trans e167))).updN u174 (by omega)).updN u179 (by omega)).ext (e184.trans (e191.trans e197))).updN u204 (by omega)).updN u209 (by omega)).ext (e213.trans e219)).updN u226 (by omega)).ext e229) [.bool sa, .slice Aa na ca] rfl (Nat.le_of_ble_eq_true rfl) rfl) (by decide) ?_
      refine wl_call rfl rfl (vs := [.agg #[.bool sa, .slice Aa na ca]]) (by kernel_rfl) (by decide) (g_zint_Least hw22.size (hx.ext hw22) (Nat.le_trans la (by decide))) ?_
      rintro _ v231 ⟨xr233, rfl, r233, e232⟩
      refine ret_intro ?_
      have hw23 : Ext w v231 := hw22.trans e232
      obtain ⟨s234, A234, n234, c234, rfl, z234⟩ := r233
      refine wl_alloc rfl (z := .agg #[.bool false, .slice none 0 0]) (vs := [.bool false, .slice none 0 0]) (fun _ => by kernel_rfl) rfl (by decide) fun g235 v236 nb => ?_
      have hb238 := nb.bk
      have ge239 : w.heap.size ≤ g235 := by rw [← nb.at_]; exact hw23.size
      have q240 : g217 < g235 := by rw [← nb.at_]; exact (hb225.ext (e229.trans e232)).lt
      have e237 := nb.ext
      clear nb
      have hw24 : Ext w v236 := hw23.trans e237
      have hb242 := hb238
      refine wl_stored rfl rfl rfl aggInt rfl hb242 (Nat.le_of_ble_eq_true rfl) rfl [.bool s234, .slice A234 n234 c234] rfl fun v241 hb243 u244 hs245 => ?_
      have hw25 : Ext w v241 := u244.ext hw24 ge239
      refine wl_nil ?_
      refine eo_then ?_
      refine cw_seq ?_
      refine cw_seq ?_
      have L246 : ln ((x.tdiv y) * y + (x.tmod y)) ≤ 2097153 := Nat.le_trans (ln_add (ln_mul L118 Ly) L119) (by decide)
      have L248 : ln (q151 * y + r152) ≤ 2097154 := Nat.le_trans (ln_add (ln_mul L154 Ly) L155) (by decide)
      have L250 : ln ((x / y) * y + (x % y)) ≤ 2097154 := Nat.le_trans (ln_add (ln_mul L181 Ly) L182) (by decide)
      refine cw_draw mix 25 [] [Is (.agg #[.bool s124, .slice A124 n124 c124]), Is (.agg #[.bool sb, .slice Ab nb cb]), Is (.agg #[.bool s125, .slice A125 n125 c125]), ZR w.heap.size ((x.tdiv y) * y + (x.tmod y)), Is (.agg #[.bool s234, .slice A234 n234 c234]), Is (.bool true), Is (.bool false), Is (.bool false), Is (.agg #[.bool s157, .slice A157 n157 c157]), Is (.agg #[.bool sb, .slice Ab nb cb]), Is (.agg #[.bool s158, .slice A158 n158 c158]), ZR w.heap.size (q151 * y + r152), Is (.agg #[.bool s234, .slice A234 n234 c234]), Is (.bool true), Is (.bool false), Is (.bool false), Is (.bool false), Is (.agg #[.bool s187, .slice A187 n187 c187]), Is (.agg #[.bool sb, .slice Ab nb cb]), Is (.agg #[.bool s188, .slice A188 n188 c188]), ZR w.heap.size ((x / y) * y + (x % y)), Is (.agg #[.bool s234, .slice A234 n234 c234]), Is (.bool true), Is (.bool false), Is (.bool false)] [[], [], [], [0, 1, 2], [], [3, 4], [5], [6], [7], [7], [7], [7, 8, 9, 10], [7], [7, 11, 12], [7, 13], [7, 14], [15], [16], [16], [16], [16, 17, 18, 19], [16], [16, 20, 21], [16, 22], [16, 23]] [[], [], [], [0, 1, 2], [], [0, 1, 2, 3, 4], [0, 1, 2, 3, 4, 5], [0, 1, 2, 3, 4, 5, 6], [0, 1, 2, 3, 4, 5, 6, 7], [0, 1, 2, 3, 4, 5, 6, 7], [0, 1, 2, 3, 4, 5, 6, 7], [0, 1, 2, 3, 4, 5, 6, 7, 8, 9, 10], [0, 1, 2, 3, 4, 5, 6, 7], [0, 1, 2, 3, 4, 5, 6, 7, 8, 9, 10, 11, 12], [0, 1, 2, 3, 4, 5, 6, 7, 8, 9, 10, 11, 12, 13], [0, 1, 2, 3, 4, 5, 6, 7, 8, 9, 10, 11, 12, 13, 14], [0, 1, 2, 3, 4, 5, 6, 7, 8, 9, 10, 11, 12, 13, 14, 15], [0, 1, 2, 3, 4, 5, 6, 7, 8, 9, 10, 11, 12, 13, 14, 15, 16], [0, 1, 2, 3, 4, 5, 6, 7, 8, 9, 10, 11, 12, 13, 14, 15, 16], [0, 1, 2, 3, 4, 5, 6, 7, 8, 9, 10, 11, 12, 13, 14, 15, 16], [0, 1, 2, 3, 4, 5, 6, 7, 8, 9, 10, 11, 12, 13, 14, 15, 16, 17, 18, 19], [0, 1, 2, 3, 4, 5, 6, 7, 8, 9, 10, 11, 12, 13, 14, 15, 16], [0, 1, 2, 3, 4, 5, 6, 7, 8, 9, 10, 11, 12, 13, 14, 15, 16, 17, 18, 19, 20, 21], [0, 1, 2, 3, 4, 5, 6, 7, 8, 9, 10, 11, 12, 13, 14, 15, 16, 17, 18, 19, 20, 21, 22], [0, 1, 2, 3, 4, 5, 6, 7, 8, 9, 10, 11, 12, 13, 14, 15, 16, 17, 18, 19, 20, 21, 22, 23]] rfl
        (obs_cons rfl rfl (hob rfl rfl ?_) (obs_cons rfl rfl (hob rfl rfl ?_) (obs_cons rfl rfl (hob rfl rfl ?_) (obs_cons rfl rfl (hob rfl rfl ?_) (obs_cons rfl rfl (hob rfl rfl ?_) (obs_cons rfl rfl (hob rfl rfl ?_) (obs_cons rfl rfl (hob rfl rfl ?_) (obs_cons rfl rfl (hob rfl rfl ?_) (obs_cons rfl rfl (hob rfl rfl ?_) (obs_cons rfl rfl (hob rfl rfl ?_) (obs_cons rfl rfl (hob rfl rfl ?_) (obs_cons rfl rfl (hob rfl rfl ?_) (obs_cons rfl rfl (hob rfl rfl ?_) (obs_cons rfl rfl (hob rfl rfl ?_) (obs_cons rfl rfl (hob rfl rfl ?_) (obs_cons rfl rfl (hob rfl rfl ?_) (obs_cons rfl rfl (hob rfl rfl ?_) (obs_cons rfl rfl (hob rfl rfl ?_) (obs_cons rfl rfl (hob rfl rfl ?_) (obs_cons rfl rfl (hob rfl rfl ?_) (obs_cons rfl rfl (hob rfl rfl ?_) (obs_cons rfl rfl (hob rfl rfl ?_) (obs_cons rfl rfl (hob rfl rfl ?_) (obs_cons rfl rfl (hob rfl rfl ?_) (obs_cons rfl rfl (hob rfl rfl ?_) obs_nil))))))))))))))))))))))))) ?_
      · -- 0
        intro v252 e253
        have hw26 : Ext w v252 := hw25.trans e253
        refine deps_nil ?_
        refine wl_load rfl rfl (load_agg aggInt ((((((((((((hb140.updN u146 (by omega)).ext (e149.trans (e161.trans e167))).updN u174 (by omega)).updN u179 (by omega)).ext (e184.trans (e191.trans e197))).updN u204 (by omega)).updN u209 (by omega)).ext (e213.trans e219)).updN u226 (by omega)).ext (e229.trans (e232.trans e237))).updN u244 (by omega)).ext e253) [.bool s124, .slice A124 n124 c124] rfl (Nat.le_of_ble_eq_true rfl) rfl) (by decide) ?_
        exact pi_done rfl (Ext.refl _) rfl
      · -- 1
        intro v254 e255
        have hw26 : Ext w v254 := hw25.trans e255
        refine deps_nil ?_
        refine wl_load rfl rfl (load_agg aggInt ((((((((((((((hb9.ext (e13.trans (e121.trans (e128.trans e134)))).updN u141 (by omega)).updN u146 (by omega)).ext (e149.trans (e161.trans e167))).updN u174 (by omega)).updN u179 (by omega)).ext (e184.trans (e191.trans e197))).updN u204 (by omega)).updN u209 (by omega)).ext (e213.trans e219)).updN u226 (by omega)).ext (e229.trans (e232.trans e237))).updN u244 (by omega)).ext e255) [.bool sb, .slice Ab nb cb] rfl (Nat.le_of_ble_eq_true rfl) rfl) (by decide) ?_
        exact pi_done rfl (Ext.refl _) rfl
      · -- 2
        intro v256 e257
        have hw26 : Ext w v256 := hw25.trans e257
        refine deps_nil ?_
        refine wl_load rfl rfl (load_agg aggInt (((((((((((hb145.ext (e149.trans (e161.trans e167))).updN u174 (by omega)).updN u179 (by omega)).ext (e184.trans (e191.trans e197))).updN u204 (by omega)).updN u209 (by omega)).ext (e213.trans e219)).updN u226 (by omega)).ext (e229.trans (e232.trans e237))).updN u244 (by omega)).ext e257) [.bool s125, .slice A125 n125 c125] rfl (Nat.le_of_ble_eq_true rfl) rfl) (by decide) ?_
        exact pi_done rfl (Ext.refl _) rfl
      · -- 3
        intro v258 e259
        have hw26 : Ext w v258 := hw25.trans e259
        refine deps_cons rfl rfl fun x260 y261 h262 e263 f264 => ?_
        obtain rfl := h262
        refine deps_cons rfl rfl fun x265 y266 h267 e268 f269 => ?_
        obtain rfl := h267
        refine deps_cons rfl rfl fun x270 y271 h272 e273 f274 => ?_
        obtain rfl := h272
        refine deps_nil ?_
        have L275 : ln ((x.tdiv y) * y + (x.tmod y)) ≤ 2097153 := Nat.le_trans (ln_add (ln_mul L118 Ly) L119) (by decide)
        refine wl_call rfl rfl (vs := [.agg #[.bool s124, .slice A124 n124 c124], .agg #[.bool sb, .slice Ab nb cb], .agg #[.bool s125, .slice A125 n125 c125]]) (by kernel_rfl) (by decide) (g_zint_MulAdd hw26.size ((((((((((((((z124.ext (e128.trans e134)).updT hb139 u141).updT hb144 u146).ext (e149.trans (e161.trans e167))).updT hb172 u174).updT hb177 u179).ext (e184.trans (e191.trans e197))).updT hb202 u204).updT hb207 u209).ext (e213.trans e219)).updT hb224 u226).ext (e229.trans (e232.trans e237))).updT hb242 u244).ext e259).zi (z124.le (Nat.le_trans L118 (by decide))) (hy.ext hw26) (Nat.le_trans lb (by decide)) ((((((((((((((z125.ext (e128.trans e134)).updT hb139 u141).updT hb144 u146).ext (e149.trans (e161.trans e167))).updT hb172 u174).updT hb177 u179).ext (e184.trans (e191.trans e197))).updT hb202 u204).updT hb207 u209).ext (e213.trans e219)).updT hb224 u226).ext (e229.trans (e232.trans e237))).updT hb242 u244).ext e259).zi (z125.le (Nat.le_trans L119 (by decide)))) ?_
        rintro _ v276 ⟨xr278, rfl, r278, e277⟩
        refine ret_intro ?_
        have hw27 : Ext w v276 := hw26.trans e277
        obtain ⟨s279, A279, n279, c279, rfl, z279⟩ := r278
        exact pi_done rfl e277 ⟨_, _, _, _, rfl, z279⟩
      · -- 4
        intro v280 e281
        have hw26 : Ext w v280 := hw25.trans e281
        refine deps_nil ?_
        refine wl_load rfl rfl (load_agg aggInt (hb243.ext e281) [.bool s234, .slice A234 n234 c234] rfl (Nat.le_of_ble_eq_true rfl) rfl) (by decide) ?_
        exact pi_done rfl (Ext.refl _) rfl
      · -- 5
        intro v282 e283
        have hw26 : Ext w v282 := hw25.trans e283
        refine deps_cons rfl rfl fun x284 y285 h286 e287 f288 => ?_
        obtain ⟨s289, A289, n289, c289, rfl, z289⟩ := h286
        have z289 := z289.ext f288
        refine deps_cons rfl rfl fun x290 y291 h292 e293 f294 => ?_
        obtain rfl := h292
        refine deps_nil ?_
        refine wl_call rfl rfl (vs := [.agg #[.bool s289, .slice A289 n289 c289], .agg #[.bool s234, .slice A234 n234 c234]]) (by kernel_rfl) (by decide) (g_law5_alike z289 (z289.le (Nat.le_trans L246 (by decide))) ((((z234.ext e237).updT hb242 u244).ext e283).cast (by first | rfl | exact (Int.tdiv_mul_add_tmod x y).symm | exact p153.eq.symm | exact (ediv_eq5 x y).symm | exact (flo_same5 p153 h0 ht).2.symm | exact (ediv_same5 h0 ht).symm)) (z234.le (Nat.le_trans Lx (by decide)))) ?_
        rintro _ v295 ⟨xr297, rfl, r297, e296⟩
        refine ret_intro ?_
        have hw27 : Ext w v295 := hw26.trans e296
        obtain rfl := r297
        exact pi_done rfl e296 rfl
      · -- 6
        intro v298 e299
        have hw26 : Ext w v298 := hw25.trans e299
        refine deps_cons rfl rfl fun x300 y301 h302 e303 f304 => ?_
        obtain rfl := h302
        refine deps_nil ?_
        refine wl_pure rfl rfl (v := .bool false) (by decide) (by kernel_rfl) ?_
        exact pi_done rfl (Ext.refl _) rfl
      · -- 7
        intro v305 e306
        have hw26 : Ext w v305 := hw25.trans e306
        refine deps_cons rfl rfl fun x307 y308 h309 e310 f311 => ?_
        obtain rfl := h309
        refine deps_nil ?_
        refine wl_move rfl rfl (by decide) ?_
        exact pi_done rfl (Ext.refl _) rfl
      · -- 8
        intro v312 e313
        have hw26 : Ext w v312 := hw25.trans e313
        refine deps_cons rfl rfl fun x314 y315 h316 e317 f318 => ?_
        obtain rfl := h316
        refine deps_nil ?_
        refine wl_load rfl rfl (load_agg aggInt (((((((((hb173.updN u179 (by omega)).ext (e184.trans (e191.trans e197))).updN u204 (by omega)).updN u209 (by omega)).ext (e213.trans e219)).updN u226 (by omega)).ext (e229.trans (e232.trans e237))).updN u244 (by omega)).ext e313) [.bool s157, .slice A157 n157 c157] rfl (Nat.le_of_ble_eq_true rfl) rfl) (by decide) ?_
        exact pi_done rfl (Ext.refl _) rfl
      · -- 9
        intro v319 e320
        have hw26 : Ext w v319 := hw25.trans e320
        refine deps_cons rfl rfl fun x321 y322 h323 e324 f325 => ?_
        obtain rfl := h323
        refine deps_nil ?_
        refine wl_load rfl rfl (load_agg aggInt ((((((((((((((hb9.ext (e13.trans (e121.trans (e128.trans e134)))).updN u141 (by omega)).updN u146 (by omega)).ext (e149.trans (e161.trans e167))).updN u174 (by omega)).updN u179 (by omega)).ext (e184.trans (e191.trans e197))).updN u204 (by omega)).updN u209 (by omega)).ext (e213.trans e219)).updN u226 (by omega)).ext (e229.trans (e232.trans e237))).updN u244 (by omega)).ext e320) [.bool sb, .slice Ab nb cb] rfl (Nat.le_of_ble_eq_true rfl) rfl) (by decide) ?_
        exact pi_done rfl (Ext.refl _) rfl
      · -- 10
        intro v326 e327
        have hw26 : Ext w v326 := hw25.trans e327
        refine deps_cons rfl rfl fun x328 y329 h330 e331 f332 => ?_
        obtain rfl := h330
        refine deps_nil ?_
        refine wl_load rfl rfl (load_agg aggInt ((((((((hb178.ext (e184.trans (e191.trans e197))).updN u204 (by omega)).updN u209 (by omega)).ext (e213.trans e219)).updN u226 (by omega)).ext (e229.trans (e232.trans e237))).updN u244 (by omega)).ext e327) [.bool s158, .slice A158 n158 c158] rfl (Nat.le_of_ble_eq_true rfl) rfl) (by decide) ?_
        exact pi_done rfl (Ext.refl _) rfl
      · -- 11
        intro v333 e334
        have hw26 : Ext w v333 := hw25.trans e334
        refine deps_cons rfl rfl fun x335 y336 h337 e338 f339 => ?_
        obtain rfl := h337
        refine deps_cons rfl rfl fun x340 y341 h342 e343 f344 => ?_
        obtain rfl := h342
        refine deps_cons rfl rfl fun x345 y346 h347 e348 f349 => ?_
        obtain rfl := h347
        refine deps_cons rfl rfl fun x350 y351 h352 e353 f354 => ?_
        obtain rfl := h352
        refine deps_nil ?_
        have L355 : ln (q151 * y + r152) ≤ 2097154 := Nat.le_trans (ln_add (ln_mul L154 Ly) L155) (by decide)
        refine wl_call rfl rfl (vs := [.agg #[.bool s157, .slice A157 n157 c157], .agg #[.bool sb, .slice Ab nb cb], .agg #[.bool s158, .slice A158 n158 c158]]) (by kernel_rfl) (by decide) (g_zint_MulAdd hw26.size (((((((((((z157.ext (e161.trans e167)).updT hb172 u174).updT hb177 u179).ext (e184.trans (e191.trans e197))).updT hb202 u204).updT hb207 u209).ext (e213.trans e219)).updT hb224 u226).ext (e229.trans (e232.trans e237))).updT hb242 u244).ext e334).zi (z157.le (Nat.le_trans L154 (by decide))) (hy.ext hw26) (Nat.le_trans lb (by decide)) (((((((((((z158.ext (e161.trans e167)).updT hb172 u174).updT hb177 u179).ext (e184.trans (e191.trans e197))).updT hb202 u204).updT hb207 u209).ext (e213.trans e219)).updT hb224 u226).ext (e229.trans (e232.trans e237))).updT hb242 u244).ext e334).zi (z158.le (Nat.le_trans L155 (by decide)))) ?_
        rintro _ v356 ⟨xr358, rfl, r358, e357⟩
        refine ret_intro ?_
        have hw27 : Ext w v356 := hw26.trans e357
        obtain ⟨s359, A359, n359, c359, rfl, z359⟩ := r358
        exact pi_done rfl e357 ⟨_, _, _, _, rfl, z359⟩
      · -- 12
        intro v360 e361
        have hw26 : Ext w v360 := hw25.trans e361
        refine deps_cons rfl rfl fun x362 y363 h364 e365 f366 => ?_
        obtain rfl := h364
        refine deps_nil ?_
        refine wl_load rfl rfl (load_agg aggInt (hb243.ext e361) [.bool s234, .slice A234 n234 c234] rfl (Nat.le_of_ble_eq_true rfl) rfl) (by decide) ?_
        exact pi_done rfl (Ext.refl _) rfl
      · -- 13
        intro v367 e368
        have hw26 : Ext w v367 := hw25.trans e368
        refine deps_cons rfl rfl fun x369 y370 h371 e372 f373 => ?_
        obtain rfl := h371
        refine deps_cons rfl rfl fun x374 y375 h376 e377 f378 => ?_
        obtain ⟨s379, A379, n379, c379, rfl, z379⟩ := h376
        have z379 := z379.ext f378
        refine deps_cons rfl rfl fun x380 y381 h382 e383 f384 => ?_
        obtain rfl := h382
        refine deps_nil ?_
        refine wl_call rfl rfl (vs := [.agg #[.bool s379, .slice A379 n379 c379], .agg #[.bool s234, .slice A234 n234 c234]]) (by kernel_rfl) (by decide) (g_law5_alike z379 (z379.le (Nat.le_trans L248 (by decide))) ((((z234.ext e237).updT hb242 u244).ext e368).cast (by first | rfl | exact (Int.tdiv_mul_add_tmod x y).symm | exact p153.eq.symm | exact (ediv_eq5 x y).symm | exact (flo_same5 p153 h0 ht).2.symm | exact (ediv_same5 h0 ht).symm)) (z234.le (Nat.le_trans Lx (by decide)))) ?_
        rintro _ v385 ⟨xr387, rfl, r387, e386⟩
        refine ret_intro ?_
        have hw27 : Ext w v385 := hw26.trans e386
        obtain rfl := r387
        exact pi_done rfl e386 rfl
      · -- 14
        intro v388 e389
        have hw26 : Ext w v388 := hw25.trans e389
        refine deps_cons rfl rfl fun x390 y391 h392 e393 f394 => ?_
        obtain rfl := h392
        refine deps_cons rfl rfl fun x395 y396 h397 e398 f399 => ?_
        obtain rfl := h397
        refine deps_nil ?_
        refine wl_pure rfl rfl (v := .bool false) (by decide) (by kernel_rfl) ?_
        exact pi_done rfl (Ext.refl _) rfl
      · -- 15
        intro v400 e401
        have hw26 : Ext w v400 := hw25.trans e401
        refine deps_cons rfl rfl fun x402 y403 h404 e405 f406 => ?_
        obtain rfl := h404
        refine deps_cons rfl rfl fun x407 y408 h409 e410 f411 => ?_
        obtain rfl := h409
        refine deps_nil ?_
        refine wl_pure rfl rfl (v := .bool false) (by decide) (by kernel_rfl) ?_
        exact pi_done rfl (Ext.refl _) rfl
      · -- 16
        intro v412 e413
        have hw26 : Ext w v412 := hw25.trans e413
        refine deps_cons rfl rfl fun x414 y415 h416 e417 f418 => ?_
        obtain rfl := h416
        refine deps_nil ?_
        refine wl_move rfl rfl (by decide) ?_
        exact pi_done rfl (Ext.refl _) rfl
      · -- 17
        intro v419 e420
        have hw26 : Ext w v419 := hw25.trans e420
        refine deps_cons rfl rfl fun x421 y422 h423 e424 f425 => ?_
        obtain rfl := h423
        refine deps_nil ?_
        refine wl_load rfl rfl (load_agg aggInt ((((((hb203.updN u209 (by omega)).ext (e213.trans e219)).updN u226 (by omega)).ext (e229.trans (e232.trans e237))).updN u244 (by omega)).ext e420) [.bool s187, .slice A187 n187 c187] rfl (Nat.le_of_ble_eq_true rfl) rfl) (by decide) ?_
        exact pi_done rfl (Ext.refl _) rfl
      · -- 18
        intro v426 e427
        have hw26 : Ext w v426 := hw25.trans e427
        refine deps_cons rfl rfl fun x428 y429 h430 e431 f432 => ?_
        obtain rfl := h430
        refine deps_nil ?_
        refine wl_load rfl rfl (load_agg aggInt ((((((((((((((hb9.ext (e13.trans (e121.trans (e128.trans e134)))).updN u141 (by omega)).updN u146 (by omega)).ext (e149.trans (e161.trans e167))).updN u174 (by omega)).updN u179 (by omega)).ext (e184.trans (e191.trans e197))).updN u204 (by omega)).updN u209 (by omega)).ext (e213.trans e219)).updN u226 (by omega)).ext (e229.trans (e232.trans e237))).updN u244 (by omega)).ext e427) [.bool sb, .slice Ab nb cb] rfl (Nat.le_of_ble_eq_true rfl) rfl) (by decide) ?_
        exact pi_done rfl (Ext.refl _) rfl
      · -- 19
        intro v433 e434
        have hw26 : Ext w v433 := hw25.trans e434
        refine deps_cons rfl rfl fun x435 y436 h437 e438 f439 => ?_
        obtain rfl := h437
        refine deps_nil ?_
        refine wl_load rfl rfl (load_agg aggInt (((((hb208.ext (e213.trans e219)).updN u226 (by omega)).ext (e229.trans (e232.trans e237))).updN u244 (by omega)).ext e434) [.bool s188, .slice A188 n188 c188] rfl (Nat.le_of_ble_eq_true rfl) rfl) (by decide) ?_
        exact pi_done rfl (Ext.refl _) rfl
      · -- 20
        intro v440 e441
        have hw26 : Ext w v440 := hw25.trans e441
        refine deps_cons rfl rfl fun x442 y443 h444 e445 f446 => ?_
        obtain rfl := h444
        refine deps_cons rfl rfl fun x447 y448 h449 e450 f451 => ?_
        obtain rfl := h449
        refine deps_cons rfl rfl fun x452 y453 h454 e455 f456 => ?_
        obtain rfl := h454
        refine deps_cons rfl rfl fun x457 y458 h459 e460 f461 => ?_
        obtain rfl := h459
        refine deps_nil ?_
        have L462 : ln ((x / y) * y + (x % y)) ≤ 2097154 := Nat.le_trans (ln_add (ln_mul L181 Ly) L182) (by decide)
        refine wl_call rfl rfl (vs := [.agg #[.bool s187, .slice A187 n187 c187], .agg #[.bool sb, .slice Ab nb cb], .agg #[.bool s188, .slice A188 n188 c188]]) (by kernel_rfl) (by decide) (g_zint_MulAdd hw26.size ((((((((z187.ext (e191.trans e197)).updT hb202 u204).updT hb207 u209).ext (e213.trans e219)).updT hb224 u226).ext (e229.trans (e232.trans e237))).updT hb242 u244).ext e441).zi (z187.le (Nat.le_trans L181 (by decide))) (hy.ext hw26) (Nat.le_trans lb (by decide)) ((((((((z188.ext (e191.trans e197)).updT hb202 u204).updT hb207 u209).ext (e213.trans e219)).updT hb224 u226).ext (e229.trans (e232.trans e237))).updT hb242 u244).ext e441).zi (z188.le (Nat.le_trans L182 (by decide)))) ?_
        rintro _ v463 ⟨xr465, rfl, r465, e464⟩
        refine ret_intro ?_
        have hw27 : Ext w v463 := hw26.trans e464
        obtain ⟨s466, A466, n466, c466, rfl, z466⟩ := r465
        exact pi_done rfl e464 ⟨_, _, _, _, rfl, z466⟩
      · -- 21
        intro v467 e468
        have hw26 : Ext w v467 := hw25.trans e468
        refine deps_cons rfl rfl fun x469 y470 h471 e472 f473 => ?_
        obtain rfl := h471
        refine deps_nil ?_
        refine wl_load rfl rfl (load_agg aggInt (hb243.ext e468) [.bool s234, .slice A234 n234 c234] rfl (Nat.le_of_ble_eq_true rfl) rfl) (by decide) ?_
        exact pi_done rfl (Ext.refl _) rfl
      · -- 22
        intro v474 e475
        have hw26 : Ext w v474 := hw25.trans e475
        refine deps_cons rfl rfl fun x476 y477 h478 e479 f480 => ?_
        obtain rfl := h478
        refine deps_cons rfl rfl fun x481 y482 h483 e484 f485 => ?_
        obtain ⟨s486, A486, n486, c486, rfl, z486⟩ := h483
        have z486 := z486.ext f485
        refine deps_cons rfl rfl fun x487 y488 h489 e490 f491 => ?_
        obtain rfl := h489
        refine deps_nil ?_
        refine wl_call rfl rfl (vs := [.agg #[.bool s486, .slice A486 n486 c486], .agg #[.bool s234, .slice A234 n234 c234]]) (by kernel_rfl) (by decide) (g_law5_alike z486 (z486.le (Nat.le_trans L250 (by decide))) ((((z234.ext e237).updT hb242 u244).ext e475).cast (by first | rfl | exact (Int.tdiv_mul_add_tmod x y).symm | exact p153.eq.symm | exact (ediv_eq5 x y).symm | exact (flo_same5 p153 h0 ht).2.symm | exact (ediv_same5 h0 ht).symm)) (z234.le (Nat.le_trans Lx (by decide)))) ?_
        rintro _ v492 ⟨xr494, rfl, r494, e493⟩
        refine ret_intro ?_
        have hw27 : Ext w v492 := hw26.trans e493
        obtain rfl := r494
        exact pi_done rfl e493 rfl
      · -- 23
        intro v495 e496
        have hw26 : Ext w v495 := hw25.trans e496
        refine deps_cons rfl rfl fun x497 y498 h499 e500 f501 => ?_
        obtain rfl := h499
        refine deps_cons rfl rfl fun x502 y503 h504 e505 f506 => ?_
        obtain rfl := h504
        refine deps_nil ?_
        refine wl_pure rfl rfl (v := .bool false) (by decide) (by kernel_rfl) ?_
        exact pi_done rfl (Ext.refl _) rfl
      · -- 24
        intro v507 e508
        have hw26 : Ext w v507 := hw25.trans e508
        refine deps_cons rfl rfl fun x509 y510 h511 e512 f513 => ?_
        obtain rfl := h511
        refine deps_cons rfl rfl fun x514 y515 h516 e517 f518 => ?_
        obtain rfl := h516
        refine deps_nil ?_
        refine wl_pure rfl rfl (v := .bool false) (by decide) (by kernel_rfl) ?_
        exact pi_done rfl (Ext.refl _) rfl
      · -- all
        intro v519 e520
        have hw26 : Ext w v519 := hw25.trans e520
        refine deps_cons rfl rfl fun x521 y522 h523 e524 f525 => ?_
        obtain rfl := h523
        refine deps_cons rfl rfl fun x526 y527 h528 e529 f530 => ?_
        obtain rfl := h528
        refine deps_cons rfl rfl fun x531 y532 h533 e534 f535 => ?_
        obtain rfl := h533
        refine deps_cons rfl rfl fun x536 y537 h538 e539 f540 => ?_
        obtain ⟨s541, A541, n541, c541, rfl, z541⟩ := h538
        have z541 := z541.ext f540
        refine deps_cons rfl rfl fun x542 y543 h544 e545 f546 => ?_
        obtain rfl := h544
        refine deps_cons rfl rfl fun x547 y548 h549 e550 f551 => ?_
        obtain rfl := h549
        refine deps_cons rfl rfl fun x552 y553 h554 e555 f556 => ?_
        obtain rfl := h554
        refine deps_cons rfl rfl fun x557 y558 h559 e560 f561 => ?_
        obtain rfl := h559
        refine deps_cons rfl rfl fun x562 y563 h564 e565 f566 => ?_
        obtain rfl := h564
        refine deps_cons rfl rfl fun x567 y568 h569 e570 f571 => ?_
        obtain rfl := h569
        refine deps_cons rfl rfl fun x572 y573 h574 e575 f576 => ?_
        obtain rfl := h574
        refine deps_cons rfl rfl fun x577 y578 h579 e580 f581 => ?_
        obtain ⟨s582, A582, n582, c582, rfl, z582⟩ := h579
        have z582 := z582.ext f581
        refine deps_cons rfl rfl fun x583 y584 h585 e586 f587 => ?_
        obtain rfl := h585
        refine deps_cons rfl rfl fun x588 y589 h590 e591 f592 => ?_
        obtain rfl := h590
        refine deps_cons rfl rfl fun x593 y594 h595 e596 f597 => ?_
        obtain rfl := h595
        refine deps_cons rfl rfl fun x598 y599 h600 e601 f602 => ?_
        obtain rfl := h600
        refine deps_cons rfl rfl fun x603 y604 h605 e606 f607 => ?_
        obtain rfl := h605
        refine deps_cons rfl rfl fun x608 y609 h610 e611 f612 => ?_
        obtain rfl := h610
        refine deps_cons rfl rfl fun x613 y614 h615 e616 f617 => ?_
        obtain rfl := h615
        refine deps_cons rfl rfl fun x618 y619 h620 e621 f622 => ?_
        obtain rfl := h620
        refine deps_cons rfl rfl fun x623 y624 h625 e626 f627 => ?_
        obtain ⟨s628, A628, n628, c628, rfl, z628⟩ := h625
        have z628 := z628.ext f627
        refine deps_cons rfl rfl fun x629 y630 h631 e632 f633 => ?_
        obtain rfl := h631
        refine deps_cons rfl rfl fun x634 y635 h636 e637 f638 => ?_
        obtain rfl := h636
        refine deps_cons rfl rfl fun x639 y640 h641 e642 f643 => ?_
        obtain rfl := h641
        refine deps_cons rfl rfl fun x644 y645 h646 e647 f648 => ?_
        obtain rfl := h646
        refine deps_nil ?_
        refine wl_nil ?_
        refine eo_np ?_
        refine eo_then ?_
        refine cw_false rfl ?_
        refine cw_skip ?_
        refine eo_then ?_
        refine cw_seq ?_
        refine cw_seq ?_
        refine cw_draw mix 32 [] [Is (.agg #[.bool s125, .slice A125 n125 c125]), Is (.agg #[.bool sb, .slice Ab nb cb]), Is (.int .i64 (cmp3 (Int.natAbs (x.tmod y)) (Int.natAbs y))), Is (.bool false), Is (.bool false), Is (.agg #[.bool s125, .slice A125 n125 c125]), Is (.int .i64 (scmp (x.tmod y) 0)), Is (.agg #[.bool sa, .slice Aa na ca]), Is (.int .i64 (scmp x 0)), Is (.int .i64 (scmp (x.tmod y) 0 * scmp x 0)), Is (.bool false), Is (.bool false), Is (.bool false), Is (.agg #[.bool s158, .slice A158 n158 c158]), Is (.agg #[.bool sb, .slice Ab nb cb]), Is (.int .i64 (cmp3 (Int.natAbs r152) (Int.natAbs y))), Is (.bool false), Is (.bool false), Is (.bool false), Is (.agg #[.bool s158, .slice A158 n158 c158]), Is (.int .i64 (scmp r152 0)), Is (.agg #[.bool sb, .slice Ab nb cb]), Is (.int .i64 (scmp y 0)), Is (.int .i64 (scmp r152 0 * scmp y 0)), Is (.bool false), Is (.bool false), Is (.bool false), Is (.agg #[.bool s188, .slice A188 n188 c188]), Is (.agg #[.bool sb, .slice Ab nb cb]), Is (.bool true), Is (.bool false), Is (.bool false)] [[], [], [0, 1], [2], [3], [4], [4, 5], [4], [4, 7], [4, 6, 8], [4, 9], [4, 10], [11], [12], [12], [12, 13, 14], [12, 15], [12, 16], [17], [18], [18, 19], [18], [18, 21], [18, 20, 22], [18, 23], [18, 24], [25], [26], [26], [26, 27, 28], [26, 29], [26, 30]] [[], [], [0, 1], [0, 1, 2], [0, 1, 2, 3], [0, 1, 2, 3, 4], [0, 1, 2, 3, 4, 5], [0, 1, 2, 3, 4], [0, 1, 2, 3, 4, 5, 6, 7], [0, 1, 2, 3, 4, 5, 6, 7, 8], [0, 1, 2, 3, 4, 5, 6, 7, 8, 9], [0, 1, 2, 3, 4, 5, 6, 7, 8, 9, 10], [0, 1, 2, 3, 4, 5, 6, 7, 8, 9, 10, 11], [0, 1, 2, 3, 4, 5, 6, 7, 8, 9, 10, 11, 12], [0, 1, 2, 3, 4, 5, 6, 7, 8, 9, 10, 11, 12], [0, 1, 2, 3, 4, 5, 6, 7, 8, 9, 10, 11, 12, 13, 14], [0, 1, 2, 3, 4, 5, 6, 7, 8, 9, 10, 11, 12, 13, 14, 15], [0, 1, 2, 3, 4, 5, 6, 7, 8, 9, 10, 11, 12, 13, 14, 15, 16], [0, 1, 2, 3, 4, 5, 6, 7, 8, 9, 10, 11, 12, 13, 14, 15, 16, 17], [0, 1, 2, 3, 4, 5, 6, 7, 8, 9, 10, 11, 12, 13, 14, 15, 16, 17, 18], [0, 1, 2, 3, 4, 5, 6, 7, 8, 9, 10, 11, 12, 13, 14, 15, 16, 17, 18, 19], [0, 1, 2, 3, 4, 5, 6, 7, 8, 9, 10, 11, 12, 13, 14, 15, 16, 17, 18], [0, 1, 2, 3, 4, 5, 6, 7, 8, 9, 10, 11, 12, 13, 14, 15, 16, 17, 18, 19, 20, 21], [0, 1, 2, 3, 4, 5, 6, 7, 8, 9, 10, 11, 12, 13, 14, 15, 16, 17, 18, 19, 20, 21, 22], [0, 1, 2, 3, 4, 5, 6, 7, 8, 9, 10, 11, 12, 13, 14, 15, 16, 17, 18, 19, 20, 21, 22, 23], [0, 1, 2, 3, 4, 5, 6, 7, 8, 9, 10, 11, 12, 13, 14, 15, 16, 17, 18, 19, 20, 21, 22, 23, 24], [0, 1, 2, 3, 4, 5, 6, 7, 8, 9, 10, 11, 12, 13, 14, 15, 16, 17, 18, 19, 20, 21, 22, 23, 24, 25], [0, 1, 2, 3, 4, 5, 6, 7, 8, 9, 10, 11, 12, 13, 14, 15, 16, 17, 18, 19, 20, 21, 22, 23, 24, 25, 26], [0, 1, 2, 3, 4, 5, 6, 7, 8, 9, 10, 11, 12, 13, 14, 15, 16, 17, 18, 19, 20, 21, 22, 23, 24, 25, 26], [0, 1, 2, 3, 4, 5, 6, 7, 8, 9, 10, 11, 12, 13, 14, 15, 16, 17, 18, 19, 20, 21, 22, 23, 24, 25, 26, 27, 28], [0, 1, 2, 3, 4, 5, 6, 7, 8, 9, 10, 11, 12, 13, 14, 15, 16, 17, 18, 19, 20, 21, 22, 23, 24, 25, 26, 27, 28, 29], [0, 1, 2, 3, 4, 5, 6, 7, 8, 9, 10, 11, 12, 13, 14, 15, 16, 17, 18, 19, 20, 21, 22, 23, 24, 25, 26, 27, 28, 29, 30]] rfl
          (obs_cons rfl rfl (hob rfl rfl ?_) (obs_cons rfl rfl (hob rfl rfl ?_) (obs_cons rfl rfl (hob rfl rfl ?_) (obs_cons rfl rfl (hob rfl rfl ?_) (obs_cons rfl rfl (hob rfl rfl ?_) (obs_cons rfl rfl (hob rfl rfl ?_) (obs_cons rfl rfl (hob rfl rfl ?_) (obs_cons rfl rfl (hob rfl rfl ?_) (obs_cons rfl rfl (hob rfl rfl ?_) (obs_cons rfl rfl (hob rfl rfl ?_) (obs_cons rfl rfl (hob rfl rfl ?_) (obs_cons rfl rfl (hob rfl rfl ?_) (obs_cons rfl rfl (hob rfl rfl ?_) (obs_cons rfl rfl (hob rfl rfl ?_) (obs_cons rfl rfl (hob rfl rfl ?_) (obs_cons rfl rfl (hob rfl rfl ?_) (obs_cons rfl rfl (hob rfl rfl ?_) (obs_cons rfl rfl (hob rfl rfl ?_) (obs_cons rfl rfl (hob rfl rfl ?_) (obs_cons rfl rfl (hob rfl rfl ?_) (obs_cons rfl rfl (hob rfl rfl ?_) (obs_cons rfl rfl (hob rfl rfl ?_) (obs_cons rfl rfl (hob rfl rfl ?_) (obs_cons rfl rfl (hob rfl rfl ?_) (obs_cons rfl rfl (hob rfl rfl ?_) (obs_cons rfl rfl (hob rfl rfl ?_) (obs_cons rfl rfl (hob rfl rfl ?_) (obs_cons rfl rfl (hob rfl rfl ?_) (obs_cons rfl rfl (hob rfl rfl ?_) (obs_cons rfl rfl (hob rfl rfl ?_) (obs_cons rfl rfl (hob rfl rfl ?_) (obs_cons rfl rfl (hob rfl rfl ?_) obs_nil)))))))))))))))))))))))))))))))) ?_
        · -- 0
          intro v649 e650
          have hw27 : Ext w v649 := hw26.trans e650
          refine deps_nil ?_
          refine wl_load rfl rfl (load_agg aggInt (((((((((((hb145.ext (e149.trans (e161.trans e167))).updN u174 (by omega)).updN u179 (by omega)).ext (e184.trans (e191.trans e197))).updN u204 (by omega)).updN u209 (by omega)).ext (e213.trans e219)).updN u226 (by omega)).ext (e229.trans (e232.trans e237))).updN u244 (by omega)).ext (e520.trans e650)) [.bool s125, .slice A125 n125 c125] rfl (Nat.le_of_ble_eq_true rfl) rfl) (by decide) ?_
          exact pi_done rfl (Ext.refl _) rfl
        · -- 1
          intro v651 e652
          have hw27 : Ext w v651 := hw26.trans e652
          refine deps_nil ?_
          refine wl_load rfl rfl (load_agg aggInt ((((((((((((((hb9.ext (e13.trans (e121.trans (e128.trans e134)))).updN u141 (by omega)).updN u146 (by omega)).ext (e149.trans (e161.trans e167))).updN u174 (by omega)).updN u179 (by omega)).ext (e184.trans (e191.trans e197))).updN u204 (by omega)).updN u209 (by omega)).ext (e213.trans e219)).updN u226 (by omega)).ext (e229.trans (e232.trans e237))).updN u244 (by omega)).ext (e520.trans e652)) [.bool sb, .slice Ab nb cb] rfl (Nat.le_of_ble_eq_true rfl) rfl) (by decide) ?_
          exact pi_done rfl (Ext.refl _) rfl
        · -- 2
          intro v653 e654
          have hw27 : Ext w v653 := hw26.trans e654
          refine deps_cons rfl rfl fun x655 y656 h657 e658 f659 => ?_
          obtain rfl := h657
          refine deps_cons rfl rfl fun x660 y661 h662 e663 f664 => ?_
          obtain rfl := h662
          refine deps_nil ?_
          refine wl_call rfl rfl (vs := [.agg #[.bool s125, .slice A125 n125 c125], .agg #[.bool sb, .slice Ab nb cb]]) (by kernel_rfl) (by decide) (g_zint_CmpAbs ((((((((((((((z125.ext (e128.trans e134)).updT hb139 u141).updT hb144 u146).ext (e149.trans (e161.trans e167))).updT hb172 u174).updT hb177 u179).ext (e184.trans (e191.trans e197))).updT hb202 u204).updT hb207 u209).ext (e213.trans e219)).updT hb224 u226).ext (e229.trans (e232.trans e237))).updT hb242 u244).ext (e520.trans e654)).zi (z125.le (Nat.le_trans L119 (by decide))) (hy.ext hw27) (Nat.le_trans lb (by decide))) ?_
          rintro _ v665 ⟨xr667, rfl, r667, e666⟩
          refine ret_intro ?_
          have hw28 : Ext w v665 := hw27.trans e666
          obtain rfl := r667
          exact pi_done rfl e666 rfl
        · -- 3
          intro v668 e669
          have hw27 : Ext w v668 := hw26.trans e669
          refine deps_cons rfl rfl fun x670 y671 h672 e673 f674 => ?_
          obtain rfl := h672
          refine deps_nil ?_
          refine wl_cmp rfl rfl rfl false (cmp3_ge5 (tmod_abs h0)) (by decide) ?_
          exact pi_done rfl (Ext.refl _) rfl
        · -- 4
          intro v675 e676
          have hw27 : Ext w v675 := hw26.trans e676
          refine deps_cons rfl rfl fun x677 y678 h679 e680 f681 => ?_
          obtain rfl := h679
          refine deps_nil ?_
          refine wl_move rfl rfl (by decide) ?_
          exact pi_done rfl (Ext.refl _) rfl
        · -- 5
          intro v682 e683
          have hw27 : Ext w v682 := hw26.trans e683
          refine deps_cons rfl rfl fun x684 y685 h686 e687 f688 => ?_
          obtain rfl := h686
          refine deps_nil ?_
          refine wl_load rfl rfl (load_agg aggInt (((((((((((hb145.ext (e149.trans (e161.trans e167))).updN u174 (by omega)).updN u179 (by omega)).ext (e184.trans (e191.trans e197))).updN u204 (by omega)).updN u209 (by omega)).ext (e213.trans e219)).updN u226 (by omega)).ext (e229.trans (e232.trans e237))).updN u244 (by omega)).ext (e520.trans e683)) [.bool s125, .slice A125 n125 c125] rfl (Nat.le_of_ble_eq_true rfl) rfl) (by decide) ?_
          exact pi_done rfl (Ext.refl _) rfl
        · -- 6
          intro v689 e690
          have hw27 : Ext w v689 := hw26.trans e690
          refine deps_cons rfl rfl fun x691 y692 h693 e694 f695 => ?_
          obtain rfl := h693
          refine deps_cons rfl rfl fun x696 y697 h698 e699 f700 => ?_
          obtain rfl := h698
          refine deps_nil ?_
          refine wl_call rfl rfl (vs := [.agg #[.bool s125, .slice A125 n125 c125]]) (by kernel_rfl) (by decide) (g_zint_Sign ((((((((((((((z125.ext (e128.trans e134)).updT hb139 u141).updT hb144 u146).ext (e149.trans (e161.trans e167))).updT hb172 u174).updT hb177 u179).ext (e184.trans (e191.trans e197))).updT hb202 u204).updT hb207 u209).ext (e213.trans e219)).updT hb224 u226).ext (e229.trans (e232.trans e237))).updT hb242 u244).ext (e520.trans e690)).zi (z125.le (Nat.le_trans L119 (by decide)))) ?_
          rintro _ v701 ⟨xr703, rfl, r703, e702⟩
          refine ret_intro ?_
          have hw28 : Ext w v701 := hw27.trans e702
          obtain rfl := r703
          exact pi_done rfl e702 rfl
        · -- 7
          intro v704 e705
          have hw27 : Ext w v704 := hw26.trans e705
          refine deps_cons rfl rfl fun x706 y707 h708 e709 f710 => ?_
          obtain rfl := h708
          refine deps_nil ?_
          refine wl_load rfl rfl (load_agg aggInt ((((((((((((((hb4.ext (e8.trans (e13.trans (e121.trans (e128.trans e134))))).updN u141 (by omega)).updN u146 (by omega)).ext (e149.trans (e161.trans e167))).updN u174 (by omega)).updN u179 (by omega)).ext (e184.trans (e191.trans e197))).updN u204 (by omega)).updN u209 (by omega)).ext (e213.trans e219)).updN u226 (by omega)).ext (e229.trans (e232.trans e237))).updN u244 (by omega)).ext (e520.trans e705)) [.bool sa, .slice Aa na ca] rfl (Nat.le_of_ble_eq_true rfl) rfl) (by decide) ?_
          exact pi_done rfl (Ext.refl _) rfl
        · -- 8
          intro v711 e712
          have hw27 : Ext w v711 := hw26.trans e712
          refine deps_cons rfl rfl fun x713 y714 h715 e716 f717 => ?_
          obtain rfl := h715
          refine deps_cons rfl rfl fun x718 y719 h720 e721 f722 => ?_
          obtain rfl := h720
          refine deps_nil ?_
          refine wl_call rfl rfl (vs := [.agg #[.bool sa, .slice Aa na ca]]) (by kernel_rfl) (by decide) (g_zint_Sign (hx.ext hw27) (Nat.le_trans la (by decide))) ?_
          rintro _ v723 ⟨xr725, rfl, r725, e724⟩
          refine ret_intro ?_
          have hw28 : Ext w v723 := hw27.trans e724
          obtain rfl := r725
          exact pi_done rfl e724 rfl
        · -- 9
          intro v726 e727
          have hw27 : Ext w v726 := hw26.trans e727
          refine deps_cons rfl rfl fun x728 y729 h730 e731 f732 => ?_
          obtain rfl := h730
          refine deps_cons rfl rfl fun x733 y734 h735 e736 f737 => ?_
          obtain rfl := h735
          refine deps_cons rfl rfl fun x738 y739 h740 e741 f742 => ?_
          obtain rfl := h740
          refine deps_nil ?_
          refine wl_ar rfl rfl rfl (scmp (x.tmod y) 0 * scmp x 0) (ar_i64m rfl (by have := scmp_mul_bd (x.tmod y) 0 x 0; omega) (by have := scmp_mul_bd (x.tmod y) 0 x 0; omega)) (by decide) ?_
          exact pi_done rfl (Ext.refl _) rfl
        · -- 10
          intro v743 e744
          have hw27 : Ext w v743 := hw26.trans e744
          refine deps_cons rfl rfl fun x745 y746 h747 e748 f749 => ?_
          obtain rfl := h747
          refine deps_cons rfl rfl fun x750 y751 h752 e753 f754 => ?_
          obtain rfl := h752
          refine deps_nil ?_
          refine wl_cmp rfl rfl rfl false (lt_f (tm_sgn x y)) (by decide) ?_
          exact pi_done rfl (Ext.refl _) rfl
        · -- 11
          intro v755 e756
          have hw27 : Ext w v755 := hw26.trans e756
          refine deps_cons rfl rfl fun x757 y758 h759 e760 f761 => ?_
          obtain rfl := h759
          refine deps_cons rfl rfl fun x762 y763 h764 e765 f766 => ?_
          obtain rfl := h764
          refine deps_nil ?_
          refine wl_pure rfl rfl (v := .bool false) (by decide) (by kernel_rfl) ?_
          exact pi_done rfl (Ext.refl _) rfl
        · -- 12
          intro v767 e768
          have hw27 : Ext w v767 := hw26.trans e768
          refine deps_cons rfl rfl fun x769 y770 h771 e772 f773 => ?_
          obtain rfl := h771
          refine deps_nil ?_
          refine wl_move rfl rfl (by decide) ?_
          exact pi_done rfl (Ext.refl _) rfl
        · -- 13
          intro v774 e775
          have hw27 : Ext w v774 := hw26.trans e775
          refine deps_cons rfl rfl fun x776 y777 h778 e779 f780 => ?_
          obtain rfl := h778
          refine deps_nil ?_
          refine wl_load rfl rfl (load_agg aggInt ((((((((hb178.ext (e184.trans (e191.trans e197))).updN u204 (by omega)).updN u209 (by omega)).ext (e213.trans e219)).updN u226 (by omega)).ext (e229.trans (e232.trans e237))).updN u244 (by omega)).ext (e520.trans e775)) [.bool s158, .slice A158 n158 c158] rfl (Nat.le_of_ble_eq_true rfl) rfl) (by decide) ?_
          exact pi_done rfl (Ext.refl _) rfl
        · -- 14
          intro v781 e782
          have hw27 : Ext w v781 := hw26.trans e782
          refine deps_cons rfl rfl fun x783 y784 h785 e786 f787 => ?_
          obtain rfl := h785
          refine deps_nil ?_
          refine wl_load rfl rfl (load_agg aggInt ((((((((((((((hb9.ext (e13.trans (e121.trans (e128.trans e134)))).updN u141 (by omega)).updN u146 (by omega)).ext (e149.trans (e161.trans e167))).updN u174 (by omega)).updN u179 (by omega)).ext (e184.trans (e191.trans e197))).updN u204 (by omega)).updN u209 (by omega)).ext (e213.trans e219)).updN u226 (by omega)).ext (e229.trans (e232.trans e237))).updN u244 (by omega)).ext (e520.trans e782)) [.bool sb, .slice Ab nb cb] rfl (Nat.le_of_ble_eq_true rfl) rfl) (by decide) ?_
          exact pi_done rfl (Ext.refl _) rfl
        · -- 15
          intro v788 e789
          have hw27 : Ext w v788 := hw26.trans e789
          refine deps_cons rfl rfl fun x790 y791 h792 e793 f794 => ?_
          obtain rfl := h792
          refine deps_cons rfl rfl fun x795 y796 h797 e798 f799 => ?_
          obtain rfl := h797
          refine deps_cons rfl rfl fun x800 y801 h802 e803 f804 => ?_
          obtain rfl := h802
          refine deps_nil ?_
          refine wl_call rfl rfl (vs := [.agg #[.bool s158, .slice A158 n158 c158], .agg #[.bool sb, .slice Ab nb cb]]) (by kernel_rfl) (by decide) (g_zint_CmpAbs (((((((((((z158.ext (e161.trans e167)).updT hb172 u174).updT hb177 u179).ext (e184.trans (e191.trans e197))).updT hb202 u204).updT hb207 u209).ext (e213.trans e219)).updT hb224 u226).ext (e229.trans (e232.trans e237))).updT hb242 u244).ext (e520.trans e789)).zi (z158.le (Nat.le_trans L155 (by decide))) (hy.ext hw27) (Nat.le_trans lb (by decide))) ?_
          rintro _ v805 ⟨xr807, rfl, r807, e806⟩
          refine ret_intro ?_
          have hw28 : Ext w v805 := hw27.trans e806
          obtain rfl := r807
          exact pi_done rfl e806 rfl
        · -- 16
          intro v808 e809
          have hw27 : Ext w v808 := hw26.trans e809
          refine deps_cons rfl rfl fun x810 y811 h812 e813 f814 => ?_
          obtain rfl := h812
          refine deps_cons rfl rfl fun x815 y816 h817 e818 f819 => ?_
          obtain rfl := h817
          refine deps_nil ?_
          refine wl_cmp rfl rfl rfl false (cmp3_ge5 (flo_abs p153 h0)) (by decide) ?_
          exact pi_done rfl (Ext.refl _) rfl
        · -- 17
          intro v820 e821
          have hw27 : Ext w v820 := hw26.trans e821
          refine deps_cons rfl rfl fun x822 y823 h824 e825 f826 => ?_
          obtain rfl := h824
          refine deps_cons rfl rfl fun x827 y828 h829 e830 f831 => ?_
          obtain rfl := h829
          refine deps_nil ?_
          refine wl_pure rfl rfl (v := .bool false) (by decide) (by kernel_rfl) ?_
          exact pi_done rfl (Ext.refl _) rfl
        · -- 18
          intro v832 e833
          have hw27 : Ext w v832 := hw26.trans e833
          refine deps_cons rfl rfl fun x834 y835 h836 e837 f838 => ?_
          obtain rfl := h836
          refine deps_nil ?_
          refine wl_move rfl rfl (by decide) ?_
          exact pi_done rfl (Ext.refl _) rfl
        · -- 19
          intro v839 e840
          have hw27 : Ext w v839 := hw26.trans e840
          refine deps_cons rfl rfl fun x841 y842 h843 e844 f845 => ?_
          obtain rfl := h843
          refine deps_nil ?_
          refine wl_load rfl rfl (load_agg aggInt ((((((((hb178.ext (e184.trans (e191.trans e197))).updN u204 (by omega)).updN u209 (by omega)).ext (e213.trans e219)).updN u226 (by omega)).ext (e229.trans (e232.trans e237))).updN u244 (by omega)).ext (e520.trans e840)) [.bool s158, .slice A158 n158 c158] rfl (Nat.le_of_ble_eq_true rfl) rfl) (by decide) ?_
          exact pi_done rfl (Ext.refl _) rfl
        · -- 20
          intro v846 e847
          have hw27 : Ext w v846 := hw26.trans e847
          refine deps_cons rfl rfl fun x848 y849 h850 e851 f852 => ?_
          obtain rfl := h850
          refine deps_cons rfl rfl fun x853 y854 h855 e856 f857 => ?_
          obtain rfl := h855
          refine deps_nil ?_
          refine wl_call rfl rfl (vs := [.agg #[.bool s158, .slice A158 n158 c158]]) (by kernel_rfl) (by decide) (g_zint_Sign (((((((((((z158.ext (e161.trans e167)).updT hb172 u174).updT hb177 u179).ext (e184.trans (e191.trans e197))).updT hb202 u204).updT hb207 u209).ext (e213.trans e219)).updT hb224 u226).ext (e229.trans (e232.trans e237))).updT hb242 u244).ext (e520.trans e847)).zi (z158.le (Nat.le_trans L155 (by decide)))) ?_
          rintro _ v858 ⟨xr860, rfl, r860, e859⟩
          refine ret_intro ?_
          have hw28 : Ext w v858 := hw27.trans e859
          obtain rfl := r860
          exact pi_done rfl e859 rfl
        · -- 21
          intro v861 e862
          have hw27 : Ext w v861 := hw26.trans e862
          refine deps_cons rfl rfl fun x863 y864 h865 e866 f867 => ?_
          obtain rfl := h865
          refine deps_nil ?_
          refine wl_load rfl rfl (load_agg aggInt ((((((((((((((hb9.ext (e13.trans (e121.trans (e128.trans e134)))).updN u141 (by omega)).updN u146 (by omega)).ext (e149.trans (e161.trans e167))).updN u174 (by omega)).updN u179 (by omega)).ext (e184.trans (e191.trans e197))).updN u204 (by omega)).updN u209 (by omega)).ext (e213.trans e219)).updN u226 (by omega)).ext (e229.trans (e232.trans e237))).updN u244 (by omega)).ext (e520.trans e862)) [.bool sb, .slice Ab nb cb] rfl (Nat.le_of_ble_eq_true rfl) rfl) (by decide) ?_
          exact pi_done rfl (Ext.refl _) rfl
        · -- 22
          intro v868 e869
          have hw27 : Ext w v868 := hw26.trans e869
          refine deps_cons rfl rfl fun x870 y871 h872 e873 f874 => ?_
          obtain rfl := h872
          refine deps_cons rfl rfl fun x875 y876 h877 e878 f879 => ?_
          obtain rfl := h877
          refine deps_nil ?_
          refine wl_call rfl rfl (vs := [.agg #[.bool sb, .slice Ab nb cb]]) (by kernel_rfl) (by decide) (g_zint_Sign (hy.ext hw27) (Nat.le_trans lb (by decide))) ?_
          rintro _ v880 ⟨xr882, rfl, r882, e881⟩
          refine ret_intro ?_
          have hw28 : Ext w v880 := hw27.trans e881
          obtain rfl := r882
          exact pi_done rfl e881 rfl
        · -- 23
          intro v883 e884
          have hw27 : Ext w v883 := hw26.trans e884
          refine deps_cons rfl rfl fun x885 y886 h887 e888 f889 => ?_
          obtain rfl := h887
          refine deps_cons rfl rfl fun x890 y891 h892 e893 f894 => ?_
          obtain rfl := h892
          refine deps_cons rfl rfl fun x895 y896 h897 e898 f899 => ?_
          obtain rfl := h897
          refine deps_nil ?_
          refine wl_ar rfl rfl rfl (scmp r152 0 * scmp y 0) (ar_i64m rfl (by have := scmp_mul_bd r152 0 y 0; omega) (by have := scmp_mul_bd r152 0 y 0; omega)) (by decide) ?_
          exact pi_done rfl (Ext.refl _) rfl
        · -- 24
          intro v900 e901
          have hw27 : Ext w v900 := hw26.trans e901
          refine deps_cons rfl rfl fun x902 y903 h904 e905 f906 => ?_
          obtain rfl := h904
          refine deps_cons rfl rfl fun x907 y908 h909 e910 f911 => ?_
          obtain rfl := h909
          refine deps_nil ?_
          refine wl_cmp rfl rfl rfl false (lt_f (flo_sgn p153 h0)) (by decide) ?_
          exact pi_done rfl (Ext.refl _) rfl
        · -- 25
          intro v912 e913
          have hw27 : Ext w v912 := hw26.trans e913
          refine deps_cons rfl rfl fun x914 y915 h916 e917 f918 => ?_
          obtain rfl := h916
          refine deps_cons rfl rfl fun x919 y920 h921 e922 f923 => ?_
          obtain rfl := h921
          refine deps_nil ?_
          refine wl_pure rfl rfl (v := .bool false) (by decide) (by kernel_rfl) ?_
          exact pi_done rfl (Ext.refl _) rfl
        · -- 26
          intro v924 e925
          have hw27 : Ext w v924 := hw26.trans e925
          refine deps_cons rfl rfl fun x926 y927 h928 e929 f930 => ?_
          obtain rfl := h928
          refine deps_nil ?_
          refine wl_move rfl rfl (by decide) ?_
          exact pi_done rfl (Ext.refl _) rfl
        · -- 27
          intro v931 e932
          have hw27 : Ext w v931 := hw26.trans e932
          refine deps_cons rfl rfl fun x933 y934 h935 e936 f937 => ?_
          obtain rfl := h935
          refine deps_nil ?_
          refine wl_load rfl rfl (load_agg aggInt (((((hb208.ext (e213.trans e219)).updN u226 (by omega)).ext (e229.trans (e232.trans e237))).updN u244 (by omega)).ext (e520.trans e932)) [.bool s188, .slice A188 n188 c188] rfl (Nat.le_of_ble_eq_true rfl) rfl) (by decide) ?_
          exact pi_done rfl (Ext.refl _) rfl
        · -- 28
          intro v938 e939
          have hw27 : Ext w v938 := hw26.trans e939
          refine deps_cons rfl rfl fun x940 y941 h942 e943 f944 => ?_
          obtain rfl := h942
          refine deps_nil ?_
          refine wl_load rfl rfl (load_agg aggInt ((((((((((((((hb9.ext (e13.trans (e121.trans (e128.trans e134)))).updN u141 (by omega)).updN u146 (by omega)).ext (e149.trans (e161.trans e167))).updN u174 (by omega)).updN u179 (by omega)).ext (e184.trans (e191.trans e197))).updN u204 (by omega)).updN u209 (by omega)).ext (e213.trans e219)).updN u226 (by omega)).ext (e229.trans (e232.trans e237))).updN u244 (by omega)).ext (e520.trans e939)) [.bool sb, .slice Ab nb cb] rfl (Nat.le_of_ble_eq_true rfl) rfl) (by decide) ?_
          exact pi_done rfl (Ext.refl _) rfl
        · -- 29
          intro v945 e946
          have hw27 : Ext w v945 := hw26.trans e946
          refine deps_cons rfl rfl fun x947 y948 h949 e950 f951 => ?_
          obtain rfl := h949
          refine deps_cons rfl rfl fun x952 y953 h954 e955 f956 => ?_
          obtain rfl := h954
          refine deps_cons rfl rfl fun x957 y958 h959 e960 f961 => ?_
          obtain rfl := h959
          refine deps_nil ?_
          refine wl_call rfl rfl (vs := [.agg #[.bool s188, .slice A188 n188 c188], .agg #[.bool sb, .slice Ab nb cb]]) (by kernel_rfl) (by decide) (g_law5_within ((((((((z188.ext (e191.trans e197)).updT hb202 u204).updT hb207 u209).ext (e213.trans e219)).updT hb224 u226).ext (e229.trans (e232.trans e237))).updT hb242 u244).ext (e520.trans e946)).zi (z188.le (Nat.le_trans L182 (by decide))) (hy.ext hw27) (Nat.le_trans lb (by decide)) (emod_inD h0).1 (emod_inD h0).2) ?_
          rintro _ v962 ⟨xr964, rfl, r964, e963⟩
          refine ret_intro ?_
          have hw28 : Ext w v962 := hw27.trans e963
          obtain rfl := r964
          exact pi_done rfl e963 rfl
        · -- 30
          intro v965 e966
          have hw27 : Ext w v965 := hw26.trans e966
          refine deps_cons rfl rfl fun x967 y968 h969 e970 f971 => ?_
          obtain rfl := h969
          refine deps_cons rfl rfl fun x972 y973 h974 e975 f976 => ?_
          obtain rfl := h974
          refine deps_nil ?_
          refine wl_pure rfl rfl (v := .bool false) (by decide) (by kernel_rfl) ?_
          exact pi_done rfl (Ext.refl _) rfl
        · -- 31
          intro v977 e978
          have hw27 : Ext w v977 := hw26.trans e978
          refine deps_cons rfl rfl fun x979 y980 h981 e982 f983 => ?_
          obtain rfl := h981
          refine deps_cons rfl rfl fun x984 y985 h986 e987 f988 => ?_
          obtain rfl := h986
          refine deps_nil ?_
          refine wl_pure rfl rfl (v := .bool false) (by decide) (by kernel_rfl) ?_
          exact pi_done rfl (Ext.refl _) rfl
        · -- all
          intro v989 e990
          have hw27 : Ext w v989 := hw26.trans e990
          refine deps_cons rfl rfl fun x991 y992 h993 e994 f995 => ?_
          obtain rfl := h993
          refine deps_cons rfl rfl fun x996 y997 h998 e999 f1000 => ?_
          obtain rfl := h998
          refine deps_cons rfl rfl fun x1001 y1002 h1003 e1004 f1005 => ?_
          obtain rfl := h1003
          refine deps_cons rfl rfl fun x1006 y1007 h1008 e1009 f1010 => ?_
          obtain rfl := h1008
          refine deps_cons rfl rfl fun x1011 y1012 h1013 e1014 f1015 => ?_
          obtain rfl := h1013
          refine deps_cons rfl rfl fun x1016 y1017 h1018 e1019 f1020 => ?_
          obtain rfl := h1018
          refine deps_cons rfl rfl fun x1021 y1022 h1023 e1024 f1025 => ?_
          obtain rfl := h1023
          refine deps_cons rfl rfl fun x1026 y1027 h1028 e1029 f1030 => ?_
          obtain rfl := h1028
          refine deps_cons rfl rfl fun x1031 y1032 h1033 e1034 f1035 => ?_
          obtain rfl := h1033
          refine deps_cons rfl rfl fun x1036 y1037 h1038 e1039 f1040 => ?_
          obtain rfl := h1038
          refine deps_cons rfl rfl fun x1041 y1042 h1043 e1044 f1045 => ?_
          obtain rfl := h1043
          refine deps_cons rfl rfl fun x1046 y1047 h1048 e1049 f1050 => ?_
          obtain rfl := h1048
          refine deps_cons rfl rfl fun x1051 y1052 h1053 e1054 f1055 => ?_
          obtain rfl := h1053
          refine deps_cons rfl rfl fun x1056 y1057 h1058 e1059 f1060 => ?_
          obtain rfl := h1058
          refine deps_cons rfl rfl fun x1061 y1062 h1063 e1064 f1065 => ?_
          obtain rfl := h1063
          refine deps_cons rfl rfl fun x1066 y1067 h1068 e1069 f1070 => ?_
          obtain rfl := h1068
          refine deps_cons rfl rfl fun x1071 y1072 h1073 e1074 f1075 => ?_
          obtain rfl := h1073
          refine deps_cons rfl rfl fun x1076 y1077 h1078 e1079 f1080 => ?_
          obtain rfl := h1078
          refine deps_cons rfl rfl fun x1081 y1082 h1083 e1084 f1085 => ?_
          obtain rfl := h1083
          refine deps_cons rfl rfl fun x1086 y1087 h1088 e1089 f1090 => ?_
          obtain rfl := h1088
          refine deps_cons rfl rfl fun x1091 y1092 h1093 e1094 f1095 => ?_
          obtain rfl := h1093
          refine deps_cons rfl rfl fun x1096 y1097 h1098 e1099 f1100 => ?_
          obtain rfl := h1098
          refine deps_cons rfl rfl fun x1101 y1102 h1103 e1104 f1105 => ?_
          obtain rfl := h1103
          refine deps_cons rfl rfl fun x1106 y1107 h1108 e1109 f1110 => ?_
          obtain rfl := h1108
          refine deps_cons rfl rfl fun x1111 y1112 h1113 e1114 f1115 => ?_
          obtain rfl := h1113
          refine deps_cons rfl rfl fun x1116 y1117 h1118 e1119 f1120 => ?_
          obtain rfl := h1118
          refine deps_cons rfl rfl fun x1121 y1122 h1123 e1124 f1125 => ?_
          obtain rfl := h1123
          refine deps_cons rfl rfl fun x1126 y1127 h1128 e1129 f1130 => ?_
          obtain rfl := h1128
          refine deps_cons rfl rfl fun x1131 y1132 h1133 e1134 f1135 => ?_
          obtain rfl := h1133
          refine deps_cons rfl rfl fun x1136 y1137 h1138 e1139 f1140 => ?_
          obtain rfl := h1138
          refine deps_cons rfl rfl fun x1141 y1142 h1143 e1144 f1145 => ?_
          obtain rfl := h1143
          refine deps_cons rfl rfl fun x1146 y1147 h1148 e1149 f1150 => ?_
          obtain rfl := h1148
          refine deps_nil ?_
          refine wl_nil ?_
          refine eo_np ?_
          refine eo_then ?_
          refine cw_false rfl ?_
          refine cw_skip ?_
          refine eo_then ?_
          refine cw_seq ?_
          refine cw_seq ?_
          refine cw_region ?_
          refine wl_load rfl rfl (load_agg aggInt (((((((((((hb145.ext (e149.trans (e161.trans e167))).updN u174 (by omega)).updN u179 (by omega)).ext (e184.trans (e191.trans e197))).updN u204 (by omega)).updN u209 (by omega)).ext (e213.trans e219)).updN u226 (by omega)).ext (e229.trans (e232.trans e237))).updN u244 (by omega)).ext (e520.trans e990)) [.bool s125, .slice A125 n125 c125] rfl (Nat.le_of_ble_eq_true rfl) rfl) (by decide) ?_
          refine wl_call rfl rfl (vs := [.agg #[.bool s125, .slice A125 n125 c125]]) (by kernel_rfl) (by decide) (g_zint_Sign ((((((((((((((z125.ext (e128.trans e134)).updT hb139 u141).updT hb144 u146).ext (e149.trans (e161.trans e167))).updT hb172 u174).updT hb177 u179).ext (e184.trans (e191.trans e197))).updT hb202 u204).updT hb207 u209).ext (e213.trans e219)).updT hb224 u226).ext (e229.trans (e232.trans e237))).updT hb242 u244).ext (e520.trans e990)).zi (z125.le (Nat.le_trans L119 (by decide)))) ?_
          rintro _ v1151 ⟨xr1153, rfl, r1153, e1152⟩
          refine ret_intro ?_
          have hw28 : Ext w v1151 := hw27.trans e1152
          obtain rfl := r1153
          refine wl_cmp rfl rfl rfl false (scmp_ne_f ht) (by decide) ?_
          refine wl_nil ?_
          refine eo_then ?_
          refine cw_false rfl ?_
          refine cw_skip ?_
          refine eo_then ?_
          refine cw_seq ?_
          refine cw_region ?_
          refine wl_move rfl rfl (by decide) ?_
          refine wl_cmp rfl rfl rfl true (by decide) (by decide) ?_
          refine wl_move rfl rfl (by decide) ?_
          refine wl_load rfl rfl (load_agg aggInt (((hb225.ext (e229.trans (e232.trans e237))).updN u244 (by omega)).ext (e520.trans (e990.trans e1152))) [.bool s216, .slice A216 n216 c216] rfl (Nat.le_of_ble_eq_true rfl) rfl) (by decide) ?_
          refine wl_load rfl rfl (load_agg aggInt ((((((((((((hb140.updN u146 (by omega)).ext (e149.trans (e161.trans e167))).updN u174 (by omega)).updN u179 (by omega)).ext (e184.trans (e191.trans e197))).updN u204 (by omega)).updN u209 (by omega)).ext (e213.trans e219)).updN u226 (by omega)).ext (e229.trans (e232.trans e237))).updN u244 (by omega)).ext (e520.trans (e990.trans e1152))) [.bool s124, .slice A124 n124 c124] rfl (Nat.le_of_ble_eq_true rfl) rfl) (by decide) ?_
          refine wl_call rfl rfl (vs := [.agg #[.bool s216, .slice A216 n216 c216], .agg #[.bool s124, .slice A124 n124 c124]]) (by kernel_rfl) (by decide) (g_law5_alike (((((z216.ext e219).updT hb224 u226).ext (e229.trans (e232.trans e237))).updT hb242 u244).ext (e520.trans (e990.trans e1152))) (z216.le (Nat.le_trans L211 (by decide))) ((((((((((((((z124.ext (e128.trans e134)).updT hb139 u141).updT hb144 u146).ext (e149.trans (e161.trans e167))).updT hb172 u174).updT hb177 u179).ext (e184.trans (e191.trans e197))).updT hb202 u204).updT hb207 u209).ext (e213.trans e219)).updT hb224 u226).ext (e229.trans (e232.trans e237))).updT hb242 u244).ext (e520.trans (e990.trans e1152))) (z124.le (Nat.le_trans L118 (by decide)))) ?_
          rintro _ v1154 ⟨xr1156, rfl, r1156, e1155⟩
          refine ret_intro ?_
          have hw29 : Ext w v1154 := hw28.trans e1155
          obtain rfl := r1156
          refine wl_pure rfl rfl (v := .bool true) (by decide) (by kernel_rfl) ?_
          refine wl_move rfl rfl (by decide) ?_
          refine wl_load rfl rfl (load_agg aggInt (((((((((hb173.updN u179 (by omega)).ext (e184.trans (e191.trans e197))).updN u204 (by omega)).updN u209 (by omega)).ext (e213.trans e219)).updN u226 (by omega)).ext (e229.trans (e232.trans e237))).updN u244 (by omega)).ext (e520.trans (e990.trans (e1152.trans e1155)))) [.bool s157, .slice A157 n157 c157] rfl (Nat.le_of_ble_eq_true rfl) rfl) (by decide) ?_
          refine wl_load rfl rfl (load_agg aggInt ((((((((((((hb140.updN u146 (by omega)).ext (e149.trans (e161.trans e167))).updN u174 (by omega)).updN u179 (by omega)).ext (e184.trans (e191.trans e197))).updN u204 (by omega)).updN u209 (by omega)).ext (e213.trans e219)).updN u226 (by omega)).ext (e229.trans (e232.trans e237))).updN u244 (by omega)).ext (e520.trans (e990.trans (e1152.trans e1155)))) [.bool s124, .slice A124 n124 c124] rfl (Nat.le_of_ble_eq_true rfl) rfl) (by decide) ?_
          refine wl_call rfl rfl (vs := [.agg #[.bool s157, .slice A157 n157 c157], .agg #[.bool s124, .slice A124 n124 c124]]) (by kernel_rfl) (by decide) (g_law5_alike (((((((((((z157.ext (e161.trans e167)).updT hb172 u174).updT hb177 u179).ext (e184.trans (e191.trans e197))).updT hb202 u204).updT hb207 u209).ext (e213.trans e219)).updT hb224 u226).ext (e229.trans (e232.trans e237))).updT hb242 u244).ext (e520.trans (e990.trans (e1152.trans e1155)))) (z157.le (Nat.le_trans L154 (by decide))) (((((((((((((((z124.ext (e128.trans e134)).updT hb139 u141).updT hb144 u146).ext (e149.trans (e161.trans e167))).updT hb172 u174).updT hb177 u179).ext (e184.trans (e191.trans e197))).updT hb202 u204).updT hb207 u209).ext (e213.trans e219)).updT hb224 u226).ext (e229.trans (e232.trans e237))).updT hb242 u244).ext (e520.trans (e990.trans (e1152.trans e1155)))).cast (by first | rfl | exact (Int.tdiv_mul_add_tmod x y).symm | exact p153.eq.symm | exact (ediv_eq5 x y).symm | exact (flo_same5 p153 h0 ht).2.symm | exact (ediv_same5 h0 ht).symm)) (z124.le (Nat.le_trans L118 (by decide)))) ?_
          rintro _ v1157 ⟨xr1159, rfl, r1159, e1158⟩
          refine ret_intro ?_
          have hw30 : Ext w v1157 := hw29.trans e1158
          obtain rfl := r1159
          refine wl_pure rfl rfl (v := .bool true) (by decide) (by kernel_rfl) ?_
          refine wl_move rfl rfl (by decide) ?_
          refine wl_load rfl rfl (load_agg aggInt ((((((hb203.updN u209 (by omega)).ext (e213.trans e219)).updN u226 (by omega)).ext (e229.trans (e232.trans e237))).updN u244 (by omega)).ext (e520.trans (e990.trans (e1152.trans (e1155.trans e1158))))) [.bool s187, .slice A187 n187 c187] rfl (Nat.le_of_ble_eq_true rfl) rfl) (by decide) ?_
          refine wl_load rfl rfl (load_agg aggInt ((((((((((((hb140.updN u146 (by omega)).ext (e149.trans (e161.trans e167))).updN u174 (by omega)).updN u179 (by omega)).ext (e184.trans (e191.trans e197))).updN u204 (by omega)).updN u209 (by omega)).ext (e213.trans e219)).updN u226 (by omega)).ext (e229.trans (e232.trans e237))).updN u244 (by omega)).ext (e520.trans (e990.trans (e1152.trans (e1155.trans e1158))))) [.bool s124, .slice A124 n124 c124] rfl (Nat.le_of_ble_eq_true rfl) rfl) (by decide) ?_
          refine wl_call rfl rfl (vs := [.agg #[.bool s187, .slice A187 n187 c187], .agg #[.bool s124, .slice A124 n124 c124]]) (by kernel_rfl) (by decide) (g_law5_alike ((((((((z187.ext (e191.trans e197)).updT hb202 u204).updT hb207 u209).ext (e213.trans e219)).updT hb224 u226).ext (e229.trans (e232.trans e237))).updT hb242 u244).ext (e520.trans (e990.trans (e1152.trans (e1155.trans e1158))))) (z187.le (Nat.le_trans L181 (by decide))) (((((((((((((((z124.ext (e128.trans e134)).updT hb139 u141).updT hb144 u146).ext (e149.trans (e161.trans e167))).updT hb172 u174).updT hb177 u179).ext (e184.trans (e191.trans e197))).updT hb202 u204).updT hb207 u209).ext (e213.trans e219)).updT hb224 u226).ext (e229.trans (e232.trans e237))).updT hb242 u244).ext (e520.trans (e990.trans (e1152.trans (e1155.trans e1158))))).cast (by first | rfl | exact (Int.tdiv_mul_add_tmod x y).symm | exact p153.eq.symm | exact (ediv_eq5 x y).symm | exact (flo_same5 p153 h0 ht).2.symm | exact (ediv_same5 h0 ht).symm)) (z124.le (Nat.le_trans L118 (by decide)))) ?_
          rintro _ v1160 ⟨xr1162, rfl, r1162, e1161⟩
          refine ret_intro ?_
          have hw31 : Ext w v1160 := hw30.trans e1161
          obtain rfl := r1162
          refine wl_pure rfl rfl (v := .bool true) (by decide) (by kernel_rfl) ?_
          refine wl_assign rfl rfl (by decide) ?_
          refine wl_nil ?_
          refine eo_then ?_
          refine cw_ret ?_
          refine eo_ret [.bool true] rfl ⟨rfl, trivial⟩ ?_
          exact bool_of _ _ ⟨_, rfl, rfl, hw31⟩
    ·
      have htn : x.natAbs % y.natAbs ≠ 0 := by rw [← Int.natAbs_tmod]; omega
      refine cw_region ?_
      refine wl_load rfl rfl (load_agg aggInt (hb4.ext (e8.trans e13)) [.bool sa, .slice Aa na ca] rfl (Nat.le_of_ble_eq_true rfl) rfl) (by decide) ?_
      refine wl_load rfl rfl (load_agg aggInt (hb9.ext e13) [.bool sb, .slice Ab nb cb] rfl (Nat.le_of_ble_eq_true rfl) rfl) (by decide) ?_
      have L1163 : ln ((x).tdiv y) ≤ 1048576 := Nat.le_trans (ln_tdiv _ _) Lx
      have L1164 : ln ((x).tmod y) ≤ 1048576 := Nat.le_trans (ln_tmod _ _) Lx
      refine wl_call rfl rfl (vs := [.agg #[.bool sa, .slice Aa na ca], .agg #[.bool sb, .slice Ab nb cb]]) (by kernel_rfl) (by decide) (g_zint_Trunc hw3.size (hx.ext hw3) (Nat.le_trans la (by decide)) (hy.ext hw3) (Nat.le_trans lb (by decide)) h0) ?_
      rintro _ v1165 ⟨xr1167, rfl, r1167, e1166⟩
      refine ret_intro ?_
      have hw4 : Ext w v1165 := hw3.trans e1166
      obtain ⟨a1168_0, a1168_1, a1168_2, rfl, r1168_0, r1168_1, r1168_2⟩ := r1167
      obtain ⟨s1169, A1169, n1169, c1169, rfl, z1169⟩ := r1168_0
      obtain ⟨s1170, A1170, n1170, c1170, rfl, z1170⟩ := r1168_1
      obtain rfl := r1168_2
      refine wl_move rfl rfl (by decide) ?_
      refine wl_pure rfl rfl (v := .agg #[.bool s1169, .slice A1169 n1169 c1169]) (by decide) (by kernel_rfl) ?_
      refine wl_pure rfl rfl (v := .agg #[.bool s1170, .slice A1170 n1170 c1170]) (by decide) (by kernel_rfl) ?_
      refine wl_pure rfl rfl (v := .int .i64 0) (by decide) (by kernel_rfl) ?_
      refine wl_alloc rfl (z := .agg #[.bool false, .slice none 0 0]) (vs := [.bool false, .slice none 0 0]) (fun _ => by kernel_rfl) rfl (by decide) fun g1171 v1172 nb => ?_
      have hb1174 := nb.bk
      have ge1175 : w.heap.size ≤ g1171 := by rw [← nb.at_]; exact hw4.size
      have q1176 : g6 < g1171 := by rw [← nb.at_]; exact (hb9.ext (e13.trans e1166)).lt
      have e1173 := nb.ext
      clear nb
      have hw5 : Ext w v1172 := hw4.trans e1173
      refine wl_alloc rfl (z := .agg #[.bool false, .slice none 0 0]) (vs := [.bool false, .slice none 0 0]) (fun _ => by kernel_rfl) rfl (by decide) fun g1177 v1178 nb => ?_
      have hb1180 := nb.bk
      have ge1181 : w.heap.size ≤ g1177 := by rw [← nb.at_]; exact hw5.size
      have q1182 : g1171 < g1177 := by rw [← nb.at_]; exact hb1174.lt
      have e1179 := nb.ext
      clear nb
      have hw6 : Ext w v1178 := hw5.trans e1179
      have hb1184 := (hb1174.ext e1179)
      refine wl_stored rfl rfl rfl aggInt rfl hb1184 (Nat.le_of_ble_eq_true rfl) rfl [.bool s1169, .slice A1169 n1169 c1169] rfl fun v1183 hb1185 u1186 hs1187 => ?_
      have hw7 : Ext w v1183 := u1186.ext hw6 ge1175
      have hb1189 := (hb1180.updN u1186 (by omega))
      refine wl_stored rfl rfl rfl aggInt rfl hb1189 (Nat.le_of_ble_eq_true rfl) rfl [.bool s1170, .slice A1170 n1170 c1170] rfl fun v1188 hb1190 u1191 hs1192 => ?_
      have hw8 : Ext w v1188 := u1191.ext hw7 ge1181
      refine wl_assign rfl rfl (by decide) ?_
      refine wl_nil ?_
      refine eo_then ?_
      refine cw_seq ?_
      refine cw_region ?_
      refine wl_load rfl rfl (load_agg aggInt (((hb4.ext (e8.trans (e13.trans (e1166.trans (e1173.trans e1179))))).updN u1186 (by omega)).updN u1191 (by omega)) [.bool sa, .slice Aa na ca] rfl (Nat.le_of_ble_eq_true rfl) rfl) (by decide) ?_
      refine wl_load rfl rfl (load_agg aggInt (((hb9.ext (e13.trans (e1166.trans (e1173.trans e1179)))).updN u1186 (by omega)).updN u1191 (by omega)) [.bool sb, .slice Ab nb cb] rfl (Nat.le_of_ble_eq_true rfl) rfl) (by decide) ?_
      refine wl_call rfl rfl (vs := [.agg #[.bool sa, .slice Aa na ca], .agg #[.bool sb, .slice Ab nb cb]]) (by kernel_rfl) (by decide) (g_zint_FloorD hw8.size (hx.ext hw8) (Nat.le_trans la (by decide)) (hy.ext hw8) (Nat.le_trans lb (by decide)) h0) ?_
      rintro _ v1193 ⟨q1196, r1197, p1198, xr1195, rfl, r1195, e1194⟩
      have L1199 : ln (q1196) ≤ 1048577 := (ln_floq p1198 h0 Lx (by decide))
      have L1200 : ln (r1197) ≤ 1048576 := (ln_flor p1198 h0 Ly)
      refine ret_intro ?_
      have hw9 : Ext w v1193 := hw8.trans e1194
      obtain ⟨a1201_0, a1201_1, a1201_2, rfl, r1201_0, r1201_1, r1201_2⟩ := r1195
      obtain ⟨s1202, A1202, n1202, c1202, rfl, z1202⟩ := r1201_0
      obtain ⟨s1203, A1203, n1203, c1203, rfl, z1203⟩ := r1201_1
      obtain rfl := r1201_2
      refine wl_move rfl rfl (by decide) ?_
      refine wl_pure rfl rfl (v := .agg #[.bool s1202, .slice A1202 n1202 c1202]) (by decide) (by kernel_rfl) ?_
      refine wl_pure rfl rfl (v := .agg #[.bool s1203, .slice A1203 n1203 c1203]) (by decide) (by kernel_rfl) ?_
      refine wl_pure rfl rfl (v := .int .i64 0) (by decide) (by kernel_rfl) ?_
      refine wl_alloc rfl (z := .agg #[.bool false, .slice none 0 0]) (vs := [.bool false, .slice none 0 0]) (fun _ => by kernel_rfl) rfl (by decide) fun g1204 v1205 nb => ?_
      have hb1207 := nb.bk
      have ge1208 : w.heap.size ≤ g1204 := by rw [← nb.at_]; exact hw9.size
      have q1209 : g1177 < g1204 := by rw [← nb.at_]; exact (hb1190.ext e1194).lt
      have e1206 := nb.ext
      clear nb
      have hw10 : Ext w v1205 := hw9.trans e1206
      refine wl_alloc rfl (z := .agg #[.bool false, .slice none 0 0]) (vs := [.bool false, .slice none 0 0]) (fun _ => by kernel_rfl) rfl (by decide) fun g1210 v1211 nb => ?_
      have hb1213 := nb.bk
      have ge1214 : w.heap.size ≤ g1210 := by rw [← nb.at_]; exact hw10.size
      have q1215 : g1204 < g1210 := by rw [← nb.at_]; exact hb1207.lt
      have e1212 := nb.ext
      clear nb
      have hw11 : Ext w v1211 := hw10.trans e1212
      have hb1217 := (hb1207.ext e1212)
      refine wl_stored rfl rfl rfl aggInt rfl hb1217 (Nat.le_of_ble_eq_true rfl) rfl [.bool s1202, .slice A1202 n1202 c1202] rfl fun v1216 hb1218 u1219 hs1220 => ?_
      have hw12 : Ext w v1216 := u1219.ext hw11 ge1208
      have hb1222 := (hb1213.updN u1219 (by omega))
      refine wl_stored rfl rfl rfl aggInt rfl hb1222 (Nat.le_of_ble_eq_true rfl) rfl [.bool s1203, .slice A1203 n1203 c1203] rfl fun v1221 hb1223 u1224 hs1225 => ?_
      have hw13 : Ext w v1221 := u1224.ext hw12 ge1214
      refine wl_assign rfl rfl (by decide) ?_
      refine wl_nil ?_
      refine eo_then ?_
      refine cw_seq ?_
      refine cw_region ?_
      refine wl_load rfl rfl (load_agg aggInt ((((((hb4.ext (e8.trans (e13.trans (e1166.trans (e1173.trans e1179))))).updN u1186 (by omega)).updN u1191 (by omega)).ext (e1194.trans (e1206.trans e1212))).updN u1219 (by omega)).updN u1224 (by omega)) [.bool sa, .slice Aa na ca] rfl (Nat.le_of_ble_eq_true rfl) rfl) (by decide) ?_
      refine wl_load rfl rfl (load_agg aggInt ((((((hb9.ext (e13.trans (e1166.trans (e1173.trans e1179)))).updN u1186 (by omega)).updN u1191 (by omega)).ext (e1194.trans (e1206.trans e1212))).updN u1219 (by omega)).updN u1224 (by omega)) [.bool sb, .slice Ab nb cb] rfl (Nat.le_of_ble_eq_true rfl) rfl) (by decide) ?_
      have L1226 : ln (x / y) ≤ 1048577 := Nat.le_trans (ln_ediv _ _) (Nat.succ_le_succ Lx)
      have L1227 : ln (x % y) ≤ 1048576 := Nat.le_trans (ln_emod h0) Ly
      refine wl_call rfl rfl (vs := [.agg #[.bool sa, .slice Aa na ca], .agg #[.bool sb, .slice Ab nb cb]]) (by kernel_rfl) (by decide) (g_zint_Euclid hw13.size (hx.ext hw13) (Nat.le_trans la (by decide)) (hy.ext hw13) (Nat.le_trans lb (by decide)) h0) ?_
      rintro _ v1228 ⟨xr1230, rfl, r1230, e1229⟩
      refine ret_intro ?_
      have hw14 : Ext w v1228 := hw13.trans e1229
      obtain ⟨a1231_0, a1231_1, a1231_2, rfl, r1231_0, r1231_1, r1231_2⟩ := r1230
      obtain ⟨s1232, A1232, n1232, c1232, rfl, z1232⟩ := r1231_0
      obtain ⟨s1233, A1233, n1233, c1233, rfl, z1233⟩ := r1231_1
      obtain rfl := r1231_2
      refine wl_move rfl rfl (by decide) ?_
      refine wl_pure rfl rfl (v := .agg #[.bool s1232, .slice A1232 n1232 c1232]) (by decide) (by kernel_rfl) ?_
      refine wl_pure rfl rfl (v := .agg #[.bool s1233, .slice A1233 n1233 c1233]) (by decide) (by kernel_rfl) ?_
      refine wl_pure rfl rfl (v := .int .i64 0) (by decide) (by kernel_rfl) ?_
      refine wl_alloc rfl (z := .agg #[.bool false, .slice none 0 0]) (vs := [.bool false, .slice none 0 0]) (fun _ => by kernel_rfl) rfl (by decide) fun g1234 v1235 nb => ?_
      have hb1237 := nb.bk
      have ge1238 : w.heap.size ≤ g1234 := by rw [← nb.at_]; exact hw14.size
      have q1239 : g1210 < g1234 := by rw [← nb.at_]; exact (hb1223.ext e1229).lt
      have e1236 := nb.ext
      clear nb
      have hw15 : Ext w v1235 := hw14.trans e1236
      refine wl_alloc rfl (z := .agg #[.bool false, .slice none 0 0]) (vs := [.bool false, .slice none 0 0]) (fun _ => by kernel_rfl) rfl (by decide) fun g1240 v1241 nb => ?_
      have hb1243 := nb.bk
      have ge1244 : w.heap.size ≤ g1240 := by rw [← nb.at_]; exact hw15.size
      have q1245 : g1234 < g1240 := by rw [← nb.at_]; exact hb1237.lt
      have e1242 := nb.ext
      clear nb
      have hw16 : Ext w v1241 := hw15.trans e1242
      have hb1247 := (hb1237.ext e1242)
      refine wl_stored rfl rfl rfl aggInt rfl hb1247 (Nat.le_of_ble_eq_true rfl) rfl [.bool s1232, .slice A1232 n1232 c1232] rfl fun v1246 hb1248 u1249 hs1250 => ?_
      have hw17 : Ext w v1246 := u1249.ext hw16 ge1238
      have hb1252 := (hb1243.updN u1249 (by omega))
      refine wl_stored rfl rfl rfl aggInt rfl hb1252 (Nat.le_of_ble_eq_true rfl) rfl [.bool s1233, .slice A1233 n1233 c1233] rfl fun v1251 hb1253 u1254 hs1255 => ?_
      have hw18 : Ext w v1251 := u1254.ext hw17 ge1244
      refine wl_assign rfl rfl (by decide) ?_
      refine wl_nil ?_
      refine eo_then ?_
      refine cw_seq ?_
      refine cw_region ?_
      refine wl_load rfl rfl (load_agg aggInt (((((((((hb4.ext (e8.trans (e13.trans (e1166.trans (e1173.trans e1179))))).updN u1186 (by omega)).updN u1191 (by omega)).ext (e1194.trans (e1206.trans e1212))).updN u1219 (by omega)).updN u1224 (by omega)).ext (e1229.trans (e1236.trans e1242))).updN u1249 (by omega)).updN u1254 (by omega)) [.bool sa, .slice Aa na ca] rfl (Nat.le_of_ble_eq_true rfl) rfl) (by decide) ?_
      refine wl_load rfl rfl (load_agg aggInt (((((((((hb9.ext (e13.trans (e1166.trans (e1173.trans e1179)))).updN u1186 (by omega)).updN u1191 (by omega)).ext (e1194.trans (e1206.trans e1212))).updN u1219 (by omega)).updN u1224 (by omega)).ext (e1229.trans (e1236.trans e1242))).updN u1249 (by omega)).updN u1254 (by omega)) [.bool sb, .slice Ab nb cb] rfl (Nat.le_of_ble_eq_true rfl) rfl) (by decide) ?_
      refine wl_call rfl rfl (vs := [.agg #[.bool sa, .slice Aa na ca], .agg #[.bool sb, .slice Ab nb cb]]) (by kernel_rfl) (by decide) (g_zint_Exact_not hw18.size (hx.ext hw18) (Nat.le_trans la (by decide)) (hy.ext hw18) (Nat.le_trans lb (by decide)) h0 htn) ?_
      rintro _ v1256 ⟨xr1258, rfl, r1258, e1257⟩
      refine ret_intro ?_
      have hw19 : Ext w v1256 := hw18.trans e1257
      obtain ⟨a1259_0, a1259_1, rfl, r1259_0, r1259_1⟩ := r1258
      obtain ⟨s1260, A1260, n1260, c1260, rfl, z1260⟩ := r1259_0
      obtain rfl := r1259_1
      refine wl_move rfl rfl (by decide) ?_
      refine wl_pure rfl rfl (v := .agg #[.bool s1260, .slice A1260 n1260 c1260]) (by decide) (by kernel_rfl) ?_
      refine wl_pure rfl rfl (v := .int .i64 8) (by decide) (by kernel_rfl) ?_
      refine wl_alloc rfl (z := .agg #[.bool false, .slice none 0 0]) (vs := [.bool false, .slice none 0 0]) (fun _ => by kernel_rfl) rfl (by decide) fun g1261 v1262 nb => ?_
      have hb1264 := nb.bk
      have ge1265 : w.heap.size ≤ g1261 := by rw [← nb.at_]; exact hw19.size
      have q1266 : g1240 < g1261 := by rw [← nb.at_]; exact (hb1253.ext e1257).lt
      have e1263 := nb.ext
      clear nb
      have hw20 : Ext w v1262 := hw19.trans e1263
      have hb1268 := hb1264
      refine wl_stored rfl rfl rfl aggInt rfl hb1268 (Nat.le_of_ble_eq_true rfl) rfl [.bool s1260, .slice A1260 n1260 c1260] rfl fun v1267 hb1269 u1270 hs1271 => ?_
      have hw21 : Ext w v1267 := u1270.ext hw20 ge1265
      refine wl_assign rfl rfl (by decide) ?_
      refine wl_nil ?_
      refine eo_then ?_
      refine cw_seq ?_
      refine cw_seq ?_
      refine cw_region ?_
      refine wl_load rfl rfl (load_agg aggInt (((((((((((hb9.ext (e13.trans (e1166.trans (e1173.trans e1179)))).updN u1186 (by omega)).updN u1191 (by omega)).ext (e1194.trans (e1206.trans e1212))).updN u1219 (by omega)).updN u1224 (by omega)).ext (e1229.trans (e1236.trans e1242))).updN u1249 (by omega)).updN u1254 (by omega)).ext (e1257.trans e1263)).updN u1270 (by omega)) [.bool sb, .slice Ab nb cb] rfl (Nat.le_of_ble_eq_true rfl) rfl) (by decide) ?_
      refine wl_call rfl rfl (vs := [.agg #[.bool sb, .slice Ab nb cb]]) (by kernel_rfl) (by decide) (g_zint_Sign (hy.ext hw21) (Nat.le_trans lb (by decide))) ?_
      rintro _ v1272 ⟨xr1274, rfl, r1274, e1273⟩
      refine ret_intro ?_
      have hw22 : Ext w v1272 := hw21.trans e1273
      obtain rfl := r1274
      refine wl_cmp rfl rfl rfl false (scmp_eq_f h0) (by decide) ?_
      refine wl_nil ?_
      refine eo_then ?_
      refine cw_false rfl ?_
      refine cw_skip ?_
      refine eo_then ?_
      refine cw_seq ?_
      refine cw_seq ?_
      refine cw_region ?_
      refine wl_move rfl rfl (by decide) ?_
      refine wl_cmp rfl rfl rfl false (by decide) (by decide) ?_
      refine wl_move rfl rfl (by decide) ?_
      refine wl_move rfl rfl (by decide) ?_
      refine wl_cmp rfl rfl rfl false (by decide) (by decide) ?_
      refine wl_pure rfl rfl (v := .bool false) (by decide) (by kernel_rfl) ?_
      refine wl_move rfl rfl (by decide) ?_
      refine wl_move rfl rfl (by decide) ?_
      refine wl_cmp rfl rfl rfl false (by decide) (by decide) ?_
      refine wl_pure rfl rfl (v := .bool false) (by decide) (by kernel_rfl) ?_
      refine wl_nil ?_
      refine eo_then ?_
      refine cw_false rfl ?_
      refine cw_skip ?_
      refine eo_then ?_
      refine cw_seq ?_
      refine cw_region ?_
      refine wl_load rfl rfl (load_agg aggInt ((((((((((((hb4.ext (e8.trans (e13.trans (e1166.trans (e1173.trans e1179))))).updN u1186 (by omega)).updN u1191 (by omega)).ext (e1194.trans (e1206.trans e1212))).updN u1219 (by omega)).updN u1224 (by omega)).ext (e1229.trans (e1236.trans e1242))).updN u1249 (by omega)).updN u1254 (by omega)).ext (e1257.trans e1263)).updN u1270 (by omega)).ext e1273) [.bool sa, .slice Aa na ca] rfl (Nat.le_of_ble_eq_true rfl) rfl) (by decide) ?_
      refine wl_call rfl rfl (vs := [.agg #[.bool sa, .slice Aa na ca]]) (by kernel_rfl) (by decide) (g_zint_Least hw22.size (hx.ext hw22) (Nat.le_trans la (by decide))) ?_
      rintro _ v1275 ⟨xr1277, rfl, r1277, e1276⟩
      refine ret_intro ?_
      have hw23 : Ext w v1275 := hw22.trans e1276
      obtain ⟨s1278, A1278, n1278, c1278, rfl, z1278⟩ := r1277
      refine wl_alloc rfl (z := .agg #[.bool false, .slice none 0 0]) (vs := [.bool false, .slice none 0 0]) (fun _ => by kernel_rfl) rfl (by decide) fun g1279 v1280 nb => ?_
      have hb1282 := nb.bk
      have ge1283 : w.heap.size ≤ g1279 := by rw [← nb.at_]; exact hw23.size
      have q1284 : g1261 < g1279 := by rw [← nb.at_]; exact (hb1269.ext (e1273.trans e1276)).lt
      have e1281 := nb.ext
      clear nb
      have hw24 : Ext w v1280 := hw23.trans e1281
      have hb1286 := hb1282
      refine wl_stored rfl rfl rfl aggInt rfl hb1286 (Nat.le_of_ble_eq_true rfl) rfl [.bool s1278, .slice A1278 n1278 c1278] rfl fun v1285 hb1287 u1288 hs1289 => ?_
      have hw25 : Ext w v1285 := u1288.ext hw24 ge1283
      refine wl_nil ?_
      refine eo_then ?_
      refine cw_seq ?_
      refine cw_seq ?_
      have L1290 : ln ((x.tdiv y) * y + (x.tmod y)) ≤ 2097153 := Nat.le_trans (ln_add (ln_mul L1163 Ly) L1164) (by decide)
      have L1292 : ln (q1196 * y + r1197) ≤ 2097154 := Nat.le_trans (ln_add (ln_mul L1199 Ly) L1200) (by decide)
      have L1294 : ln ((x / y) * y + (x % y)) ≤ 2097154 := Nat.le_trans (ln_add (ln_mul L1226 Ly) L1227) (by decide)
      refine cw_draw mix 25 [] [Is (.agg #[.bool s1169, .slice A1169 n1169 c1169]), Is (.agg #[.bool sb, .slice Ab nb cb]), Is (.agg #[.bool s1170, .slice A1170 n1170 c1170]), ZR w.heap.size ((x.tdiv y) * y + (x.tmod y)), Is (.agg #[.bool s1278, .slice A1278 n1278 c1278]), Is (.bool true), Is (.bool false), Is (.bool false), Is (.agg #[.bool s1202, .slice A1202 n1202 c1202]), Is (.agg #[.bool sb, .slice Ab nb cb]), Is (.agg #[.bool s1203, .slice A1203 n1203 c1203]), ZR w.heap.size (q1196 * y + r1197), Is (.agg #[.bool s1278, .slice A1278 n1278 c1278]), Is (.bool true), Is (.bool false), Is (.bool false), Is (.bool false), Is (.agg #[.bool s1232, .slice A1232 n1232 c1232]), Is (.agg #[.bool sb, .slice Ab nb cb]), Is (.agg #[.bool s1233, .slice A1233 n1233 c1233]), ZR w.heap.size ((x / y) * y + (x % y)), Is (.agg #[.bool s1278, .slice A1278 n1278 c1278]), Is (.bool true), Is (.bool false), Is (.bool false)] [[], [], [], [0, 1, 2], [], [3, 4], [5], [6], [7], [7], [7], [7, 8, 9, 10], [7], [7, 11, 12], [7, 13], [7, 14], [15], [16], [16], [16], [16, 17, 18, 19], [16], [16, 20, 21], [16, 22], [16, 23]] [[], [], [], [0, 1, 2], [], [0, 1, 2, 3, 4], [0, 1, 2, 3, 4, 5], [0, 1, 2, 3, 4, 5, 6], [0, 1, 2, 3, 4, 5, 6, 7], [0, 1, 2, 3, 4, 5, 6, 7], [0, 1, 2, 3, 4, 5, 6, 7], [0, 1, 2, 3, 4, 5, 6, 7, 8, 9, 10], [0, 1, 2, 3, 4, 5, 6, 7], [0, 1, 2, 3, 4, 5, 6, 7, 8, 9, 10, 11, 12], [0, 1, 2, 3, 4, 5, 6, 7, 8, 9, 10, 11, 12, 13], [0, 1, 2, 3, 4, 5, 6, 7, 8, 9, 10, 11, 12, 13, 14], [0, 1, 2, 3, 4, 5, 6, 7, 8, 9, 10, 11, 12, 13, 14, 15], [0, 1, 2, 3, 4, 5, 6, 7, 8, 9, 10, 11, 12, 13, 14, 15, 16], [0, 1, 2, 3, 4, 5, 6, 7, 8, 9, 10, 11, 12, 13, 14, 15, 16], [0, 1, 2, 3, 4, 5, 6, 7, 8, 9, 10, 11, 12, 13, 14, 15, 16], [0, 1, 2, 3, 4, 5, 6, 7, 8, 9, 10, 11, 12, 13, 14, 15, 16, 17, 18, 19], [0, 1, 2, 3, 4, 5, 6, 7, 8, 9, 10, 11, 12, 13, 14, 15, 16], [0, 1, 2, 3, 4, 5, 6, 7, 8, 9, 10, 11, 12, 13, 14, 15, 16, 17, 18, 19, 20, 21], [0, 1, 2, 3, 4, 5, 6, 7, 8, 9, 10, 11, 12, 13, 14, 15, 16, 17, 18, 19, 20, 21, 22], [0, 1, 2, 3, 4, 5, 6, 7, 8, 9, 10, 11, 12, 13, 14, 15, 16, 17, 18, 19, 20, 21, 22, 23]] rfl
        (obs_cons rfl rfl (hob rfl rfl ?_) (obs_cons rfl rfl (hob rfl rfl ?_) (obs_cons rfl rfl (hob rfl rfl ?_) (obs_cons rfl rfl (hob rfl rfl ?_) (obs_cons rfl rfl (hob rfl rfl ?_) (obs_cons rfl rfl (hob rfl rfl ?_) (obs_cons rfl rfl (hob rfl rfl ?_) (obs_cons rfl rfl (hob rfl rfl ?_) (obs_cons rfl rfl (hob rfl rfl ?_) (obs_cons rfl rfl (hob rfl rfl ?_) (obs_cons rfl rfl (hob rfl rfl ?_) (obs_cons rfl rfl (hob rfl rfl ?_) (obs_cons rfl rfl (hob rfl rfl ?_) (obs_cons rfl rfl (hob rfl rfl ?_) (obs_cons rfl rfl (hob rfl rfl ?_) (obs_cons rfl rfl (hob rfl rfl ?_) (obs_cons rfl rfl (hob rfl rfl ?_) (obs_cons rfl rfl (hob rfl rfl ?_) (obs_cons rfl rfl (hob rfl rfl ?_) (obs_cons rfl rfl (hob rfl rfl ?_) (obs_cons rfl rfl (hob rfl rfl ?_) (obs_cons rfl rfl (hob rfl rfl ?_) (obs_cons rfl rfl (hob rfl rfl ?_) (obs_cons rfl rfl (hob rfl rfl ?_) (obs_cons rfl rfl (hob rfl rfl ?_) obs_nil))))))))))))))))))))))))) ?_
      · -- 0
        intro v1296 e1297
        have hw26 : Ext w v1296 := hw25.trans e1297
        refine deps_nil ?_
        refine wl_load rfl rfl (load_agg aggInt ((((((((((((hb1185.updN u1191 (by omega)).ext (e1194.trans (e1206.trans e1212))).updN u1219 (by omega)).updN u1224 (by omega)).ext (e1229.trans (e1236.trans e1242))).updN u1249 (by omega)).updN u1254 (by omega)).ext (e1257.trans e1263)).updN u1270 (by omega)).ext (e1273.trans (e1276.trans e1281))).updN u1288 (by omega)).ext e1297) [.bool s1169, .slice A1169 n1169 c1169] rfl (Nat.le_of_ble_eq_true rfl) rfl) (by decide) ?_
        exact pi_done rfl (Ext.refl _) rfl
      · -- 1
        intro v1298 e1299
        have hw26 : Ext w v1298 := hw25.trans e1299
        refine deps_nil ?_
        refine wl_load rfl rfl (load_agg aggInt ((((((((((((((hb9.ext (e13.trans (e1166.trans (e1173.trans e1179)))).updN u1186 (by omega)).updN u1191 (by omega)).ext (e1194.trans (e1206.trans e1212))).updN u1219 (by omega)).updN u1224 (by omega)).ext (e1229.trans (e1236.trans e1242))).updN u1249 (by omega)).updN u1254 (by omega)).ext (e1257.trans e1263)).updN u1270 (by omega)).ext (e1273.trans (e1276.trans e1281))).updN u1288 (by omega)).ext e1299) [.bool sb, .slice Ab nb cb] rfl (Nat.le_of_ble_eq_true rfl) rfl) (by decide) ?_
        exact pi_done rfl (Ext.refl _) rfl
      · -- 2
        intro v1300 e1301
        have hw26 : Ext w v1300 := hw25.trans e1301
        refine deps_nil ?_
        refine wl_load rfl rfl (load_agg aggInt (((((((((((hb1190.ext (e1194.trans (e1206.trans e1212))).updN u1219 (by omega)).updN u1224 (by omega)).ext (e1229.trans (e1236.trans e1242))).updN u1249 (by omega)).updN u1254 (by omega)).ext (e1257.trans e1263)).updN u1270 (by omega)).ext (e1273.trans (e1276.trans e1281))).updN u1288 (by omega)).ext e1301) [.bool s1170, .slice A1170 n1170 c1170] rfl (Nat.le_of_ble_eq_true rfl) rfl) (by decide) ?_
        exact pi_done rfl (Ext.refl _) rfl
      · -- 3
        intro v1302 e1303
        have hw26 : Ext w v1302 := hw25.trans e1303
        refine deps_cons rfl rfl fun x1304 y1305 h1306 e1307 f1308 => ?_
        obtain rfl := h1306
        refine deps_cons rfl rfl fun x1309 y1310 h1311 e1312 f1313 => ?_
        obtain rfl := h1311
        refine deps_cons rfl rfl fun x1314 y1315 h1316 e1317 f1318 => ?_
        obtain rfl := h1316
        refine deps_nil ?_
        have L1319 : ln ((x.tdiv y) * y + (x.tmod y)) ≤ 2097153 := Nat.le_trans (ln_add (ln_mul L1163 Ly) L1164) (by decide)
        refine wl_call rfl rfl (vs := [.agg #[.bool s1169, .slice A1169 n1169 c1169], .agg #[.bool sb, .slice Ab nb cb], .agg #[.bool s1170, .slice A1170 n1170 c1170]]) (by kernel_rfl) (by decide) (g_zint_MulAdd hw26.size ((((((((((((((z1169.ext (e1173.trans e1179)).updT hb1184 u1186).updT hb1189 u1191).ext (e1194.trans (e1206.trans e1212))).updT hb1217 u1219).updT hb1222 u1224).ext (e1229.trans (e1236.trans e1242))).updT hb1247 u1249).updT hb1252 u1254).ext (e1257.trans e1263)).updT hb1268 u1270).ext (e1273.trans (e1276.trans e1281))).updT hb1286 u1288).ext e1303).zi (z1169.le (Nat.le_trans L1163 (by decide))) (hy.ext hw26) (Nat.le_trans lb (by decide)) ((((((((((((((z1170.ext (e1173.trans e1179)).updT hb1184 u1186).updT hb1189 u1191).ext (e1194.trans (e1206.trans e1212))).updT hb1217 u1219).updT hb1222 u1224).ext (e1229.trans (e1236.trans e1242))).updT hb1247 u1249).updT hb1252 u1254).ext (e1257.trans e1263)).updT hb1268 u1270).ext (e1273.trans (e1276.trans e1281))).updT hb1286 u1288).ext e1303).zi (z1170.le (Nat.le_trans L1164 (by decide)))) ?_
        rintro _ v1320 ⟨xr1322, rfl, r1322, e1321⟩
        refine ret_intro ?_
        have hw27 : Ext w v1320 := hw26.trans e1321
        obtain ⟨s1323, A1323, n1323, c1323, rfl, z1323⟩ := r1322
        exact pi_done rfl e1321 ⟨_, _, _, _, rfl, z1323⟩
      · -- 4
        intro v1324 e1325
        have hw26 : Ext w v1324 := hw25.trans e1325
        refine deps_nil ?_
        refine wl_load rfl rfl (load_agg aggInt (hb1287.ext e1325) [.bool s1278, .slice A1278 n1278 c1278] rfl (Nat.le_of_ble_eq_true rfl) rfl) (by decide) ?_
        exact pi_done rfl (Ext.refl _) rfl
      · -- 5
        intro v1326 e1327
        have hw26 : Ext w v1326 := hw25.trans e1327
        refine deps_cons rfl rfl fun x1328 y1329 h1330 e1331 f1332 => ?_
        obtain ⟨s1333, A1333, n1333, c1333, rfl, z1333⟩ := h1330
        have z1333 := z1333.ext f1332
        refine deps_cons rfl rfl fun x1334 y1335 h1336 e1337 f1338 => ?_
        obtain rfl := h1336
        refine deps_nil ?_
        refine wl_call rfl rfl (vs := [.agg #[.bool s1333, .slice A1333 n1333 c1333], .agg #[.bool s1278, .slice A1278 n1278 c1278]]) (by kernel_rfl) (by decide) (g_law5_alike z1333 (z1333.le (Nat.le_trans L1290 (by decide))) ((((z1278.ext e1281).updT hb1286 u1288).ext e1327).cast (by first | rfl | exact (Int.tdiv_mul_add_tmod x y).symm | exact p1198.eq.symm | exact (ediv_eq5 x y).symm | exact (flo_same5 p1198 h0 ht).2.symm | exact (ediv_same5 h0 ht).symm)) (z1278.le (Nat.le_trans Lx (by decide)))) ?_
        rintro _ v1339 ⟨xr1341, rfl, r1341, e1340⟩
        refine ret_intro ?_
        have hw27 : Ext w v1339 := hw26.trans e1340
        obtain rfl := r1341
        exact pi_done rfl e1340 rfl
      · -- 6
        intro v1342 e1343
        have hw26 : Ext w v1342 := hw25.trans e1343
        refine deps_cons rfl rfl fun x1344 y1345 h1346 e1347 f1348 => ?_
        obtain rfl := h1346
        refine deps_nil ?_
        refine wl_pure rfl rfl (v := .bool false) (by decide) (by kernel_rfl) ?_
        exact pi_done rfl (Ext.refl _) rfl
      · -- 7
        intro v1349 e1350
        have hw26 : Ext w v1349 := hw25.trans e1350
        refine deps_cons rfl rfl fun x1351 y1352 h1353 e1354 f1355 => ?_
        obtain rfl := h1353
        refine deps_nil ?_
        refine wl_move rfl rfl (by decide) ?_
        exact pi_done rfl (Ext.refl _) rfl
      · -- 8
        intro v1356 e1357
        have hw26 : Ext w v1356 := hw25.trans e1357
        refine deps_cons rfl rfl fun x1358 y1359 h1360 e1361 f1362 => ?_
        obtain rfl := h1360
        refine deps_nil ?_
        refine wl_load rfl rfl (load_agg aggInt (((((((((hb1218.updN u1224 (by omega)).ext (e1229.trans (e1236.trans e1242))).updN u1249 (by omega)).updN u1254 (by omega)).ext (e1257.trans e1263)).updN u1270 (by omega)).ext (e1273.trans (e1276.trans e1281))).updN u1288 (by omega)).ext e1357) [.bool s1202, .slice A1202 n1202 c1202] rfl (Nat.le_of_ble_eq_true rfl) rfl) (by decide) ?_
        exact pi_done rfl (Ext.refl _) rfl
      · -- 9
        intro v1363 e1364
        have hw26 : Ext w v1363 := hw25.trans e1364
        refine deps_cons rfl rfl fun x1365 y1366 h1367 e1368 f1369 => ?_
        obtain rfl := h1367
        refine deps_nil ?_
        refine wl_load rfl rfl (load_agg aggInt ((((((((((((((hb9.ext (e13.trans (e1166.trans (e1173.trans e1179)))).updN u1186 (by omega)).updN u1191 (by omega)).ext (e1194.trans (e1206.trans e1212))).updN u1219 (by omega)).updN u1224 (by omega)).ext (e1229.trans (e1236.trans e1242))).updN u1249 (by omega)).updN u1254 (by omega)).ext (e1257.trans e1263)).updN u1270 (by omega)).ext (e1273.trans (e1276.trans e1281))).updN u1288 (by omega)).ext e1364) [.bool sb, .slice Ab nb cb] rfl (Nat.le_of_ble_eq_true rfl) rfl) (by decide) ?_
        exact pi_done rfl (Ext.refl _) rfl
      · -- 10
        intro v1370 e1371
        have hw26 : Ext w v1370 := hw25.trans e1371
        refine deps_cons rfl rfl fun x1372 y1373 h1374 e1375 f1376 => ?_
        obtain rfl := h1374
        refine deps_nil ?_
        refine wl_load rfl rfl (load_agg aggInt ((((((((hb1223.ext (e1229.trans (e1236.trans e1242))).updN u1249 (by omega)).updN u1254 (by omega)).ext (e1257.trans e1263)).updN u1270 (by omega)).ext (e1273.trans (e1276.trans e1281))).updN u1288 (by omega)).ext e1371) [.bool s1203, .slice A1203 n1203 c1203] rfl (Nat.le_of_ble_eq_true rfl) rfl) (by decide) ?_
        exact pi_done rfl (Ext.refl _) rfl
      · -- 11
        intro v1377 e1378
        have hw26 : Ext w v1377 := hw25.trans e1378
        refine deps_cons rfl rfl fun x1379 y1380 h1381 e1382 f1383 => ?_
        obtain rfl := h1381
        refine deps_cons rfl rfl fun x1384 y1385 h1386 e1387 f1388 => ?_
        obtain rfl := h1386
        refine deps_cons rfl rfl fun x1389 y1390 h1391 e1392 f1393 => ?_
        obtain rfl := h1391
        refine deps_cons rfl rfl fun x1394 y1395 h1396 e1397 f1398 => ?_
        obtain rfl := h1396
        refine deps_nil ?_
        have L1399 : ln (q1196 * y + r1197) ≤ 2097154 := Nat.le_trans (ln_add (ln_mul L1199 Ly) L1200) (by decide)
        refine wl_call rfl rfl (vs := [.agg #[.bool s1202, .slice A1202 n1202 c1202], .agg #[.bool sb, .slice Ab nb cb], .agg #[.bool s1203, .slice A1203 n1203 c1203]]) (by kernel_rfl) (by decide) (g_zint_MulAdd hw26.size (((((((((((z1202.ext (e1206.trans e1212)).updT hb1217 u1219).updT hb1222 u1224).ext (e1229.trans (e1236.trans e1242))).updT hb1247 u1249).updT hb1252 u1254).ext (e1257.trans e1263)).updT hb1268 u1270).ext (e1273.trans (e1276.trans e1281))).updT hb1286 u1288).ext e1378).zi (z1202.le (Nat.le_trans L1199 (by decide))) (hy.ext hw26) (Nat.le_trans lb (by decide)) (((((((((((z1203.ext (e1206.trans e1212)).updT hb1217 u1219).updT hb1222 u1224).ext (e1229.trans (e1236.trans e1242))).updT hb1247 u1249).updT hb1252 u1254).ext (e1257.trans e1263)).updT hb1268 u1270).ext (e1273.trans (e1276.trans e1281))).updT hb1286 u1288).ext e1378).zi (z1203.le (Nat.le_trans L1200 (by decide)))) ?_
        rintro _ v1400 ⟨xr1402, rfl, r1402, e1401⟩
        refine ret_intro ?_
        have hw27 : Ext w v1400 := hw26.trans e1401
        obtain ⟨s1403, A1403, n1403, c1403, rfl, z1403⟩ := r1402
        exact pi_done rfl e1401 ⟨_, _, _, _, rfl, z1403⟩
      · -- 12
        intro v1404 e1405
        have hw26 : Ext w v1404 := hw25.trans e1405
        refine deps_cons rfl rfl fun x1406 y1407 h1408 e1409 f1410 => ?_
        obtain rfl := h1408
        refine deps_nil ?_
        refine wl_load rfl rfl (load_agg aggInt (hb1287.ext e1405) [.bool s1278, .slice A1278 n1278 c1278] rfl (Nat.le_of_ble_eq_true rfl) rfl) (by decide) ?_
        exact pi_done rfl (Ext.refl _) rfl
      · -- 13
        intro v1411 e1412
        have hw26 : Ext w v1411 := hw25.trans e1412
        refine deps_cons rfl rfl fun x1413 y1414 h1415 e1416 f1417 => ?_
        obtain rfl := h1415
        refine deps_cons rfl rfl fun x1418 y1419 h1420 e1421 f1422 => ?_
        obtain ⟨s1423, A1423, n1423, c1423, rfl, z1423⟩ := h1420
        have z1423 := z1423.ext f1422
        refine deps_cons rfl rfl fun x1424 y1425 h1426 e1427 f1428 => ?_
        obtain rfl := h1426
        refine deps_nil ?_
        refine wl_call rfl rfl (vs := [.agg #[.bool s1423, .slice A1423 n1423 c1423], .agg #[.bool s1278, .slice A1278 n1278 c1278]]) (by kernel_rfl) (by decide) (g_law5_alike z1423 (z1423.le (Nat.le_trans L1292 (by decide))) ((((z1278.ext e1281).updT hb1286 u1288).ext e1412).cast (by first | rfl | exact (Int.tdiv_mul_add_tmod x y).symm | exact p1198.eq.symm | exact (ediv_eq5 x y).symm | exact (flo_same5 p1198 h0 ht).2.symm | exact (ediv_same5 h0 ht).symm)) (z1278.le (Nat.le_trans Lx (by decide)))) ?_
        rintro _ v1429 ⟨xr1431, rfl, r1431, e1430⟩
        refine ret_intro ?_
        have hw27 : Ext w v1429 := hw26.trans e1430
        obtain rfl := r1431
        exact pi_done rfl e1430 rfl
      · -- 14
        intro v1432 e1433
        have hw26 : Ext w v1432 := hw25.trans e1433
        refine deps_cons rfl rfl fun x1434 y1435 h1436 e1437 f1438 => ?_
        obtain rfl := h1436
        refine deps_cons rfl rfl fun x1439 y1440 h1441 e1442 f1443 => ?_
        obtain rfl := h1441
        refine deps_nil ?_
        refine wl_pure rfl rfl (v := .bool false) (by decide) (by kernel_rfl) ?_
        exact pi_done rfl (Ext.refl _) rfl
      · -- 15
        intro v1444 e1445
        have hw26 : Ext w v1444 := hw25.trans e1445
        refine deps_cons rfl rfl fun x1446 y1447 h1448 e1449 f1450 => ?_
        obtain rfl := h1448
        refine deps_cons rfl rfl fun x1451 y1452 h1453 e1454 f1455 => ?_
        obtain rfl := h1453
        refine deps_nil ?_
        refine wl_pure rfl rfl (v := .bool false) (by decide) (by kernel_rfl) ?_
        exact pi_done rfl (Ext.refl _) rfl
      · -- 16
        intro v1456 e1457
        have hw26 : Ext w v1456 := hw25.trans e1457
        refine deps_cons rfl rfl fun x1458 y1459 h1460 e1461 f1462 => ?_
        obtain rfl := h1460
        refine deps_nil ?_
        refine wl_move rfl rfl (by decide) ?_
        exact pi_done rfl (Ext.refl _) rfl
      · -- 17
        intro v1463 e1464
        have hw26 : Ext w v1463 := hw25.trans e1464
        refine deps_cons rfl rfl fun x1465 y1466 h1467 e1468 f1469 => ?_
        obtain rfl := h1467
        refine deps_nil ?_
        refine wl_load rfl rfl (load_agg aggInt ((((((hb1248.updN u1254 (by omega)).ext (e1257.trans e1263)).updN u1270 (by omega)).ext (e1273.trans (e1276.trans e1281))).updN u1288 (by omega)).ext e1464) [.bool s1232, .slice A1232 n1232 c1232] rfl (Nat.le_of_ble_eq_true rfl) rfl) (by decide) ?_
        exact pi_done rfl (Ext.refl _) rfl
      · -- 18
        intro v1470 e1471
        have hw26 : Ext w v1470 := hw25.trans e1471
        refine deps_cons rfl rfl fun x1472 y1473 h1474 e1475 f1476 => ?_
        obtain rfl := h1474
        refine deps_nil ?_
        refine wl_load rfl rfl (load_agg aggInt ((((((((((((((hb9.ext (e13.trans (e1166.trans (e1173.trans e1179)))).updN u1186 (by omega)).updN u1191 (by omega)).ext (e1194.trans (e1206.trans e1212))).updN u1219 (by omega)).updN u1224 (by omega)).ext (e1229.trans (e1236.trans e1242))).updN u1249 (by omega)).updN u1254 (by omega)).ext (e1257.trans e1263)).updN u1270 (by omega)).ext (e1273.trans (e1276.trans e1281))).updN u1288 (by omega)).ext e1471) [.bool sb, .slice Ab nb cb] rfl (Nat.le_of_ble_eq_true rfl) rfl) (by decide) ?_
        exact pi_done rfl (Ext.refl _) rfl
      · -- 19
        intro v1477 e1478
        have hw26 : Ext w v1477 := hw25.trans e1478
        refine deps_cons rfl rfl fun x1479 y1480 h1481 e1482 f1483 => ?_
        obtain rfl := h1481
        refine deps_nil ?_
        refine wl_load rfl rfl (load_agg aggInt (((((hb1253.ext (e1257.trans e1263)).updN u1270 (by omega)).ext (e1273.trans (e1276.trans e1281))).updN u1288 (by omega)).ext e1478) [.bool s1233, .slice A1233 n1233 c1233] rfl (Nat.le_of_ble_eq_true rfl) rfl) (by decide) ?_
        exact pi_done rfl (Ext.refl _) rfl
      · -- 20
        intro v1484 e1485
        have hw26 : Ext w v1484 := hw25.trans e1485
        refine deps_cons rfl rfl fun x1486 y1487 h1488 e1489 f1490 => ?_
        obtain rfl := h1488
        refine deps_cons rfl rfl fun x1491 y1492 h1493 e1494 f1495 => ?_
        obtain rfl := h1493
        refine deps_cons rfl rfl fun x1496 y1497 h1498 e1499 f1500 => ?_
        obtain rfl := h1498
        refine deps_cons rfl rfl fun x1501 y1502 h1503 e1504 f1505 => ?_
        obtain rfl := h1503
        refine deps_nil ?_
        have L1506 : ln ((x / y) * y + (x % y)) ≤ 2097154 := Nat.le_trans (ln_add (ln_mul L1226 Ly) L1227) (by decide)
        refine wl_call rfl rfl (vs := [.agg #[.bool s1232, .slice A1232 n1232 c1232], .agg #[.bool sb, .slice Ab nb cb], .agg #[.bool s1233, .slice A1233 n1233 c1233]]) (by kernel_rfl) (by decide) (g_zint_MulAdd hw26.size ((((((((z1232.ext (e1236.trans e1242)).updT hb1247 u1249).updT hb1252 u1254).ext (e1257.trans e1263)).updT hb1268 u1270).ext (e1273.trans (e1276.trans e1281))).updT hb1286 u1288).ext e1485).zi (z1232.le (Nat.le_trans L1226 (by decide))) (hy.ext hw26) (Nat.le_trans lb (by decide)) ((((((((z1233.ext (e1236.trans e1242)).updT hb1247 u1249).updT hb1252 u1254).ext (e1257.trans e1263)).updT hb1268 u1270).ext (e1273.trans (e1276.trans e1281))).updT hb1286 u1288).ext e1485).zi (z1233.le (Nat.le_trans L1227 (by decide)))) ?_
        rintro _ v1507 ⟨xr1509, rfl, r1509, e1508⟩
        refine ret_intro ?_
        have hw27 : Ext w v1507 := hw26.trans e1508
        obtain ⟨s1510, A1510, n1510, c1510, rfl, z1510⟩ := r1509
        exact pi_done rfl e1508 ⟨_, _, _, _, rfl, z1510⟩
      · -- 21
        intro v1511 e1512
        have hw26 : Ext w v1511 := hw25.trans e1512
        refine deps_cons rfl rfl fun x1513 y1514 h1515 e1516 f1517 => ?_
        obtain rfl := h1515
        refine deps_nil ?_
        refine wl_load rfl rfl (load_agg aggInt (hb1287.ext e1512) [.bool s1278, .slice A1278 n1278 c1278] rfl (Nat.le_of_ble_eq_true rfl) rfl) (by decide) ?_
        exact pi_done rfl (Ext.refl _) rfl
      · -- 22
        intro v1518 e1519
        have hw26 : Ext w v1518 := hw25.trans e1519
        refine deps_cons rfl rfl fun x1520 y1521 h1522 e1523 f1524 => ?_
        obtain rfl := h1522
        refine deps_cons rfl rfl fun x1525 y1526 h1527 e1528 f1529 => ?_
        obtain ⟨s1530, A1530, n1530, c1530, rfl, z1530⟩ := h1527
        have z1530 := z1530.ext f1529
        refine deps_cons rfl rfl fun x1531 y1532 h1533 e1534 f1535 => ?_
        obtain rfl := h1533
        refine deps_nil ?_
        refine wl_call rfl rfl (vs := [.agg #[.bool s1530, .slice A1530 n1530 c1530], .agg #[.bool s1278, .slice A1278 n1278 c1278]]) (by kernel_rfl) (by decide) (g_law5_alike z1530 (z1530.le (Nat.le_trans L1294 (by decide))) ((((z1278.ext e1281).updT hb1286 u1288).ext e1519).cast (by first | rfl | exact (Int.tdiv_mul_add_tmod x y).symm | exact p1198.eq.symm | exact (ediv_eq5 x y).symm | exact (flo_same5 p1198 h0 ht).2.symm | exact (ediv_same5 h0 ht).symm)) (z1278.le (Nat.le_trans Lx (by decide)))) ?_
        rintro _ v1536 ⟨xr1538, rfl, r1538, e1537⟩
        refine ret_intro ?_
        have hw27 : Ext w v1536 := hw26.trans e1537
        obtain rfl := r1538
        exact pi_done rfl e1537 rfl
      · -- 23
        intro v1539 e1540
        have hw26 : Ext w v1539 := hw25.trans e1540
        refine deps_cons rfl rfl fun x1541 y1542 h1543 e1544 f1545 => ?_
        obtain rfl := h1543
        refine deps_cons rfl rfl fun x1546 y1547 h1548 e1549 f1550 => ?_
        obtain rfl := h1548
        refine deps_nil ?_
        refine wl_pure rfl rfl (v := .bool false) (by decide) (by kernel_rfl) ?_
        exact pi_done rfl (Ext.refl _) rfl
      · -- 24
        intro v1551 e1552
        have hw26 : Ext w v1551 := hw25.trans e1552
        refine deps_cons rfl rfl fun x1553 y1554 h1555 e1556 f1557 => ?_
        obtain rfl := h1555
        refine deps_cons rfl rfl fun x1558 y1559 h1560 e1561 f1562 => ?_
        obtain rfl := h1560
        refine deps_nil ?_
        refine wl_pure rfl rfl (v := .bool false) (by decide) (by kernel_rfl) ?_
        exact pi_done rfl (Ext.refl _) rfl
      · -- all
        intro v1563 e1564
        have hw26 : Ext w v1563 := hw25.trans e1564
        refine deps_cons rfl rfl fun x1565 y1566 h1567 e1568 f1569 => ?_
        obtain rfl := h1567
        refine deps_cons rfl rfl fun x1570 y1571 h1572 e1573 f1574 => ?_
        obtain rfl := h1572
        refine deps_cons rfl rfl fun x1575 y1576 h1577 e1578 f1579 => ?_
        obtain rfl := h1577
        refine deps_cons rfl rfl fun x1580 y1581 h1582 e1583 f1584 => ?_
        obtain ⟨s1585, A1585, n1585, c1585, rfl, z1585⟩ := h1582
        have z1585 := z1585.ext f1584
        refine deps_cons rfl rfl fun x1586 y1587 h1588 e1589 f1590 => ?_
        obtain rfl := h1588
        refine deps_cons rfl rfl fun x1591 y1592 h1593 e1594 f1595 => ?_
        obtain rfl := h1593
        refine deps_cons rfl rfl fun x1596 y1597 h1598 e1599 f1600 => ?_
        obtain rfl := h1598
        refine deps_cons rfl rfl fun x1601 y1602 h1603 e1604 f1605 => ?_
        obtain rfl := h1603
        refine deps_cons rfl rfl fun x1606 y1607 h1608 e1609 f1610 => ?_
        obtain rfl := h1608
        refine deps_cons rfl rfl fun x1611 y1612 h1613 e1614 f1615 => ?_
        obtain rfl := h1613
        refine deps_cons rfl rfl fun x1616 y1617 h1618 e1619 f1620 => ?_
        obtain rfl := h1618
        refine deps_cons rfl rfl fun x1621 y1622 h1623 e1624 f1625 => ?_
        obtain ⟨s1626, A1626, n1626, c1626, rfl, z1626⟩ := h1623
        have z1626 := z1626.ext f1625
        refine deps_cons rfl rfl fun x1627 y1628 h1629 e1630 f1631 => ?_
        obtain rfl := h1629
        refine deps_cons rfl rfl fun x1632 y1633 h1634 e1635 f1636 => ?_
        obtain rfl := h1634
        refine deps_cons rfl rfl fun x1637 y1638 h1639 e1640 f1641 => ?_
        obtain rfl := h1639
        refine deps_cons rfl rfl fun x1642 y1643 h1644 e1645 f1646 => ?_
        obtain rfl := h1644
        refine deps_cons rfl rfl fun x1647 y1648 h1649 e1650 f1651 => ?_
        obtain rfl := h1649
        refine deps_cons rfl rfl fun x1652 y1653 h1654 e1655 f1656 => ?_
        obtain rfl := h1654
        refine deps_cons rfl rfl fun x1657 y1658 h1659 e1660 f1661 => ?_
        obtain rfl := h1659
        refine deps_cons rfl rfl fun x1662 y1663 h1664 e1665 f1666 => ?_
        obtain rfl := h1664
        refine deps_cons rfl rfl fun x1667 y1668 h1669 e1670 f1671 => ?_
        obtain ⟨s1672, A1672, n1672, c1672, rfl, z1672⟩ := h1669
        have z1672 := z1672.ext f1671
        refine deps_cons rfl rfl fun x1673 y1674 h1675 e1676 f1677 => ?_
        obtain rfl := h1675
        refine deps_cons rfl rfl fun x1678 y1679 h1680 e1681 f1682 => ?_
        obtain rfl := h1680
        refine deps_cons rfl rfl fun x1683 y1684 h1685 e1686 f1687 => ?_
        obtain rfl := h1685
        refine deps_cons rfl rfl fun x1688 y1689 h1690 e1691 f1692 => ?_
        obtain rfl := h1690
        refine deps_nil ?_
        refine wl_nil ?_
        refine eo_np ?_
        refine eo_then ?_
        refine cw_false rfl ?_
        refine cw_skip ?_
        refine eo_then ?_
        refine cw_seq ?_
        refine cw_seq ?_
        refine cw_draw mix 32 [] [Is (.agg #[.bool s1170, .slice A1170 n1170 c1170]), Is (.agg #[.bool sb, .slice Ab nb cb]), Is (.int .i64 (cmp3 (Int.natAbs (x.tmod y)) (Int.natAbs y))), Is (.bool false), Is (.bool false), Is (.agg #[.bool s1170, .slice A1170 n1170 c1170]), Is (.int .i64 (scmp (x.tmod y) 0)), Is (.agg #[.bool sa, .slice Aa na ca]), Is (.int .i64 (scmp x 0)), Is (.int .i64 (scmp (x.tmod y) 0 * scmp x 0)), Is (.bool false), Is (.bool false), Is (.bool false), Is (.agg #[.bool s1203, .slice A1203 n1203 c1203]), Is (.agg #[.bool sb, .slice Ab nb cb]), Is (.int .i64 (cmp3 (Int.natAbs r1197) (Int.natAbs y))), Is (.bool false), Is (.bool false), Is (.bool false), Is (.agg #[.bool s1203, .slice A1203 n1203 c1203]), Is (.int .i64 (scmp r1197 0)), Is (.agg #[.bool sb, .slice Ab nb cb]), Is (.int .i64 (scmp y 0)), Is (.int .i64 (scmp r1197 0 * scmp y 0)), Is (.bool false), Is (.bool false), Is (.bool false), Is (.agg #[.bool s1233, .slice A1233 n1233 c1233]), Is (.agg #[.bool sb, .slice Ab nb cb]), Is (.bool true), Is (.bool false), Is (.bool false)] [[], [], [0, 1], [2], [3], [4], [4, 5], [4], [4, 7], [4, 6, 8], [4, 9], [4, 10], [11], [12], [12], [12, 13, 14], [12, 15], [12, 16], [17], [18], [18, 19], [18], [18, 21], [18, 20, 22], [18, 23], [18, 24], [25], [26], [26], [26, 27, 28], [26, 29], [26, 30]] [[], [], [0, 1], [0, 1, 2], [0, 1, 2, 3], [0, 1, 2, 3, 4], [0, 1, 2, 3, 4, 5], [0, 1, 2, 3, 4], [0, 1, 2, 3, 4, 5, 6, 7], [0, 1, 2, 3, 4, 5, 6, 7, 8], [0, 1, 2, 3, 4, 5, 6, 7, 8, 9], [0, 1, 2, 3, 4, 5, 6, 7, 8, 9, 10], [0, 1, 2, 3, 4, 5, 6, 7, 8, 9, 10, 11], [0, 1, 2, 3, 4, 5, 6, 7, 8, 9, 10, 11, 12], [0, 1, 2, 3, 4, 5, 6, 7, 8, 9, 10, 11, 12], [0, 1, 2, 3, 4, 5, 6, 7, 8, 9, 10, 11, 12, 13, 14], [0, 1, 2, 3, 4, 5, 6, 7, 8, 9, 10, 11, 12, 13, 14, 15], [0, 1, 2, 3, 4, 5, 6, 7, 8, 9, 10, 11, 12, 13, 14, 15, 16], [0, 1, 2, 3, 4, 5, 6, 7, 8, 9, 10, 11, 12, 13, 14, 15, 16, 17], [0, 1, 2, 3, 4, 5, 6, 7, 8, 9, 10, 11, 12, 13, 14, 15, 16, 17, 18], [0, 1, 2, 3, 4, 5, 6, 7, 8, 9, 10, 11, 12, 13, 14, 15, 16, 17, 18, 19], [0, 1, 2, 3, 4, 5, 6, 7, 8, 9, 10, 11, 12, 13, 14, 15, 16, 17, 18], [0, 1, 2, 3, 4, 5, 6, 7, 8, 9, 10, 11, 12, 13, 14, 15, 16, 17, 18, 19, 20, 21], [0, 1, 2, 3, 4, 5, 6, 7, 8, 9, 10, 11, 12, 13, 14, 15, 16, 17, 18, 19, 20, 21, 22], [0, 1, 2, 3, 4, 5, 6, 7, 8, 9, 10, 11, 12, 13, 14, 15, 16, 17, 18, 19, 20, 21, 22, 23], [0, 1, 2, 3, 4, 5, 6, 7, 8, 9, 10, 11, 12, 13, 14, 15, 16, 17, 18, 19, 20, 21, 22, 23, 24], [0, 1, 2, 3, 4, 5, 6, 7, 8, 9, 10, 11, 12, 13, 14, 15, 16, 17, 18, 19, 20, 21, 22, 23, 24, 25], [0, 1, 2, 3, 4, 5, 6, 7, 8, 9, 10, 11, 12, 13, 14, 15, 16, 17, 18, 19, 20, 21, 22, 23, 24, 25, 26], [0, 1, 2, 3, 4, 5, 6, 7, 8, 9, 10, 11, 12, 13, 14, 15, 16, 17, 18, 19, 20, 21, 22, 23, 24, 25, 26], [0, 1, 2, 3, 4, 5, 6, 7, 8, 9, 10, 11, 12, 13, 14, 15, 16, 17, 18, 19, 20, 21, 22, 23, 24, 25, 26, 27, 28], [0, 1, 2, 3, 4, 5, 6, 7, 8, 9, 10, 11, 12, 13, 14, 15, 16, 17, 18, 19, 20, 21, 22, 23, 24, 25, 26, 27, 28, 29], [0, 1, 2, 3, 4, 5, 6, 7, 8, 9, 10, 11, 12, 13, 14, 15, 16, 17, 18, 19, 20, 21, 22, 23, 24, 25, 26, 27, 28, 29, 30]] rfl
          (obs_cons rfl rfl (hob rfl rfl ?_) (obs_cons rfl rfl (hob rfl rfl ?_) (obs_cons rfl rfl (hob rfl rfl ?_) (obs_cons rfl rfl (hob rfl rfl ?_) (obs_cons rfl rfl (hob rfl rfl ?_) (obs_cons rfl rfl (hob rfl rfl ?_) (obs_cons rfl rfl (hob rfl rfl ?_) (obs_cons rfl rfl (hob rfl rfl ?_) (obs_cons rfl rfl (hob rfl rfl ?_) (obs_cons rfl rfl (hob rfl rfl ?_) (obs_cons rfl rfl (hob rfl rfl ?_) (obs_cons rfl rfl (hob rfl rfl ?_) (obs_cons rfl rfl (hob rfl rfl ?_) (obs_cons rfl rfl (hob rfl rfl ?_) (obs_cons rfl rfl (hob rfl rfl ?_) (obs_cons rfl rfl (hob rfl rfl ?_) (obs_cons rfl rfl (hob rfl rfl ?_) (obs_cons rfl rfl (hob rfl rfl ?_) (obs_cons rfl rfl (hob rfl rfl ?_) (obs_cons rfl rfl (hob rfl rfl ?_) (obs_cons rfl rfl (hob rfl rfl ?_) (obs_cons rfl rfl (hob rfl rfl ?_) (obs_cons rfl rfl (hob rfl rfl ?_) (obs_cons rfl rfl (hob rfl rfl ?_) (obs_cons rfl rfl (hob rfl rfl ?_) (obs_cons rfl rfl (hob rfl rfl ?_) (obs_cons rfl rfl (hob rfl rfl ?_) (obs_cons rfl rfl (hob rfl rfl ?_) (obs_cons rfl rfl (hob rfl rfl ?_) (obs_cons rfl rfl (hob rfl rfl ?_) (obs_cons rfl rfl (hob rfl rfl ?_) (obs_cons rfl rfl (hob rfl rfl ?_) obs_nil)))))))))))))))))))))))))))))))) ?_
        · -- 0
          intro v1693 e1694
          have hw27 : Ext w v1693 := hw26.trans e1694
          refine deps_nil ?_
          refine wl_load rfl rfl (load_agg aggInt (((((((((((hb1190.ext (e1194.trans (e1206.trans e1212))).updN u1219 (by omega)).updN u1224 (by omega)).ext (e1229.trans (e1236.trans e1242))).updN u1249 (by omega)).updN u1254 (by omega)).ext (e1257.trans e1263)).updN u1270 (by omega)).ext (e1273.trans (e1276.trans e1281))).updN u1288 (by omega)).ext (e1564.trans e1694)) [.bool s1170, .slice A1170 n1170 c1170] rfl (Nat.le_of_ble_eq_true rfl) rfl) (by decide) ?_
          exact pi_done rfl (Ext.refl _) rfl
        · -- 1
          intro v1695 e1696
          have hw27 : Ext w v1695 := hw26.trans e1696
          refine deps_nil ?_
          refine wl_load rfl rfl (load_agg aggInt ((((((((((((((hb9.ext (e13.trans (e1166.trans (e1173.trans e1179)))).updN u1186 (by omega)).updN u1191 (by omega)).ext (e1194.trans (e1206.trans e1212))).updN u1219 (by omega)).updN u1224 (by omega)).ext (e1229.trans (e1236.trans e1242))).updN u1249 (by omega)).updN u1254 (by omega)).ext (e1257.trans e1263)).updN u1270 (by omega)).ext (e1273.trans (e1276.trans e1281))).updN u1288 (by omega)).ext (e1564.trans e1696)) [.bool sb, .slice Ab nb cb] rfl (Nat.le_of_ble_eq_true rfl) rfl) (by decide) ?_
          exact pi_done rfl (Ext.refl _) rfl
        · -- 2
          intro v1697 e1698
          have hw27 : Ext w v1697 := hw26.trans e1698
          refine deps_cons rfl rfl fun x1699 y1700 h1701 e1702 f1703 => ?_
          obtain rfl := h1701
          refine deps_cons rfl rfl fun x1704 y1705 h1706 e1707 f1708 => ?_
          obtain rfl := h1706
          refine deps_nil ?_
          refine wl_call rfl rfl (vs := [.agg #[.bool s1170, .slice A1170 n1170 c1170], .agg #[.bool sb, .slice Ab nb cb]]) (by kernel_rfl) (by decide) (g_zint_CmpAbs ((((((((((((((z1170.ext (e1173.trans e1179)).updT hb1184 u1186).updT hb1189 u1191).ext (e1194.trans (e1206.trans e1212))).updT hb1217 u1219).updT hb1222 u1224).ext (e1229.trans (e1236.trans e1242))).updT hb1247 u1249).updT hb1252 u1254).ext (e1257.trans e1263)).updT hb1268 u1270).ext (e1273.trans (e1276.trans e1281))).updT hb1286 u1288).ext (e1564.trans e1698)).zi (z1170.le (Nat.le_trans L1164 (by decide))) (hy.ext hw27) (Nat.le_trans lb (by decide))) ?_
          rintro _ v1709 ⟨xr1711, rfl, r1711, e1710⟩
          refine ret_intro ?_
          have hw28 : Ext w v1709 := hw27.trans e1710
          obtain rfl := r1711
          exact pi_done rfl e1710 rfl
        · -- 3
          intro v1712 e1713
          have hw27 : Ext w v1712 := hw26.trans e1713
          refine deps_cons rfl rfl fun x1714 y1715 h1716 e1717 f1718 => ?_
          obtain rfl := h1716
          refine deps_nil ?_
          refine wl_cmp rfl rfl rfl false (cmp3_ge5 (tmod_abs h0)) (by decide) ?_
          exact pi_done rfl (Ext.refl _) rfl
        · -- 4
          intro v1719 e1720
          have hw27 : Ext w v1719 := hw26.trans e1720
          refine deps_cons rfl rfl fun x1721 y1722 h1723 e1724 f1725 => ?_
          obtain rfl := h1723
          refine deps_nil ?_
          refine wl_move rfl rfl (by decide) ?_
          exact pi_done rfl (Ext.refl _) rfl
        · -- 5
          intro v1726 e1727
          have hw27 : Ext w v1726 := hw26.trans e1727
          refine deps_cons rfl rfl fun x1728 y1729 h1730 e1731 f1732 => ?_
          obtain rfl := h1730
          refine deps_nil ?_
          refine wl_load rfl rfl (load_agg aggInt (((((((((((hb1190.ext (e1194.trans (e1206.trans e1212))).updN u1219 (by omega)).updN u1224 (by omega)).ext (e1229.trans (e1236.trans e1242))).updN u1249 (by omega)).updN u1254 (by omega)).ext (e1257.trans e1263)).updN u1270 (by omega)).ext (e1273.trans (e1276.trans e1281))).updN u1288 (by omega)).ext (e1564.trans e1727)) [.bool s1170, .slice A1170 n1170 c1170] rfl (Nat.le_of_ble_eq_true rfl) rfl) (by decide) ?_
          exact pi_done rfl (Ext.refl _) rfl
        · -- 6
          intro v1733 e1734
          have hw27 : Ext w v1733 := hw26.trans e1734
          refine deps_cons rfl rfl fun x1735 y1736 h1737 e1738 f1739 => ?_
          obtain rfl := h1737
          refine deps_cons rfl rfl fun x1740 y1741 h1742 e1743 f1744 => ?_
          obtain rfl := h1742
          refine deps_nil ?_
          refine wl_call rfl rfl (vs := [.agg #[.bool s1170, .slice A1170 n1170 c1170]]) (by kernel_rfl) (by decide) (g_zint_Sign ((((((((((((((z1170.ext (e1173.trans e1179)).updT hb1184 u1186).updT hb1189 u1191).ext (e1194.trans (e1206.trans e1212))).updT hb1217 u1219).updT hb1222 u1224).ext (e1229.trans (e1236.trans e1242))).updT hb1247 u1249).updT hb1252 u1254).ext (e1257.trans e1263)).updT hb1268 u1270).ext (e1273.trans (e1276.trans e1281))).updT hb1286 u1288).ext (e1564.trans e1734)).zi (z1170.le (Nat.le_trans L1164 (by decide)))) ?_
          rintro _ v1745 ⟨xr1747, rfl, r1747, e1746⟩
          refine ret_intro ?_
          have hw28 : Ext w v1745 := hw27.trans e1746
          obtain rfl := r1747
          exact pi_done rfl e1746 rfl
        · -- 7
          intro v1748 e1749
          have hw27 : Ext w v1748 := hw26.trans e1749
          refine deps_cons rfl rfl fun x1750 y1751 h1752 e1753 f1754 => ?_
          obtain rfl := h1752
          refine deps_nil ?_
          refine wl_load rfl rfl (load_agg aggInt ((((((((((((((hb4.ext (e8.trans (e13.trans (e1166.trans (e1173.trans e1179))))).updN u1186 (by omega)).updN u1191 (by omega)).ext (e1194.trans (e1206.trans e1212))).updN u1219 (by omega)).updN u1224 (by omega)).ext (e1229.trans (e1236.trans e1242))).updN u1249 (by omega)).updN u1254 (by omega)).ext (e1257.trans e1263)).updN u1270 (by omega)).ext (e1273.trans (e1276.trans e1281))).updN u1288 (by omega)).ext (e1564.trans e1749)) [.bool sa, .slice Aa na ca] rfl (Nat.le_of_ble_eq_true rfl) rfl) (by decide) ?_
          exact pi_done rfl (Ext.refl _) rfl
        · -- 8
          intro v1755 e1756
          have hw27 : Ext w v1755 := hw26.trans e1756
          refine deps_cons rfl rfl fun x1757 y1758 h1759 e1760 f1761 => ?_
          obtain rfl := h1759
          refine deps_cons rfl rfl fun x1762 y1763 h1764 e1765 f1766 => ?_
          obtain rfl := h1764
          refine deps_nil ?_
          refine wl_call rfl rfl (vs := [.agg #[.bool sa, .slice Aa na ca]]) (by kernel_rfl) (by decide) (g_zint_Sign (hx.ext hw27) (Nat.le_trans la (by decide))) ?_
          rintro _ v1767 ⟨xr1769, rfl, r1769, e1768⟩
          refine ret_intro ?_
          have hw28 : Ext w v1767 := hw27.trans e1768
          obtain rfl := r1769
          exact pi_done rfl e1768 rfl
        · -- 9
          intro v1770 e1771
          have hw27 : Ext w v1770 := hw26.trans e1771
          refine deps_cons rfl rfl fun x1772 y1773 h1774 e1775 f1776 => ?_
          obtain rfl := h1774
          refine deps_cons rfl rfl fun x1777 y1778 h1779 e1780 f1781 => ?_
          obtain rfl := h1779
          refine deps_cons rfl rfl fun x1782 y1783 h1784 e1785 f1786 => ?_
          obtain rfl := h1784
          refine deps_nil ?_
          refine wl_ar rfl rfl rfl (scmp (x.tmod y) 0 * scmp x 0) (ar_i64m rfl (by have := scmp_mul_bd (x.tmod y) 0 x 0; omega) (by have := scmp_mul_bd (x.tmod y) 0 x 0; omega)) (by decide) ?_
          exact pi_done rfl (Ext.refl _) rfl
        · -- 10
          intro v1787 e1788
          have hw27 : Ext w v1787 := hw26.trans e1788
          refine deps_cons rfl rfl fun x1789 y1790 h1791 e1792 f1793 => ?_
          obtain rfl := h1791
          refine deps_cons rfl rfl fun x1794 y1795 h1796 e1797 f1798 => ?_
          obtain rfl := h1796
          refine deps_nil ?_
          refine wl_cmp rfl rfl rfl false (lt_f (tm_sgn x y)) (by decide) ?_
          exact pi_done rfl (Ext.refl _) rfl
        · -- 11
          intro v1799 e1800
          have hw27 : Ext w v1799 := hw26.trans e1800
          refine deps_cons rfl rfl fun x1801 y1802 h1803 e1804 f1805 => ?_
          obtain rfl := h1803
          refine deps_cons rfl rfl fun x1806 y1807 h1808 e1809 f1810 => ?_
          obtain rfl := h1808
          refine deps_nil ?_
          refine wl_pure rfl rfl (v := .bool false) (by decide) (by kernel_rfl) ?_
          exact pi_done rfl (Ext.refl _) rfl
        · -- 12
          intro v1811 e1812
          have hw27 : Ext w v1811 := hw26.trans e1812
          refine deps_cons rfl rfl fun x1813 y1814 h1815 e1816 f1817 => ?_
          obtain rfl := h1815
          refine deps_nil ?_
          refine wl_move rfl rfl (by decide) ?_
          exact pi_done rfl (Ext.refl _) rfl
        · -- 13
          intro v1818 e1819
          have hw27 : Ext w v1818 := hw26.trans e1819
          refine deps_cons rfl rfl fun x1820 y1821 h1822 e1823 f1824 => ?_
          obtain rfl := h1822
          refine deps_nil ?_
          refine wl_load rfl rfl (load_agg aggInt ((((((((hb1223.ext (e1229.trans (e1236.trans e1242))).updN u1249 (by omega)).updN u1254 (by omega)).ext (e1257.trans e1263)).updN u1270 (by omega)).ext (e1273.trans (e1276.trans e1281))).updN u1288 (by omega)).ext (e1564.trans e1819)) [.bool s1203, .slice A1203 n1203 c1203] rfl (Nat.le_of_ble_eq_true rfl) rfl) (by decide) ?_
          exact pi_done rfl (Ext.refl _) rfl
        · -- 14
          intro v1825 e1826
          have hw27 : Ext w v1825 := hw26.trans e1826
          refine deps_cons rfl rfl fun x1827 y1828 h1829 e1830 f1831 => ?_
          obtain rfl := h1829
          refine deps_nil ?_
          refine wl_load rfl rfl (load_agg aggInt ((((((((((((((hb9.ext (e13.trans (e1166.trans (e1173.trans e1179)))).updN u1186 (by omega)).updN u1191 (by omega)).ext (e1194.trans (e1206.trans e1212))).updN u1219 (by omega)).updN u1224 (by omega)).ext (e1229.trans (e1236.trans e1242))).updN u1249 (by omega)).updN u1254 (by omega)).ext (e1257.trans e1263)).updN u1270 (by omega)).ext (e1273.trans (e1276.trans e1281))).updN u1288 (by omega)).ext (e1564.trans e1826)) [.bool sb, .slice Ab nb cb] rfl (Nat.le_of_ble_eq_true rfl) rfl) (by decide) ?_
          exact pi_done rfl (Ext.refl _) rfl
        · -- 15
          intro v1832 e1833
          have hw27 : Ext w v1832 := hw26.trans e1833
          refine deps_cons rfl rfl fun x1834 y1835 h1836 e1837 f1838 => ?_
          obtain rfl := h1836
          refine deps_cons rfl rfl fun x1839 y1840 h1841 e1842 f1843 => ?_
          obtain rfl := h1841
          refine deps_cons rfl rfl fun x1844 y1845 h1846 e1847 f1848 => ?_
          obtain rfl := h1846
          refine deps_nil ?_
          refine wl_call rfl rfl (vs := [.agg #[.bool s1203, .slice A1203 n1203 c1203], .agg #[.bool sb, .slice Ab nb cb]]) (by kernel_rfl) (by decide) (g_zint_CmpAbs (((((((((((z1203.ext (e1206.trans e1212)).updT hb1217 u1219).updT hb1222 u1224).ext (e1229.trans (e1236.trans e1242))).updT hb1247 u1249).updT hb1252 u1254).ext (e1257.trans e1263)).updT hb1268 u1270).ext (e1273.trans (e1276.trans e1281))).updT hb1286 u1288).ext (e1564.trans e1833)).zi (z1203.le (Nat.le_trans L1200 (by decide))) (hy.ext hw27) (Nat.le_trans lb (by decide))) ?_
          rintro _ v1849 ⟨xr1851, rfl, r1851, e1850⟩
          refine ret_intro ?_
          have hw28 : Ext w v1849 := hw27.trans e1850
          obtain rfl := r1851
          exact pi_done rfl e1850 rfl
        · -- 16
          intro v1852 e1853
          have hw27 : Ext w v1852 := hw26.trans e1853
          refine deps_cons rfl rfl fun x1854 y1855 h1856 e1857 f1858 => ?_
          obtain rfl := h1856
          refine deps_cons rfl rfl fun x1859 y1860 h1861 e1862 f1863 => ?_
          obtain rfl := h1861
          refine deps_nil ?_
          refine wl_cmp rfl rfl rfl false (cmp3_ge5 (flo_abs p1198 h0)) (by decide) ?_
          exact pi_done rfl (Ext.refl _) rfl
        · -- 17
          intro v1864 e1865
          have hw27 : Ext w v1864 := hw26.trans e1865
          refine deps_cons rfl rfl fun x1866 y1867 h1868 e1869 f1870 => ?_
          obtain rfl := h1868
          refine deps_cons rfl rfl fun x1871 y1872 h1873 e1874 f1875 => ?_
          obtain rfl := h1873
          refine deps_nil ?_
          refine wl_pure rfl rfl (v := .bool false) (by decide) (by kernel_rfl) ?_
          exact pi_done rfl (Ext.refl _) rfl
        · -- 18
          intro v1876 e1877
          have hw27 : Ext w v1876 := hw26.trans e1877
          refine deps_cons rfl rfl fun x1878 y1879 h1880 e1881 f1882 => ?_
          obtain rfl := h1880
          refine deps_nil ?_
          refine wl_move rfl rfl (by decide) ?_
          exact pi_done rfl (Ext.refl _) rfl
        · -- 19
          intro v1883 e1884
          have hw27 : Ext w v1883 := hw26.trans e1884
          refine deps_cons rfl rfl fun x1885 y1886 h1887 e1888 f1889 => ?_
          obtain rfl := h1887
          refine deps_nil ?_
          refine wl_load rfl rfl (load_agg aggInt ((((((((hb1223.ext (e1229.trans (e1236.trans e1242))).updN u1249 (by omega)).updN u1254 (by omega)).ext (e1257.trans e1263)).updN u1270 (by omega)).ext (e1273.trans (e1276.trans e1281))).updN u1288 (by omega)).ext (e1564.trans e1884)) [.bool s1203, .slice A1203 n1203 c1203] rfl (Nat.le_of_ble_eq_true rfl) rfl) (by decide) ?_
          exact pi_done rfl (Ext.refl _) rfl
        · -- 20
          intro v1890 e1891
          have hw27 : Ext w v1890 := hw26.trans e1891
          refine deps_cons rfl rfl fun x1892 y1893 h1894 e1895 f1896 => ?_
          obtain rfl := h1894
          refine deps_cons rfl rfl fun x1897 y1898 h1899 e1900 f1901 => ?_
          obtain rfl := h1899
          refine deps_nil ?_
          refine wl_call rfl rfl (vs := [.agg #[.bool s1203, .slice A1203 n1203 c1203]]) (by kernel_rfl) (by decide) (g_zint_Sign (((((((((((z1203.ext (e1206.trans e1212)).updT hb1217 u1219).updT hb1222 u1224).ext (e1229.trans (e1236.trans e1242))).updT hb1247 u1249).updT hb1252 u1254).ext (e1257.trans e1263)).updT hb1268 u1270).ext (e1273.trans (e1276.trans e1281))).updT hb1286 u1288).ext (e1564.trans e1891)).zi (z1203.le (Nat.le_trans L1200 (by decide)))) ?_
          rintro _ v1902 ⟨xr1904, rfl, r1904, e1903⟩
          refine ret_intro ?_
          have hw28 : Ext w v1902 := hw27.trans e1903
          obtain rfl := r1904
          exact pi_done rfl e1903 rfl
        · -- 21
          intro v1905 e1906
          have hw27 : Ext w v1905 := hw26.trans e1906
          refine deps_cons rfl rfl fun x1907 y1908 h1909 e1910 f1911 => ?_
          obtain rfl := h1909
          refine deps_nil ?_
          refine wl_load rfl rfl (load_agg aggInt ((((((((((((((hb9.ext (e13.trans (e1166.trans (e1173.trans e1179)))).updN u1186 (by omega)).updN u1191 (by omega)).ext (e1194.trans (e1206.trans e1212))).updN u1219 (by omega)).updN u1224 (by omega)).ext (e1229.trans (e1236.trans e1242))).updN u1249 (by omega)).updN u1254 (by omega)).ext (e1257.trans e1263)).updN u1270 (by omega)).ext (e1273.trans (e1276.trans e1281))).updN u1288 (by omega)).ext (e1564.trans e1906)) [.bool sb, .slice Ab nb cb] rfl (Nat.le_of_ble_eq_true rfl) rfl) (by decide) ?_
          exact pi_done rfl (Ext.refl _) rfl
        · -- 22
          intro v1912 e1913
          have hw27 : Ext w v1912 := hw26.trans e1913
          refine deps_cons rfl rfl fun x1914 y1915 h1916 e1917 f1918 => ?_
          obtain rfl := h1916
          refine deps_cons rfl rfl fun x1919 y1920 h1921 e1922 f1923 => ?_
          obtain rfl := h1921
          refine deps_nil ?_
          refine wl_call rfl rfl (vs := [.agg #[.bool sb, .slice Ab nb cb]]) (by kernel_rfl) (by decide) (g_zint_Sign (hy.ext hw27) (Nat.le_trans lb (by decide))) ?_
          rintro _ v1924 ⟨xr1926, rfl, r1926, e1925⟩
          refine ret_intro ?_
          have hw28 : Ext w v1924 := hw27.trans e1925
          obtain rfl := r1926
          exact pi_done rfl e1925 rfl
        · -- 23
          intro v1927 e1928
          have hw27 : Ext w v1927 := hw26.trans e1928
          refine deps_cons rfl rfl fun x1929 y1930 h1931 e1932 f1933 => ?_
          obtain rfl := h1931
          refine deps_cons rfl rfl fun x1934 y1935 h1936 e1937 f1938 => ?_
          obtain rfl := h1936
          refine deps_cons rfl rfl fun x1939 y1940 h1941 e1942 f1943 => ?_
          obtain rfl := h1941
          refine deps_nil ?_
          refine wl_ar rfl rfl rfl (scmp r1197 0 * scmp y 0) (ar_i64m rfl (by have := scmp_mul_bd r1197 0 y 0; omega) (by have := scmp_mul_bd r1197 0 y 0; omega)) (by decide) ?_
          exact pi_done rfl (Ext.refl _) rfl
        · -- 24
          intro v1944 e1945
          have hw27 : Ext w v1944 := hw26.trans e1945
          refine deps_cons rfl rfl fun x1946 y1947 h1948 e1949 f1950 => ?_
          obtain rfl := h1948
          refine deps_cons rfl rfl fun x1951 y1952 h1953 e1954 f1955 => ?_
          obtain rfl := h1953
          refine deps_nil ?_
          refine wl_cmp rfl rfl rfl false (lt_f (flo_sgn p1198 h0)) (by decide) ?_
          exact pi_done rfl (Ext.refl _) rfl
        · -- 25
          intro v1956 e1957
          have hw27 : Ext w v1956 := hw26.trans e1957
          refine deps_cons rfl rfl fun x1958 y1959 h1960 e1961 f1962 => ?_
          obtain rfl := h1960
          refine deps_cons rfl rfl fun x1963 y1964 h1965 e1966 f1967 => ?_
          obtain rfl := h1965
          refine deps_nil ?_
          refine wl_pure rfl rfl (v := .bool false) (by decide) (by kernel_rfl) ?_
          exact pi_done rfl (Ext.refl _) rfl
        · -- 26
          intro v1968 e1969
          have hw27 : Ext w v1968 := hw26.trans e1969
          refine deps_cons rfl rfl fun x1970 y1971 h1972 e1973 f1974 => ?_
          obtain rfl := h1972
          refine deps_nil ?_
          refine wl_move rfl rfl (by decide) ?_
          exact pi_done rfl (Ext.refl _) rfl
        · -- 27
          intro v1975 e1976
          have hw27 : Ext w v1975 := hw26.trans e1976
          refine deps_cons rfl rfl fun x1977 y1978 h1979 e1980 f1981 => ?_
          obtain rfl := h1979
          refine deps_nil ?_
          refine wl_load rfl rfl (load_agg aggInt (((((hb1253.ext (e1257.trans e1263)).updN u1270 (by omega)).ext (e1273.trans (e1276.trans e1281))).updN u1288 (by omega)).ext (e1564.trans e1976)) [.bool s1233, .slice A1233 n1233 c1233] rfl (Nat.le_of_ble_eq_true rfl) rfl) (by decide) ?_
          exact pi_done rfl (Ext.refl _) rfl
        · -- 28
          intro v1982 e1983
          have hw27 : Ext w v1982 := hw26.trans e1983
          refine deps_cons rfl rfl fun x1984 y1985 h1986 e1987 f1988 => ?_
          obtain rfl := h1986
          refine deps_nil ?_
          refine wl_load rfl rfl (load_agg aggInt ((((((((((((((hb9.ext (e13.trans (e1166.trans (e1173.trans e1179)))).updN u1186 (by omega)).updN u1191 (by omega)).ext (e1194.trans (e1206.trans e1212))).updN u1219 (by omega)).updN u1224 (by omega)).ext (e1229.trans (e1236.trans e1242))).updN u1249 (by omega)).updN u1254 (by omega)).ext (e1257.trans e1263)).updN u1270 (by omega)).ext (e1273.trans (e1276.trans e1281))).updN u1288 (by omega)).ext (e1564.trans e1983)) [.bool sb, .slice Ab nb cb] rfl (Nat.le_of_ble_eq_true rfl) rfl) (by decide) ?_
          exact pi_done rfl (Ext.refl _) rfl
        · -- 29
          intro v1989 e1990
          have hw27 : Ext w v1989 := hw26.trans e1990
          refine deps_cons rfl rfl fun x1991 y1992 h1993 e1994 f1995 => ?_
          obtain rfl := h1993
          refine deps_cons rfl rfl fun x1996 y1997 h1998 e1999 f2000 => ?_
          obtain rfl := h1998
          refine deps_cons rfl rfl fun x2001 y2002 h2003 e2004 f2005 => ?_
          obtain rfl := h2003
          refine deps_nil ?_
          refine wl_call rfl rfl (vs := [.agg #[.bool s1233, .slice A1233 n1233 c1233], .agg #[.bool sb, .slice Ab nb cb]]) (by kernel_rfl) (by decide) (g_law5_within ((((((((z1233.ext (e1236.trans e1242)).updT hb1247 u1249).updT hb1252 u1254).ext (e1257.trans e1263)).updT hb1268 u1270).ext (e1273.trans (e1276.trans e1281))).updT hb1286 u1288).ext (e1564.trans e1990)).zi (z1233.le (Nat.le_trans L1227 (by decide))) (hy.ext hw27) (Nat.le_trans lb (by decide)) (emod_inD h0).1 (emod_inD h0).2) ?_
          rintro _ v2006 ⟨xr2008, rfl, r2008, e2007⟩
          refine ret_intro ?_
          have hw28 : Ext w v2006 := hw27.trans e2007
          obtain rfl := r2008
          exact pi_done rfl e2007 rfl
        · -- 30
          intro v2009 e2010
          have hw27 : Ext w v2009 := hw26.trans e2010
          refine deps_cons rfl rfl fun x2011 y2012 h2013 e2014 f2015 => ?_
          obtain rfl := h2013
          refine deps_cons rfl rfl fun x2016 y2017 h2018 e2019 f2020 => ?_
          obtain rfl := h2018
          refine deps_nil ?_
          refine wl_pure rfl rfl (v := .bool false) (by decide) (by kernel_rfl) ?_
          exact pi_done rfl (Ext.refl _) rfl
        · -- 31
          intro v2021 e2022
          have hw27 : Ext w v2021 := hw26.trans e2022
          refine deps_cons rfl rfl fun x2023 y2024 h2025 e2026 f2027 => ?_
          obtain rfl := h2025
          refine deps_cons rfl rfl fun x2028 y2029 h2030 e2031 f2032 => ?_
          obtain rfl := h2030
          refine deps_nil ?_
          refine wl_pure rfl rfl (v := .bool false) (by decide) (by kernel_rfl) ?_
          exact pi_done rfl (Ext.refl _) rfl
        · -- all
          intro v2033 e2034
          have hw27 : Ext w v2033 := hw26.trans e2034
          refine deps_cons rfl rfl fun x2035 y2036 h2037 e2038 f2039 => ?_
          obtain rfl := h2037
          refine deps_cons rfl rfl fun x2040 y2041 h2042 e2043 f2044 => ?_
          obtain rfl := h2042
          refine deps_cons rfl rfl fun x2045 y2046 h2047 e2048 f2049 => ?_
          obtain rfl := h2047
          refine deps_cons rfl rfl fun x2050 y2051 h2052 e2053 f2054 => ?_
          obtain rfl := h2052
          refine deps_cons rfl rfl fun x2055 y2056 h2057 e2058 f2059 => ?_
          obtain rfl := h2057
          refine deps_cons rfl rfl fun x2060 y2061 h2062 e2063 f2064 => ?_
          obtain rfl := h2062
          refine deps_cons rfl rfl fun x2065 y2066 h2067 e2068 f2069 => ?_
          obtain rfl := h2067
          refine deps_cons rfl rfl fun x2070 y2071 h2072 e2073 f2074 => ?_
          obtain rfl := h2072
          refine deps_cons rfl rfl fun x2075 y2076 h2077 e2078 f2079 => ?_
          obtain rfl := h2077
          refine deps_cons rfl rfl fun x2080 y2081 h2082 e2083 f2084 => ?_
          obtain rfl := h2082
          refine deps_cons rfl rfl fun x2085 y2086 h2087 e2088 f2089 => ?_
          obtain rfl := h2087
          refine deps_cons rfl rfl fun x2090 y2091 h2092 e2093 f2094 => ?_
          obtain rfl := h2092
          refine deps_cons rfl rfl fun x2095 y2096 h2097 e2098 f2099 => ?_
          obtain rfl := h2097
          refine deps_cons rfl rfl fun x2100 y2101 h2102 e2103 f2104 => ?_
          obtain rfl := h2102
          refine deps_cons rfl rfl fun x2105 y2106 h2107 e2108 f2109 => ?_
          obtain rfl := h2107
          refine deps_cons rfl rfl fun x2110 y2111 h2112 e2113 f2114 => ?_
          obtain rfl := h2112
          refine deps_cons rfl rfl fun x2115 y2116 h2117 e2118 f2119 => ?_
          obtain rfl := h2117
          refine deps_cons rfl rfl fun x2120 y2121 h2122 e2123 f2124 => ?_
          obtain rfl := h2122
          refine deps_cons rfl rfl fun x2125 y2126 h2127 e2128 f2129 => ?_
          obtain rfl := h2127
          refine deps_cons rfl rfl fun x2130 y2131 h2132 e2133 f2134 => ?_
          obtain rfl := h2132
          refine deps_cons rfl rfl fun x2135 y2136 h2137 e2138 f2139 => ?_
          obtain rfl := h2137
          refine deps_cons rfl rfl fun x2140 y2141 h2142 e2143 f2144 => ?_
          obtain rfl := h2142
          refine deps_cons rfl rfl fun x2145 y2146 h2147 e2148 f2149 => ?_
          obtain rfl := h2147
          refine deps_cons rfl rfl fun x2150 y2151 h2152 e2153 f2154 => ?_
          obtain rfl := h2152
          refine deps_cons rfl rfl fun x2155 y2156 h2157 e2158 f2159 => ?_
          obtain rfl := h2157
          refine deps_cons rfl rfl fun x2160 y2161 h2162 e2163 f2164 => ?_
          obtain rfl := h2162
          refine deps_cons rfl rfl fun x2165 y2166 h2167 e2168 f2169 => ?_
          obtain rfl := h2167
          refine deps_cons rfl rfl fun x2170 y2171 h2172 e2173 f2174 => ?_
          obtain rfl := h2172
          refine deps_cons rfl rfl fun x2175 y2176 h2177 e2178 f2179 => ?_
          obtain rfl := h2177
          refine deps_cons rfl rfl fun x2180 y2181 h2182 e2183 f2184 => ?_
          obtain rfl := h2182
          refine deps_cons rfl rfl fun x2185 y2186 h2187 e2188 f2189 => ?_
          obtain rfl := h2187
          refine deps_cons rfl rfl fun x2190 y2191 h2192 e2193 f2194 => ?_
          obtain rfl := h2192
          refine deps_nil ?_
          refine wl_nil ?_
          refine eo_np ?_
          refine eo_then ?_
          refine cw_false rfl ?_
          refine cw_skip ?_
          refine eo_then ?_
          refine cw_seq ?_
          refine cw_seq ?_
          refine cw_region ?_
          refine wl_load rfl rfl (load_agg aggInt (((((((((((hb1190.ext (e1194.trans (e1206.trans e1212))).updN u1219 (by omega)).updN u1224 (by omega)).ext (e1229.trans (e1236.trans e1242))).updN u1249 (by omega)).updN u1254 (by omega)).ext (e1257.trans e1263)).updN u1270 (by omega)).ext (e1273.trans (e1276.trans e1281))).updN u1288 (by omega)).ext (e1564.trans e2034)) [.bool s1170, .slice A1170 n1170 c1170] rfl (Nat.le_of_ble_eq_true rfl) rfl) (by decide) ?_
          refine wl_call rfl rfl (vs := [.agg #[.bool s1170, .slice A1170 n1170 c1170]]) (by kernel_rfl) (by decide) (g_zint_Sign ((((((((((((((z1170.ext (e1173.trans e1179)).updT hb1184 u1186).updT hb1189 u1191).ext (e1194.trans (e1206.trans e1212))).updT hb1217 u1219).updT hb1222 u1224).ext (e1229.trans (e1236.trans e1242))).updT hb1247 u1249).updT hb1252 u1254).ext (e1257.trans e1263)).updT hb1268 u1270).ext (e1273.trans (e1276.trans e1281))).updT hb1286 u1288).ext (e1564.trans e2034)).zi (z1170.le (Nat.le_trans L1164 (by decide)))) ?_
          rintro _ v2195 ⟨xr2197, rfl, r2197, e2196⟩
          refine ret_intro ?_
          have hw28 : Ext w v2195 := hw27.trans e2196
          obtain rfl := r2197
          refine wl_cmp rfl rfl rfl true (scmp_ne_t ht) (by decide) ?_
          refine wl_nil ?_
          refine eo_then ?_
          refine cw_true rfl ?_
          refine cw_seq ?_
          refine cw_region ?_
          refine wl_load rfl rfl (load_agg aggInt ((((((((hb1223.ext (e1229.trans (e1236.trans e1242))).updN u1249 (by omega)).updN u1254 (by omega)).ext (e1257.trans e1263)).updN u1270 (by omega)).ext (e1273.trans (e1276.trans e1281))).updN u1288 (by omega)).ext (e1564.trans (e2034.trans e2196))) [.bool s1203, .slice A1203 n1203 c1203] rfl (Nat.le_of_ble_eq_true rfl) rfl) (by decide) ?_
          refine wl_call rfl rfl (vs := [.agg #[.bool s1203, .slice A1203 n1203 c1203]]) (by kernel_rfl) (by decide) (g_zint_Sign (((((((((((z1203.ext (e1206.trans e1212)).updT hb1217 u1219).updT hb1222 u1224).ext (e1229.trans (e1236.trans e1242))).updT hb1247 u1249).updT hb1252 u1254).ext (e1257.trans e1263)).updT hb1268 u1270).ext (e1273.trans (e1276.trans e1281))).updT hb1286 u1288).ext (e1564.trans (e2034.trans e2196))).zi (z1203.le (Nat.le_trans L1200 (by decide)))) ?_
          rintro _ v2198 ⟨xr2200, rfl, r2200, e2199⟩
          refine ret_intro ?_
          have hw29 : Ext w v2198 := hw28.trans e2199
          obtain rfl := r2200
          refine wl_cmp rfl rfl rfl true (scmp_ne_t (flo_rest5 p1198 ht)) (by decide) ?_
          refine wl_move rfl rfl (by decide) ?_
          refine wl_load rfl rfl (load_agg aggInt (((((hb1253.ext (e1257.trans e1263)).updN u1270 (by omega)).ext (e1273.trans (e1276.trans e1281))).updN u1288 (by omega)).ext (e1564.trans (e2034.trans (e2196.trans e2199)))) [.bool s1233, .slice A1233 n1233 c1233] rfl (Nat.le_of_ble_eq_true rfl) rfl) (by decide) ?_
          refine wl_call rfl rfl (vs := [.agg #[.bool s1233, .slice A1233 n1233 c1233]]) (by kernel_rfl) (by decide) (g_zint_Sign ((((((((z1233.ext (e1236.trans e1242)).updT hb1247 u1249).updT hb1252 u1254).ext (e1257.trans e1263)).updT hb1268 u1270).ext (e1273.trans (e1276.trans e1281))).updT hb1286 u1288).ext (e1564.trans (e2034.trans (e2196.trans e2199)))).zi (z1233.le (Nat.le_trans L1227 (by decide)))) ?_
          rintro _ v2201 ⟨xr2203, rfl, r2203, e2202⟩
          refine ret_intro ?_
          have hw30 : Ext w v2201 := hw29.trans e2202
          obtain rfl := r2203
          refine wl_cmp rfl rfl rfl true (scmp_ne_t (emod_rest5 ht)) (by decide) ?_
          refine wl_pure rfl rfl (v := .bool true) (by decide) (by kernel_rfl) ?_
          refine wl_move rfl rfl (by decide) ?_
          refine wl_move rfl rfl (by decide) ?_
          refine wl_cmp rfl rfl rfl true (by decide) (by decide) ?_
          refine wl_pure rfl rfl (v := .bool true) (by decide) (by kernel_rfl) ?_
          refine wl_move rfl rfl (by decide) ?_
          refine wl_load rfl rfl (load_agg aggInt (((hb1269.ext (e1273.trans (e1276.trans e1281))).updN u1288 (by omega)).ext (e1564.trans (e2034.trans (e2196.trans (e2199.trans e2202))))) [.bool s1260, .slice A1260 n1260 c1260] rfl (Nat.le_of_ble_eq_true rfl) rfl) (by decide) ?_
          refine wl_call rfl rfl (vs := [.agg #[.bool s1260, .slice A1260 n1260 c1260]]) (by kernel_rfl) (by decide) (g_zint_Sign (((((z1260.ext e1263).updT hb1268 u1270).ext (e1273.trans (e1276.trans e1281))).updT hb1286 u1288).ext (e1564.trans (e2034.trans (e2196.trans (e2199.trans e2202))))).zi (z1260.le (Nat.le_trans (by decide : ln 0 ≤ 0) (by decide)))) ?_
          rintro _ v2204 ⟨xr2206, rfl, r2206, e2205⟩
          refine ret_intro ?_
          have hw31 : Ext w v2204 := hw30.trans e2205
          obtain rfl := r2206
          refine wl_cmp rfl rfl rfl true (scmp_eq_t rfl) (by decide) ?_
          refine wl_pure rfl rfl (v := .bool true) (by decide) (by kernel_rfl) ?_
          refine wl_assign rfl rfl (by decide) ?_
          refine wl_nil ?_
          refine eo_then ?_
          refine cw_ret ?_
          refine eo_thenR ?_
          refine eo_ret [.bool true] rfl ⟨rfl, trivial⟩ ?_
          exact bool_of _ _ ⟨_, rfl, rfl, hw31⟩
end Go.Proofs.YtmjdmjflgiicaaaDoor
