/- Parts Ref4t, Ref4r, Law4o, Bookw, joined. -/
import Derived.Test.YtmjdmjflgiicaaaDoorQ3

namespace Go.Proofs.YtmjdmjflgiicaaaDoor
open Go.RowKit
theorem len_db16N {m N : Nat} (h : (wd m).length ≤ N) : (db 65536 m).length ≤ 4 * N := by
  refine len_db_le b16 ?_
  have h1 := lt_pow_len m
  refine Nat.lt_of_lt_of_le h1 ?_
  rw [WB_16, ← Nat.pow_mul]
  exact Nat.pow_le_pow_right (by decide) (by omega)
theorem len_db16w4 {m : Nat} (h : (wd m).length ≤ 1048576) : (db 65536 m).length ≤ 4194304 := len_db16N h
theorem nb_top_pos {l : List Nat} {n : Nat} (hn : 0 < n) (h : l.getD (n - 1) 0 ≠ 0) : nb 65536 l ≠ 0 := by
  have hl : n - 1 < l.length := by
    refine Nat.lt_of_not_le fun hle => h ?_
    rw [List.getD_eq_getElem?_getD, List.getElem?_eq_none hle]; rfl
  rw [nb_split 65536 l (n - 1) (by omega), List.drop_eq_getElem_cons hl, nb_cons]
  rw [List.getD_eq_getElem?_getD, List.getElem?_eq_getElem hl, Option.getD_some] at h
  have h3 : 65536 ^ (n - 1) * 1 ≤ 65536 ^ (n - 1) * (l[n - 1] + 65536 * nb 65536 (l.drop (n - 1 + 1))) := Nat.mul_le_mul_left _ (by omega)
  have h4 : 0 < 65536 ^ (n - 1) := Nat.pow_pos (by decide)
  omega
theorem rev_step {hi L : List Nat} {n i : Nat} (hl : hi.length = n) (hin : i < n) (h : ∀ j, j < i → hi.getD (n - 1 - j) 0 = L.getD j 0) : ∀ j, j < i + 1 → (hi.set (n - 1 - i) (L.getD i 0)).getD (n - 1 - j) 0 = L.getD j 0 := by
  intro j hj
  by_cases e : j = i
  · subst e
    simp [List.getD_eq_getElem?_getD, show n - 1 - j < hi.length by omega]
  · have h1 := h j (by omega)
    rw [List.getD_eq_getElem?_getD, List.getElem?_set_ne (by omega), ← List.getD_eq_getElem?_getD]
    exact h1
theorem rev_done {hi L : List Nat} {n : Nat} (hl : hi.length = n) (hL : L.length = n) (h : ∀ j, j < n → hi.getD (n - 1 - j) 0 = L.getD j 0) : hi = L.reverse := by
  refine List.ext_getElem (by rw [List.length_reverse]; omega) fun k h1 h2 => ?_
  have h3 := h (n - 1 - k) (by omega)
  rw [show n - 1 - (n - 1 - k) = k by omega, List.getD_eq_getElem?_getD, List.getElem?_eq_getElem h1, List.getD_eq_getElem?_getD, List.getElem?_eq_getElem (by omega)] at h3
  rw [List.getElem_reverse]
  simp only [Option.getD_some] at h3
  rw [h3]
  congr 1
  omega
theorem sgn_map_le {l : List Nat} {i : Nat} (h : ∀ d, d ∈ l → d < 36) : (l.map sgn).getD i 0 ≤ 255 := by
  by_cases hi : i < l.length
  · rw [List.getD_eq_getElem?_getD, List.getElem?_map, List.getElem?_eq_getElem hi]
    have := sgn_le (h _ (List.getElem_mem hi))
    simp only [Option.map_some, Option.getD_some]; omega
  · rw [List.getD_eq_getElem?_getD, List.getElem?_eq_none (by rw [List.length_map]; omega)]; exact Nat.zero_le _
set_option maxHeartbeats 4000000 in
theorem ref4_Text {w : World} {A : Option Addr} {an ac m : Nat} (hx : Wi w A an ac m) (hal : an ≤ 1048576) {base : Nat} (hbl : 2 ≤ base) (hbu : base ≤ 36) :
    Calls Tryd.prog 78 #[.slice A an ac, .int .i64 ((base : Nat) : Int)] w (Gv w (T2 (Is (.string (strB (txtN base m)))) (Is (.int .i64 0)))) := by
  have hml2 : (wd m).length ≤ 1048576 := Nat.le_trans hx.len hal
  have hdl := len_db_small hbl hml2
  refine sx_enter Tryd.func78 rfl (n := 72) rfl (Nat.le_of_ble_eq_true rfl) (args := [.slice A an ac, .int .i64 ((base : Nat) : Int)]) ?_
  refine cw_keep [(0, .slice A an ac), (1, .int .i64 ((base : Nat) : Int))] ⟨rfl, rfl, trivial⟩ ?_
  refine cw_seq ?_
  refine cw_region ?_
  refine wl_assign rfl rfl (by decide) ?_
  refine wl_assign rfl rfl (by decide) ?_
  refine wl_nil ?_
  refine eo_then ?_
  refine cw_seq ?_
  refine cw_seq ?_
  refine cw_region ?_
  refine wl_move rfl rfl (by decide) ?_
  refine wl_cmp rfl rfl rfl false (cb_lt_f (a := base) (b := 2) rfl rfl (by omega)) (by decide) ?_
  refine wl_move rfl rfl (by decide) ?_
  refine wl_move rfl rfl (by decide) ?_
  refine wl_cmp rfl rfl rfl false (cb_gt_f (a := base) (b := 36) rfl rfl (by omega)) (by decide) ?_
  refine wl_pure rfl rfl (v := .bool false) (by decide) (by kernel_rfl) ?_
  refine wl_nil ?_
  refine eo_then ?_
  refine cw_false rfl ?_
  refine cw_skip ?_
  refine eo_then ?_
  refine cw_seq ?_
  refine cw_region ?_
  refine wl_move rfl rfl (by decide) ?_
  refine wl_call rfl rfl (vs := [.slice A an ac]) (by kernel_rfl) (by decide) (g_split4 hx (by omega)) ?_
  rintro _ v1 ⟨xr3, rfl, r3, e2⟩
  refine ret_intro ?_
  have hw1 : Ext w v1 := (Ext.refl w).trans e2
  obtain ⟨A4, n4, c4, rfl, hl4, ho4⟩ := r3
  refine wl_assign rfl rfl (by decide) ?_
  refine wl_nil ?_
  refine eo_then ?_
  refine cw_seq ?_
  refine cw_region ?_
  refine wl_assign rfl rfl (by decide) ?_
  refine wl_nil ?_
  refine eo_then ?_
  refine cw_seq ?_
  refine cw_block ?_
  refine cw_loop (T := World × List Nat × List Nat × Option Addr × Nat × Nat × Option Addr × Nat × Nat)
    (fun ⟨wr, lds, l, DA, dn, dc, OA, on, oc⟩ => [(1, .int .i64 ((base : Nat) : Int)), (6, .slice DA dn dc), (7, .slice OA on oc)])
    (fun ⟨wr, lds, l, DA, dn, dc, OA, on, oc⟩ => wr)
    (fun ⟨wr, lds, l, DA, dn, dc, OA, on, oc⟩ => (Ext w wr) ∧ (Own wr w.heap.size 5 1 OA on oc ((lds.map sgn).map B8)) ∧ (Own wr w.heap.size 3 1 DA dn dc (l.map I6)) ∧ (Wfb 65536 l) ∧ (dn = 0 ∨ l.getD (dn - 1) 0 ≠ 0) ∧ (db base m = lds ++ db base (nb 65536 l)) ∧ (dn ≤ 1099511627776))
    (fun ⟨wr, lds, l, DA, dn, dc, OA, on, oc⟩ => nb 65536 l)
    (⟨v1, [], db 65536 m, A4, n4, c4, none, 0, 0⟩ : World × List Nat × List Nat × Option Addr × Nat × Nat × Option Addr × Nat × Nat) ⟨hw1, (Own.nil _ _ _ _), ho4, (Wfb_db b16 m), (by rw [← hl4]; exact db_top b16 m), (by rw [nb_db b16]; rfl), (by have := len_db16w4 hml2; omega)⟩ rfl ⟨rfl, rfl, rfl, trivial⟩ ?_
  rintro ⟨wr, lds, l, DA, dn, dc, OA, on, oc⟩ ⟨hw1, hO, hD, hwl, htop, hdb, hdn⟩
  refine cw_re [(1, .int .i64 ((base : Nat) : Int)), (6, .slice DA dn dc), (7, .slice OA on oc)] wr rfl ⟨rfl, rfl, rfl, trivial⟩ ?_
  have hll := own_len1 hD
  have hon := own_len1 hO
  rw [List.length_map] at hon
  have hll2 : lds.length ≤ (db base m).length := by rw [hdb, List.length_append]; omega
  refine cw_seq ?_
  refine cw_seq ?_
  by_cases hdn0 : dn > 0
  ·
    have hpos : nb 65536 l ≠ 0 := nb_top_pos (by omega) (htop.resolve_left (by omega))
    have hr36 : nb 65536 l % base < 36 := Nat.lt_of_lt_of_le (Nat.mod_lt _ (by omega)) hbu
    refine cw_region ?_
    refine wl_move rfl rfl (by decide) ?_
    refine wl_pure rfl rfl (v := .int .i64 ((dn : Nat) : Int)) (by decide) (by kernel_rfl) ?_
    refine wl_cmp rfl rfl rfl true (cb_gt_t (a := dn) (b := 0) rfl rfl (by omega)) (by decide) ?_
    refine wl_nil ?_
    refine eo_then ?_
    refine cw_true rfl ?_
    refine cw_skip ?_
    refine eo_then ?_
    refine cw_block ?_
    refine cw_seq ?_
    refine cw_region ?_
    refine wl_move rfl rfl (by decide) ?_
    refine wl_move rfl rfl (by decide) ?_
    have ow5 := hD
    refine wl_call rfl rfl (vs := [.slice DA dn dc, .int .i64 ((base : Nat) : Int)]) (by kernel_rfl) (by decide) (ref4_over ow5 hwl hbl hbu (by omega)) ?_
    rintro _ v6 ⟨es7, rfl, ho8, hl9, hwf10, hv11, uo12⟩
    refine ret_intro ?_
    have hw2 : Ext w v6 := uo12.ext hw1 (fun p hp => (ow5.block p hp).1)
    refine wl_assign rfl rfl (by decide) ?_
    refine wl_nil ?_
    refine eo_then ?_
    refine cw_seq ?_
    refine cw_region ?_
    refine wl_move rfl rfl (by decide) ?_
    refine wl_move rfl rfl (by decide) ?_
    refine wl_strix (bs := [48, 49, 50, 51, 52, 53, 54, 55, 56, 57, 97, 98, 99, 100, 101, 102, 103, 104, 105, 106, 107, 108, 109, 110, 111, 112, 113, 114, 115, 116, 117, 118, 119, 120, 121, 122]) (i := nb 65536 l % base) rfl rfl rfl Tryd.underlying9 (by decide) (by omega) (by decide) ?_
    refine wl_bslice rfl rfl (by decide) (k := 1) (e := 5) [.int .u8 ((([48, 49, 50, 51, 52, 53, 54, 55, 56, 57, 97, 98, 99, 100, 101, 102, 103, 104, 105, 106, 107, 108, 109, 110, 111, 112, 113, 114, 115, 116, 117, 118, 119, 120, 121, 122]).getD (nb 65536 l % base) 0 : Nat) : Int)] (fun _ => by kernel_rfl) fun g13 v14 nb => ?_
    have hb15 := nb.bk
    have e16 := nb.ext
    clear nb
    have hw3 : Ext w v14 := hw2.trans e16
    have ow17 := ((hO.updOT ow5 (by decide) uo12).ext e16)
    refine wl_app rfl rfl rfl un_u8 info8 rfl (by decide) (by decide) ow17 hw3.size [.int .u8 ((([48, 49, 50, 51, 52, 53, 54, 55, 56, 57, 97, 98, 99, 100, 101, 102, 103, 104, 105, 106, 107, 108, 109, 110, 111, 112, 113, 114, 115, 116, 117, 118, 119, 120, 121, 122]).getD (nb 65536 l % base) 0 : Nat) : Int)] rfl (one_news _ hb15) rfl (by omega) (by decide) fun A18 c19 v20 ho21 uo22 kp23 => ?_
    have hw4 : Ext w v20 := uo22.ext hw3 (fun p hp => (ow17.block p hp).1)
    have ho24 : Own v20 w.heap.size 5 1 A18 (on + 1) c19 (((lds.map sgn) ++ [([48, 49, 50, 51, 52, 53, 54, 55, 56, 57, 97, 98, 99, 100, 101, 102, 103, 104, 105, 106, 107, 108, 109, 110, 111, 112, 113, 114, 115, 116, 117, 118, 119, 120, 121, 122]).getD (nb 65536 l % base) 0]).map B8) := by have h := ho21; simp only [List.map_append, List.map_cons, List.map_nil] at h ⊢; exact h
    refine wl_assign rfl rfl (by decide) ?_
    refine wl_nil ?_
    refine eo_then ?_
    refine cw_block ?_
    refine cw_loop (T := World × Nat)
      (fun ⟨wr, k⟩ => [(1, .int .i64 ((base : Nat) : Int)), (6, .slice DA k dc), (7, .slice A18 (on + 1) c19)])
      (fun ⟨wr, k⟩ => wr)
      (fun ⟨wr, k⟩ => (Ext w wr) ∧ (Own wr w.heap.size 5 1 A18 (on + 1) c19 (((lds.map sgn) ++ [([48, 49, 50, 51, 52, 53, 54, 55, 56, 57, 97, 98, 99, 100, 101, 102, 103, 104, 105, 106, 107, 108, 109, 110, 111, 112, 113, 114, 115, 116, 117, 118, 119, 120, 121, 122]).getD (nb 65536 l % base) 0]).map B8)) ∧ (Own wr w.heap.size 3 1 DA k dc ((es7.take k).map I6)) ∧ (k ≤ dn) ∧ (nb 65536 (es7.take k) = nb 65536 es7))
      (fun ⟨wr, k⟩ => k)
      (⟨v20, dn⟩ : World × Nat) ⟨hw4, ho24, (by rw [List.take_of_length_le (by omega)]; exact ((ho8.ext e16).updOT ow17 (by decide) uo22)), (Nat.le_refl _), (by rw [List.take_of_length_le (by omega)])⟩ rfl ⟨rfl, rfl, rfl, trivial⟩ ?_
    rintro ⟨wr, k⟩ ⟨hw1, hO, hD, hk, hvk⟩
    refine cw_re [(1, .int .i64 ((base : Nat) : Int)), (6, .slice DA k dc), (7, .slice A18 (on + 1) c19)] wr rfl ⟨rfl, rfl, rfl, trivial⟩ ?_
    refine cw_seq ?_
    refine cw_seq ?_
    by_cases hk0 : k > 0
    ·
      by_cases hz8 : (es7.take k).getD (k - 1) 0 = 0
      ·
        refine cw_region ?_
        refine wl_move rfl rfl (by decide) ?_
        refine wl_pure rfl rfl (v := .int .i64 ((k : Nat) : Int)) (by decide) (by kernel_rfl) ?_
        refine wl_cmp rfl rfl rfl true (cb_gt_t (a := k) (b := 0) rfl rfl (by omega)) (by decide) ?_
        refine wl_move rfl rfl (by decide) ?_
        refine wl_move rfl rfl (by decide) ?_
        refine wl_move rfl rfl (by decide) ?_
        refine wl_pure rfl rfl (v := .int .i64 ((k : Nat) : Int)) (by decide) (by kernel_rfl) ?_
        refine wl_ar rfl rfl rfl ((k - 1 : Nat) : Int) (ai_sub (a := k) (b := 1) rfl rfl (by omega) (by omega)) (by decide) ?_
        obtain ⟨p25, hp25, hc25⟩ := (hD).at1 (i := k - 1) (by omega)
        refine wl_idx rfl rfl rfl un_int4 sz_int4 (k - 1) rfl (by omega) p25 hp25 (by decide) ?_
        refine wl_load rfl rfl (load_cell1 ag_int2 hc25) (by decide) ?_
        refine wl_cmp rfl rfl rfl true (cb_eq_t (a := (es7.take k).getD (k - 1) 0) (b := 0) rfl rfl (by omega)) (by decide) ?_
        refine wl_pure rfl rfl (v := .bool true) (by decide) (by kernel_rfl) ?_
        refine wl_nil ?_
        refine eo_then ?_
        refine cw_true rfl ?_
        refine cw_skip ?_
        refine eo_then ?_
        refine cw_block ?_
        refine cw_region ?_
        refine wl_move rfl rfl (by decide) ?_
        refine wl_move rfl rfl (by decide) ?_
        refine wl_pure rfl rfl (v := .int .i64 ((k : Nat) : Int)) (by decide) (by kernel_rfl) ?_
        refine wl_ar rfl rfl rfl ((k - 1 : Nat) : Int) (ai_sub (a := k) (b := 1) rfl rfl (by omega) (by omega)) (by decide) ?_
        refine wl_slice rfl rfl un_int4 sz_int4 (lo := 0) (hi := k - 1) rfl rfl (by omega) (by have := (hD).rv.le; omega) (v := .slice DA (k - 1) dc) (slice_to8 _ _ _) (by decide) ?_
        refine wl_assign rfl rfl (by decide) ?_
        refine wl_nil ?_
        refine eo_block_normal ?_
        refine eo_round (⟨wr, k - 1⟩ : World × Nat) ⟨hw1, hO, (by have h := (hD.take1 (k := k - 1) (by omega)); rwa [List.take_take, Nat.min_eq_left (by omega)] at h), (by omega), (by have h := nb_take_zero 65536 es7 (k - 1) (by omega) (by have h := hz8; rwa [getD_take (by omega)] at h); rw [Nat.sub_add_cancel hk0] at h; rw [← h]; exact hvk)⟩ (show k - 1 < k by omega) rfl ⟨rfl, rfl, rfl, trivial⟩
      ·
        refine cw_region ?_
        refine wl_move rfl rfl (by decide) ?_
        refine wl_pure rfl rfl (v := .int .i64 ((k : Nat) : Int)) (by decide) (by kernel_rfl) ?_
        refine wl_cmp rfl rfl rfl true (cb_gt_t (a := k) (b := 0) rfl rfl (by omega)) (by decide) ?_
        refine wl_move rfl rfl (by decide) ?_
        refine wl_move rfl rfl (by decide) ?_
        refine wl_move rfl rfl (by decide) ?_
        refine wl_pure rfl rfl (v := .int .i64 ((k : Nat) : Int)) (by decide) (by kernel_rfl) ?_
        refine wl_ar rfl rfl rfl ((k - 1 : Nat) : Int) (ai_sub (a := k) (b := 1) rfl rfl (by omega) (by omega)) (by decide) ?_
        obtain ⟨p27, hp27, hc27⟩ := (hD).at1 (i := k - 1) (by omega)
        refine wl_idx rfl rfl rfl un_int4 sz_int4 (k - 1) rfl (by omega) p27 hp27 (by decide) ?_
        refine wl_load rfl rfl (load_cell1 ag_int2 hc27) (by decide) ?_
        refine wl_cmp rfl rfl rfl false (cb_eq_f (a := (es7.take k).getD (k - 1) 0) (b := 0) rfl rfl (by omega)) (by decide) ?_
        refine wl_pure rfl rfl (v := .bool false) (by decide) (by kernel_rfl) ?_
        refine wl_nil ?_
        refine eo_then ?_
        refine cw_false rfl ?_
        refine cw_exit ?_
        refine eo_thenX ?_
        refine eo_loopX ?_
        refine eo_block_here ?_
        refine eo_block_normal ?_
        refine eo_round (⟨wr, lds ++ [nb 65536 l % base], es7.take k, DA, k, dc, A18, on + 1, c19⟩ : World × List Nat × List Nat × Option Addr × Nat × Nat × Option Addr × Nat × Nat) ⟨hw1, (by rw [List.map_append, List.map_cons, List.map_nil, ← sgns_get hr36]; exact hO), hD, (Wfb_take hwf10 _), (Or.inr hz8), (by rw [hdb, List.append_assoc, hvk, hv11, db_pos hbl hpos]; rfl), (by omega)⟩ (show nb 65536 (es7.take k) < nb 65536 l by rw [hvk, hv11]; exact Nat.div_lt_self (by omega) (by omega)) rfl ⟨rfl, rfl, rfl, trivial⟩
    ·
      refine cw_region ?_
      refine wl_move rfl rfl (by decide) ?_
      refine wl_pure rfl rfl (v := .int .i64 ((k : Nat) : Int)) (by decide) (by kernel_rfl) ?_
      refine wl_cmp rfl rfl rfl false (cb_gt_f (a := k) (b := 0) rfl rfl (by omega)) (by decide) ?_
      refine wl_move rfl rfl (by decide) ?_
      refine wl_off rfl (by decide) ?_
      refine wl_off rfl (by decide) ?_
      refine wl_off rfl (by decide) ?_
      refine wl_off rfl (by decide) ?_
      refine wl_off rfl (by decide) ?_
      refine wl_off rfl (by decide) ?_
      refine wl_off rfl (by decide) ?_
      refine wl_pure rfl rfl (v := .bool false) (by decide) (by kernel_rfl) ?_
      refine wl_nil ?_
      refine eo_then ?_
      refine cw_false rfl ?_
      refine cw_exit ?_
      refine eo_thenX ?_
      refine eo_loopX ?_
      refine eo_block_here ?_
      refine eo_block_normal ?_
      refine eo_round (⟨wr, lds ++ [nb 65536 l % base], es7.take k, DA, k, dc, A18, on + 1, c19⟩ : World × List Nat × List Nat × Option Addr × Nat × Nat × Option Addr × Nat × Nat) ⟨hw1, (by rw [List.map_append, List.map_cons, List.map_nil, ← sgns_get hr36]; exact hO), hD, (Wfb_take hwf10 _), (Or.inl (by omega)), (by rw [hdb, List.append_assoc, hvk, hv11, db_pos hbl hpos]; rfl), (by omega)⟩ (show nb 65536 (es7.take k) < nb 65536 l by rw [hvk, hv11]; exact Nat.div_lt_self (by omega) (by omega)) rfl ⟨rfl, rfl, rfl, trivial⟩
  ·
    have hl0 : l = [] := List.length_eq_zero_iff.1 (by omega)
    have hldb : db base m = lds := by rw [hdb, hl0]; show lds ++ db base 0 = lds; rw [db_zero, List.append_nil]
    refine cw_region ?_
    refine wl_move rfl rfl (by decide) ?_
    refine wl_pure rfl rfl (v := .int .i64 ((dn : Nat) : Int)) (by decide) (by kernel_rfl) ?_
    refine wl_cmp rfl rfl rfl false (cb_gt_f (a := dn) (b := 0) rfl rfl (by omega)) (by decide) ?_
    refine wl_nil ?_
    refine eo_then ?_
    refine cw_false rfl ?_
    refine cw_exit ?_
    refine eo_thenX ?_
    refine eo_loopX ?_
    refine eo_block_here ?_
    refine eo_then ?_
    refine cw_seq ?_
    refine cw_seq ?_
    by_cases hon0 : on = 0
    ·
      refine cw_region ?_
      refine wl_move rfl rfl (by decide) ?_
      refine wl_pure rfl rfl (v := .int .i64 ((on : Nat) : Int)) (by decide) (by kernel_rfl) ?_
      refine wl_cmp rfl rfl rfl true (cb_eq_t (a := on) (b := 0) rfl rfl (by omega)) (by decide) ?_
      refine wl_nil ?_
      refine eo_then ?_
      refine cw_true rfl ?_
      refine cw_seq ?_
      refine cw_region ?_
      refine wl_assign rfl rfl (by decide) ?_
      refine wl_assign rfl rfl (by decide) ?_
      refine wl_nil ?_
      refine eo_then ?_
      refine cw_ret ?_
      refine eo_thenR ?_
      refine eo_ret [.string (strB ([48])), .int .i64 0] rfl ⟨rfl, rfl, trivial⟩ ?_
      have hm0 : m = 0 := by rw [← db_eq_nil hbl, hldb]; exact List.length_eq_zero_iff.1 (by omega)
      have hstr : ([48] : List Nat) = txtN base m := by subst hm0; rfl
      exact ⟨_, rfl, ⟨_, _, rfl, (show Value.string _ = Value.string _ from congrArg (fun l => Value.string (strB l)) hstr), rfl⟩, hw1⟩
    ·
      refine cw_region ?_
      refine wl_move rfl rfl (by decide) ?_
      refine wl_pure rfl rfl (v := .int .i64 ((on : Nat) : Int)) (by decide) (by kernel_rfl) ?_
      refine wl_cmp rfl rfl rfl false (cb_eq_f (a := on) (b := 0) rfl rfl (by omega)) (by decide) ?_
      refine wl_nil ?_
      refine eo_then ?_
      refine cw_false rfl ?_
      refine cw_skip ?_
      refine eo_then ?_
      refine cw_seq ?_
      refine cw_region ?_
      refine wl_move rfl rfl (by decide) ?_
      refine wl_pure rfl rfl (v := .int .i64 ((on : Nat) : Int)) (by decide) (by kernel_rfl) ?_
      refine wl_make rfl (k := on) rfl rfl rfl un_u8 info8 rfl (by decide) (by omega) (by decide) fun g28 v29 hg30 hb31 e32 => ?_
      rw [replicate_B8] at hb31
      have ge33 : w.heap.size ≤ g28 := by rw [← hg30]; exact hw1.size
      have ne34 : ∀ p, OA = some p → p.block ≠ g28 := fun p hp => by have := ((hO).block p hp).2; omega
      clear hg30
      have hw2 : Ext w v29 := hw1.trans e32
      refine wl_assign rfl rfl (by decide) ?_
      refine wl_nil ?_
      refine eo_then ?_
      refine cw_seq ?_
      refine cw_seq ?_
      refine cw_region ?_
      refine wl_assign rfl rfl (by decide) ?_
      refine wl_nil ?_
      refine eo_then ?_
      refine cw_block ?_
      refine cw_loop (T := World × Nat × List Nat)
        (fun ⟨wr, i, hi⟩ => [(7, .slice OA on oc), (9, .slice (some ⟨g28, 0, none⟩) on on), (10, .int .i64 ((i : Nat) : Int))])
        (fun ⟨wr, i, hi⟩ => wr)
        (fun ⟨wr, i, hi⟩ => (Ext w wr) ∧ (Own wr w.heap.size 5 1 OA on oc ((lds.map sgn).map B8)) ∧ (Bk wr g28 5 (hi.map B8)) ∧ (hi.length = on) ∧ (i ≤ on) ∧ (∀ j, j < i → hi.getD (on - 1 - j) 0 = (lds.map sgn).getD j 0))
        (fun ⟨wr, i, hi⟩ => on - i)
        (⟨v29, 0, _⟩ : World × Nat × List Nat) ⟨hw2, (hO.ext e32), hb31, (List.length_replicate (n := on) (a := 0)), (Nat.zero_le _), (fun j hj => absurd hj (Nat.not_lt_zero _))⟩ rfl ⟨rfl, rfl, rfl, trivial⟩ ?_
      rintro ⟨wr, i, hi⟩ ⟨hw1, hO, hb, hhl, hii, hrev⟩
      refine cw_re [(7, .slice OA on oc), (9, .slice (some ⟨g28, 0, none⟩) on on), (10, .int .i64 ((i : Nat) : Int))] wr rfl ⟨rfl, rfl, rfl, trivial⟩ ?_
      refine cw_seq ?_
      refine cw_seq ?_
      by_cases hlt : i < on
      ·
        refine cw_region ?_
        refine wl_move rfl rfl (by decide) ?_
        refine wl_move rfl rfl (by decide) ?_
        refine wl_pure rfl rfl (v := .int .i64 ((on : Nat) : Int)) (by decide) (by kernel_rfl) ?_
        refine wl_cmp rfl rfl rfl true (cb_lt_t (a := i) (b := on) rfl rfl (by omega)) (by decide) ?_
        refine wl_nil ?_
        refine eo_then ?_
        refine cw_true rfl ?_
        refine cw_skip ?_
        refine eo_then ?_
        refine cw_seq ?_
        refine cw_block ?_
        have hb8 : (lds.map sgn).getD i 0 ≤ 255 := sgn_map_le (fun d hd => by have := Wfb_db hbl m d (by rw [hldb]; exact hd); omega)
        refine cw_region ?_
        refine wl_move rfl rfl (by decide) ?_
        refine wl_move rfl rfl (by decide) ?_
        refine wl_pure rfl rfl (v := .int .i64 ((on : Nat) : Int)) (by decide) (by kernel_rfl) ?_
        refine wl_ar rfl rfl rfl ((on - 1 : Nat) : Int) (ai_sub (a := on) (b := 1) rfl rfl (by omega) (by omega)) (by decide) ?_
        refine wl_move rfl rfl (by decide) ?_
        refine wl_ar rfl rfl rfl (((on - 1) - i : Nat) : Int) (ai_sub (a := on - 1) (b := i) rfl rfl (by omega) (by omega)) (by decide) ?_
        refine wl_move rfl rfl (by decide) ?_
        refine wl_move rfl rfl (by decide) ?_
        obtain ⟨p35, hp35, hc35⟩ := (hO).at1 (i := i) (by omega)
        refine wl_idx rfl rfl rfl un_u8 sz_u8 i rfl (by omega) p35 hp35 (by decide) ?_
        refine wl_load rfl rfl (load_cell1 ag_u8 hc35) (by decide) ?_
        refine wl_idx rfl rfl rfl un_u8 sz_u8 ((on - 1) - i) rfl (by omega) ⟨g28, (on - 1) - i, none⟩ (arr_at _ _) (by decide) ?_
        have hb37 := hb
        refine wl_stored1 rfl rfl rfl sz_u8 rfl hb37 (len_map (by rw [hhl]; omega)) rfl ((hi.set ((on - 1) - i) ((lds.map sgn).getD i 0)).map B8) (map_B8_set _ _ _) fun v36 hb38 u39 hs40 => ?_
        have hw2 : Ext w v36 := u39.ext hw1 ge33
        refine wl_nil ?_
        refine eo_block_normal ?_
        refine eo_then ?_
        refine cw_region ?_
        refine wl_move rfl rfl (by decide) ?_
        refine wl_ar rfl rfl rfl ((i + 1 : Nat) : Int) (ai_add (a := i) (b := 1) rfl rfl (by omega)) (by decide) ?_
        refine wl_assign rfl rfl (by decide) ?_
        refine wl_nil ?_
        refine eo_round (⟨v36, i + 1, hi.set ((on - 1) - i) ((lds.map sgn).getD i 0)⟩ : World × Nat × List Nat) ⟨hw2, (hO.upd u39 ne34), hb38, (len_set (l := hi) (hhl)), (by omega), (rev_step hhl (by omega) hrev)⟩ (show on - (i + 1) < on - i by omega) rfl ⟨rfl, rfl, rfl, trivial⟩
      ·
        refine cw_region ?_
        refine wl_move rfl rfl (by decide) ?_
        refine wl_move rfl rfl (by decide) ?_
        refine wl_pure rfl rfl (v := .int .i64 ((on : Nat) : Int)) (by decide) (by kernel_rfl) ?_
        refine wl_cmp rfl rfl rfl false (cb_lt_f (a := i) (b := on) rfl rfl (by omega)) (by decide) ?_
        refine wl_nil ?_
        refine eo_then ?_
        refine cw_false rfl ?_
        refine cw_exit ?_
        refine eo_thenX ?_
        refine eo_loopX ?_
        refine eo_block_here ?_
        refine eo_then ?_
        refine cw_seq ?_
        refine cw_region ?_
        refine wl_move rfl rfl (by decide) ?_
        refine wl_toStr (bs := hi) (lb := 0) rfl rfl (Own.mk_ (Nat.zero_le _) hb (Nat.le_refl _) (by rw [len_maxLen]; omega) (by rw [List.length_map, hhl, Nat.mul_one]) (by rw [Nat.mul_one, List.take_of_length_le (by rw [List.length_map, hhl]; exact Nat.le_refl _)])) (by decide) ?_
        refine wl_assign rfl rfl (by decide) ?_
        refine wl_assign rfl rfl (by decide) ?_
        refine wl_nil ?_
        refine eo_then ?_
        refine cw_ret ?_
        refine eo_ret [.string (strB hi), .int .i64 0] rfl ⟨rfl, rfl, trivial⟩ ?_
        have hm0 : m ≠ 0 := fun e => hon0 (by have h := hldb; rw [e, db_zero] at h; rw [← hon, ← h]; rfl)
        have hstr : hi = txtN base m := by rw [txtN, if_neg hm0, txt, hldb, List.map_reverse]; exact rev_done hhl (by rw [List.length_map]; omega) (fun j hj => hrev j (by omega))
        exact ⟨_, rfl, ⟨_, _, rfl, (show Value.string _ = Value.string _ from congrArg (fun l => Value.string (strB l)) hstr), rfl⟩, hw1⟩
set_option maxHeartbeats 4000000 in
theorem ref4_Dec {w : World} {A : Option Addr} {an ac m : Nat} (hx : Wi w A an ac m) (hal : an ≤ 1048576) :
    Calls Tryd.prog 79 #[.slice A an ac] w (Gv w (Is (.string (strB (txtN 10 m))))) := by
  refine sx_enter Tryd.func79 rfl (n := 11) rfl (Nat.le_of_ble_eq_true rfl) (args := [.slice A an ac]) ?_
  refine cw_keep [(0, .slice A an ac)] ⟨rfl, trivial⟩ ?_
  refine cw_seq ?_
  refine cw_region ?_
  refine wl_assign rfl rfl (by decide) ?_
  refine wl_nil ?_
  refine eo_then ?_
  refine cw_seq ?_
  refine cw_region ?_
  refine wl_move rfl rfl (by decide) ?_
  refine wl_call rfl rfl (vs := [.slice A an ac, .int .i64 10]) (by kernel_rfl) (by decide) (ref4_Text hx hal (by decide) (by decide)) ?_
  rintro _ v1 ⟨xr3, rfl, r3, e2⟩
  refine ret_intro ?_
  have hw1 : Ext w v1 := (Ext.refl w).trans e2
  obtain ⟨a4_0, a4_1, rfl, r4_0, r4_1⟩ := r3
  obtain rfl := r4_0
  obtain rfl := r4_1
  refine wl_move rfl rfl (by decide) ?_
  refine wl_pure rfl rfl (v := .string (strB (txtN 10 m))) (by decide) (by kernel_rfl) ?_
  refine wl_pure rfl rfl (v := .int .i64 0) (by decide) (by kernel_rfl) ?_
  refine wl_assign rfl rfl (by decide) ?_
  refine wl_assign rfl rfl (by decide) ?_
  refine wl_nil ?_
  refine eo_then ?_
  refine cw_seq ?_
  refine cw_region ?_
  refine wl_move rfl rfl (by decide) ?_
  refine wl_assign rfl rfl (by decide) ?_
  refine wl_nil ?_
  refine eo_then ?_
  refine cw_ret ?_
  refine eo_ret [.string (strB (txtN 10 m))] rfl ⟨rfl, trivial⟩ ?_
  exact ⟨_, rfl, rfl, hw1⟩
set_option maxHeartbeats 4000000 in
theorem ref4_Digits {w : World} {A : Option Addr} {an ac m : Nat} (hx : Wi w A an ac m) (hal : an ≤ 1048576) :
    Calls Tryd.prog 80 #[.slice A an ac] w (Gv w (Is (.int .i64 (((txtN 10 m).length : Nat) : Int)))) := by
  refine sx_enter Tryd.func80 rfl (n := 8) rfl (Nat.le_of_ble_eq_true rfl) (args := [.slice A an ac]) ?_
  refine cw_keep [(0, .slice A an ac)] ⟨rfl, trivial⟩ ?_
  refine cw_seq ?_
  refine cw_region ?_
  refine wl_assign rfl rfl (by decide) ?_
  refine wl_nil ?_
  refine eo_then ?_
  refine cw_seq ?_
  refine cw_region ?_
  refine wl_move rfl rfl (by decide) ?_
  refine wl_call rfl rfl (vs := [.slice A an ac]) (by kernel_rfl) (by decide) (ref4_Dec hx hal) ?_
  rintro _ v1 ⟨xr3, rfl, r3, e2⟩
  refine ret_intro ?_
  have hw1 : Ext w v1 := (Ext.refl w).trans e2
  obtain rfl := r3
  refine wl_assign rfl rfl (by decide) ?_
  refine wl_nil ?_
  refine eo_then ?_
  refine cw_seq ?_
  refine cw_region ?_
  refine wl_move rfl rfl (by decide) ?_
  refine wl_pureE rfl rfl (v := .int .i64 (((strB (txtN 10 m)).size : Nat) : Int)) (v' := .int .i64 (((txtN 10 m).length : Nat) : Int)) (by decide) (by kernel_rfl) (by rw [strB_size]) ?_
  refine wl_assign rfl rfl (by decide) ?_
  refine wl_nil ?_
  refine eo_then ?_
  refine cw_ret ?_
  refine eo_ret [.int .i64 (((txtN 10 m).length : Nat) : Int)] rfl ⟨rfl, trivial⟩ ?_
  exact ⟨_, rfl, rfl, hw1⟩
set_option maxHeartbeats 4000000 in
theorem ref4_Grouped {w : World} {A : Option Addr} {an ac m : Nat} (hx : Wi w A an ac m) (hal : an ≤ 1048576) :
    Calls Tryd.prog 81 #[.slice A an ac] w (Gv w (Is (.string (strB (grpT (txtN 10 m)))))) := by
  refine sx_enter Tryd.func81 rfl (n := 35) rfl (Nat.le_of_ble_eq_true rfl) (args := [.slice A an ac]) ?_
  refine cw_keep [(0, .slice A an ac)] ⟨rfl, trivial⟩ ?_
  refine cw_seq ?_
  refine cw_region ?_
  refine wl_assign rfl rfl (by decide) ?_
  refine wl_nil ?_
  refine eo_then ?_
  refine cw_seq ?_
  refine cw_region ?_
  refine wl_move rfl rfl (by decide) ?_
  refine wl_call rfl rfl (vs := [.slice A an ac]) (by kernel_rfl) (by decide) (ref4_Dec hx hal) ?_
  rintro _ v1 ⟨xr3, rfl, r3, e2⟩
  refine ret_intro ?_
  have hw1 : Ext w v1 := (Ext.refl w).trans e2
  obtain rfl := r3
  refine wl_assign rfl rfl (by decide) ?_
  refine wl_nil ?_
  refine eo_then ?_
  refine cw_seq ?_
  have hbs : ∀ b, b ∈ txtN 10 m → b < 256 := txtN_lt (by decide) (by decide)
  have hsl := txtN_len5 (b := 10) (by decide) (Nat.le_trans hx.len hal)
  generalize hsx : txtN 10 m = s at *
  refine cw_keep [(0, .slice A an ac), (2, .string (strB ([]))), (6, .slice A an ac), (3, .string (strB s))] ⟨rfl, rfl, rfl, rfl, trivial⟩ ?_
  refine cw_region ?_
  refine wl_assign rfl rfl (by decide) ?_
  refine wl_nil ?_
  refine eo_then ?_
  refine cw_seq ?_
  refine cw_seq ?_
  refine cw_region ?_
  refine wl_assign rfl rfl (by decide) ?_
  refine wl_nil ?_
  refine eo_then ?_
  refine cw_block ?_
  refine cw_loop (T := World × Nat × Option Addr × Nat × Nat)
    (fun ⟨wr, i, OA, on, oc⟩ => [(3, .string (strB s)), (4, .slice OA on oc), (5, .int .i64 ((i : Nat) : Int))])
    (fun ⟨wr, i, OA, on, oc⟩ => wr)
    (fun ⟨wr, i, OA, on, oc⟩ => (Ext w wr) ∧ (Own wr w.heap.size 5 1 OA on oc ((gout s i).map B8)) ∧ (i ≤ s.length) ∧ (on ≤ 2 * i))
    (fun ⟨wr, i, OA, on, oc⟩ => s.length - i)
    (⟨v1, 0, none, 0, 0⟩ : World × Nat × Option Addr × Nat × Nat) ⟨hw1, (Own.nil _ _ _ _), (Nat.zero_le _), (Nat.zero_le _)⟩ rfl ⟨rfl, rfl, rfl, trivial⟩ ?_
  rintro ⟨wr, i, OA, on, oc⟩ ⟨hw1, hO, hi, hon⟩
  refine cw_re [(3, .string (strB s)), (4, .slice OA on oc), (5, .int .i64 ((i : Nat) : Int))] wr rfl ⟨rfl, rfl, rfl, trivial⟩ ?_
  refine cw_seq ?_
  refine cw_seq ?_
  by_cases hlt : i < s.length
  ·
    refine cw_region ?_
    refine wl_move rfl rfl (by decide) ?_
    refine wl_move rfl rfl (by decide) ?_
    refine wl_pureE rfl rfl (v := .int .i64 (((strB s).size : Nat) : Int)) (v' := .int .i64 ((s.length : Nat) : Int)) (by decide) (by kernel_rfl) (by rw [strB_size]) ?_
    refine wl_cmp rfl rfl rfl true (cb_lt_t (a := i) (b := s.length) rfl rfl (by omega)) (by decide) ?_
    refine wl_nil ?_
    refine eo_then ?_
    refine cw_true rfl ?_
    refine cw_skip ?_
    refine eo_then ?_
    refine cw_seq ?_
    refine cw_block ?_
    refine cw_seq ?_
    refine cw_seq ?_
    have hb8 : s.getD i 0 ≤ 255 := by have := hbs _ (getD_mem hlt); omega
    by_cases hi0 : i > 0
    ·
      by_cases hi3 : (s.length - i) % 3 = 0
      ·
        refine cw_region ?_
        refine wl_move rfl rfl (by decide) ?_
        refine wl_cmp rfl rfl rfl true (cb_gt_t (a := i) (b := 0) rfl rfl (by omega)) (by decide) ?_
        refine wl_move rfl rfl (by decide) ?_
        refine wl_move rfl rfl (by decide) ?_
        refine wl_pureE rfl rfl (v := .int .i64 (((strB s).size : Nat) : Int)) (v' := .int .i64 ((s.length : Nat) : Int)) (by decide) (by kernel_rfl) (by rw [strB_size]) ?_
        refine wl_move rfl rfl (by decide) ?_
        refine wl_ar rfl rfl rfl ((s.length - i : Nat) : Int) (ai_sub (a := s.length) (b := i) rfl rfl (by omega) (by omega)) (by decide) ?_
        refine wl_ar rfl rfl rfl (((s.length - i) % 3 : Nat) : Int) (au_rem (a := s.length - i) (b := 3) rfl rfl (by omega)) (by decide) ?_
        refine wl_cmp rfl rfl rfl true (cb_eq_t (a := (s.length - i) % 3) (b := 0) rfl rfl (by omega)) (by decide) ?_
        refine wl_pure rfl rfl (v := .bool true) (by decide) (by kernel_rfl) ?_
        refine wl_nil ?_
        refine eo_then ?_
        refine cw_true rfl ?_
        refine cw_region ?_
        refine wl_move rfl rfl (by decide) ?_
        refine wl_bslice rfl rfl (by decide) (k := 1) (e := 5) [.int .u8 95] (fun _ => by kernel_rfl) fun g4 v5 nb => ?_
        have hb6 := nb.bk
        have e7 := nb.ext
        clear nb
        have hw2 : Ext w v5 := hw1.trans e7
        have ow8 := (hO.ext e7)
        refine wl_app rfl rfl rfl un_u8 info8 rfl (by decide) (by decide) ow8 hw2.size [.int .u8 95] rfl (one_news _ hb6) rfl (by omega) (by decide) fun A9 c10 v11 ho12 uo13 kp14 => ?_
        have hw3 : Ext w v11 := uo13.ext hw2 (fun p hp => (ow8.block p hp).1)
        have ho15 : Own v11 w.heap.size 5 1 A9 (on + 1) c10 (((gout s i) ++ [95]).map B8) := by have h := ho12; simp only [List.map_append, List.map_cons, List.map_nil] at h ⊢; exact h
        refine wl_assign rfl rfl (by decide) ?_
        refine wl_nil ?_
        refine eo_then ?_
        refine cw_region ?_
        refine wl_move rfl rfl (by decide) ?_
        refine wl_move rfl rfl (by decide) ?_
        refine wl_move rfl rfl (by decide) ?_
        refine wl_strix (bs := s) (i := i) rfl rfl rfl Tryd.underlying9 hbs (by omega) (by decide) ?_
        refine wl_bslice rfl rfl (by decide) (k := 1) (e := 5) [.int .u8 ((s.getD i 0 : Nat) : Int)] (fun _ => by kernel_rfl) fun g16 v17 nb => ?_
        have hb18 := nb.bk
        have e19 := nb.ext
        clear nb
        have hw4 : Ext w v17 := hw3.trans e19
        have ow20 := (ho15.ext e19)
        refine wl_app rfl rfl rfl un_u8 info8 rfl (by decide) (by decide) ow20 hw4.size [.int .u8 ((s.getD i 0 : Nat) : Int)] rfl (one_news _ hb18) rfl (by omega) (by decide) fun A21 c22 v23 ho24 uo25 kp26 => ?_
        have hw5 : Ext w v23 := uo25.ext hw4 (fun p hp => (ow20.block p hp).1)
        have ho27 : Own v23 w.heap.size 5 1 A21 (on + 1 + 1) c22 ((((gout s i) ++ [95]) ++ [s.getD i 0]).map B8) := by have h := ho24; simp only [List.map_append, List.map_cons, List.map_nil] at h ⊢; exact h
        refine wl_assign rfl rfl (by decide) ?_
        refine wl_nil ?_
        refine eo_block_normal ?_
        refine eo_then ?_
        refine cw_region ?_
        refine wl_move rfl rfl (by decide) ?_
        refine wl_ar rfl rfl rfl ((i + 1 : Nat) : Int) (ai_add (a := i) (b := 1) rfl rfl (by omega)) (by decide) ?_
        refine wl_assign rfl rfl (by decide) ?_
        refine wl_nil ?_
        refine eo_round (⟨v23, i + 1, A21, on + 1 + 1, c22⟩ : World × Nat × Option Addr × Nat × Nat) ⟨hw5, (by rw [gout, if_pos ⟨hi0, hi3⟩, ← List.append_assoc]; exact ho27), (by omega), (by omega)⟩ (show s.length - (i + 1) < s.length - i by omega) rfl ⟨rfl, rfl, rfl, trivial⟩
      ·
        refine cw_region ?_
        refine wl_move rfl rfl (by decide) ?_
        refine wl_cmp rfl rfl rfl true (cb_gt_t (a := i) (b := 0) rfl rfl (by omega)) (by decide) ?_
        refine wl_move rfl rfl (by decide) ?_
        refine wl_move rfl rfl (by decide) ?_
        refine wl_pureE rfl rfl (v := .int .i64 (((strB s).size : Nat) : Int)) (v' := .int .i64 ((s.length : Nat) : Int)) (by decide) (by kernel_rfl) (by rw [strB_size]) ?_
        refine wl_move rfl rfl (by decide) ?_
        refine wl_ar rfl rfl rfl ((s.length - i : Nat) : Int) (ai_sub (a := s.length) (b := i) rfl rfl (by omega) (by omega)) (by decide) ?_
        refine wl_ar rfl rfl rfl (((s.length - i) % 3 : Nat) : Int) (au_rem (a := s.length - i) (b := 3) rfl rfl (by omega)) (by decide) ?_
        refine wl_cmp rfl rfl rfl false (cb_eq_f (a := (s.length - i) % 3) (b := 0) rfl rfl (by omega)) (by decide) ?_
        refine wl_pure rfl rfl (v := .bool false) (by decide) (by kernel_rfl) ?_
        refine wl_nil ?_
        refine eo_then ?_
        refine cw_false rfl ?_
        refine cw_skip ?_
        refine eo_then ?_
        refine cw_region ?_
        refine wl_move rfl rfl (by decide) ?_
        refine wl_move rfl rfl (by decide) ?_
        refine wl_move rfl rfl (by decide) ?_
        refine wl_strix (bs := s) (i := i) rfl rfl rfl Tryd.underlying9 hbs (by omega) (by decide) ?_
        refine wl_bslice rfl rfl (by decide) (k := 1) (e := 5) [.int .u8 ((s.getD i 0 : Nat) : Int)] (fun _ => by kernel_rfl) fun g28 v29 nb => ?_
        have hb30 := nb.bk
        have e31 := nb.ext
        clear nb
        have hw2 : Ext w v29 := hw1.trans e31
        have ow32 := (hO.ext e31)
        refine wl_app rfl rfl rfl un_u8 info8 rfl (by decide) (by decide) ow32 hw2.size [.int .u8 ((s.getD i 0 : Nat) : Int)] rfl (one_news _ hb30) rfl (by omega) (by decide) fun A33 c34 v35 ho36 uo37 kp38 => ?_
        have hw3 : Ext w v35 := uo37.ext hw2 (fun p hp => (ow32.block p hp).1)
        have ho39 : Own v35 w.heap.size 5 1 A33 (on + 1) c34 (((gout s i) ++ [s.getD i 0]).map B8) := by have h := ho36; simp only [List.map_append, List.map_cons, List.map_nil] at h ⊢; exact h
        refine wl_assign rfl rfl (by decide) ?_
        refine wl_nil ?_
        refine eo_block_normal ?_
        refine eo_then ?_
        refine cw_region ?_
        refine wl_move rfl rfl (by decide) ?_
        refine wl_ar rfl rfl rfl ((i + 1 : Nat) : Int) (ai_add (a := i) (b := 1) rfl rfl (by omega)) (by decide) ?_
        refine wl_assign rfl rfl (by decide) ?_
        refine wl_nil ?_
        refine eo_round (⟨v35, i + 1, A33, on + 1, c34⟩ : World × Nat × Option Addr × Nat × Nat) ⟨hw3, (by rw [gout, if_neg (by omega), List.nil_append]; exact ho39), (by omega), (by omega)⟩ (show s.length - (i + 1) < s.length - i by omega) rfl ⟨rfl, rfl, rfl, trivial⟩
    ·
      refine cw_region ?_
      refine wl_move rfl rfl (by decide) ?_
      refine wl_cmp rfl rfl rfl false (cb_gt_f (a := i) (b := 0) rfl rfl (by omega)) (by decide) ?_
      refine wl_move rfl rfl (by decide) ?_
      refine wl_off rfl (by decide) ?_
      refine wl_off rfl (by decide) ?_
      refine wl_off rfl (by decide) ?_
      refine wl_off rfl (by decide) ?_
      refine wl_off rfl (by decide) ?_
      refine wl_off rfl (by decide) ?_
      refine wl_pure rfl rfl (v := .bool false) (by decide) (by kernel_rfl) ?_
      refine wl_nil ?_
      refine eo_then ?_
      refine cw_false rfl ?_
      refine cw_skip ?_
      refine eo_then ?_
      refine cw_region ?_
      refine wl_move rfl rfl (by decide) ?_
      refine wl_move rfl rfl (by decide) ?_
      refine wl_move rfl rfl (by decide) ?_
      refine wl_strix (bs := s) (i := i) rfl rfl rfl Tryd.underlying9 hbs (by omega) (by decide) ?_
      refine wl_bslice rfl rfl (by decide) (k := 1) (e := 5) [.int .u8 ((s.getD i 0 : Nat) : Int)] (fun _ => by kernel_rfl) fun g40 v41 nb => ?_
      have hb42 := nb.bk
      have e43 := nb.ext
      clear nb
      have hw2 : Ext w v41 := hw1.trans e43
      have ow44 := (hO.ext e43)
      refine wl_app rfl rfl rfl un_u8 info8 rfl (by decide) (by decide) ow44 hw2.size [.int .u8 ((s.getD i 0 : Nat) : Int)] rfl (one_news _ hb42) rfl (by omega) (by decide) fun A45 c46 v47 ho48 uo49 kp50 => ?_
      have hw3 : Ext w v47 := uo49.ext hw2 (fun p hp => (ow44.block p hp).1)
      have ho51 : Own v47 w.heap.size 5 1 A45 (on + 1) c46 (((gout s i) ++ [s.getD i 0]).map B8) := by have h := ho48; simp only [List.map_append, List.map_cons, List.map_nil] at h ⊢; exact h
      refine wl_assign rfl rfl (by decide) ?_
      refine wl_nil ?_
      refine eo_block_normal ?_
      refine eo_then ?_
      refine cw_region ?_
      refine wl_move rfl rfl (by decide) ?_
      refine wl_ar rfl rfl rfl ((i + 1 : Nat) : Int) (ai_add (a := i) (b := 1) rfl rfl (by omega)) (by decide) ?_
      refine wl_assign rfl rfl (by decide) ?_
      refine wl_nil ?_
      refine eo_round (⟨v47, i + 1, A45, on + 1, c46⟩ : World × Nat × Option Addr × Nat × Nat) ⟨hw3, (by rw [gout, if_neg (by omega), List.nil_append]; exact ho51), (by omega), (by omega)⟩ (show s.length - (i + 1) < s.length - i by omega) rfl ⟨rfl, rfl, rfl, trivial⟩
  ·
    have hil : i = s.length := by omega
    refine cw_region ?_
    refine wl_move rfl rfl (by decide) ?_
    refine wl_move rfl rfl (by decide) ?_
    refine wl_pureE rfl rfl (v := .int .i64 (((strB s).size : Nat) : Int)) (v' := .int .i64 ((s.length : Nat) : Int)) (by decide) (by kernel_rfl) (by rw [strB_size]) ?_
    refine wl_cmp rfl rfl rfl false (cb_lt_f (a := i) (b := s.length) rfl rfl (by omega)) (by decide) ?_
    refine wl_nil ?_
    refine eo_then ?_
    refine cw_false rfl ?_
    refine cw_exit ?_
    refine eo_thenX ?_
    refine eo_loopX ?_
    refine eo_block_here ?_
    refine eo_then ?_
    refine cw_seq ?_
    refine cw_region ?_
    refine wl_move rfl rfl (by decide) ?_
    refine wl_toStr rfl rfl hO (by decide) ?_
    refine wl_assign rfl rfl (by decide) ?_
    refine wl_nil ?_
    refine eo_then ?_
    refine cw_ret ?_
    refine eo_ret [.string (strB (gout s i))] rfl ⟨rfl, trivial⟩ ?_
    subst hil
    exact ⟨_, rfl, rfl, hw1⟩
end Go.Proofs.YtmjdmjflgiicaaaDoor

namespace Go.Proofs.YtmjdmjflgiicaaaDoor
open Go.RowKit
set_option maxHeartbeats 4000000 in
theorem ref4_onto {w : World} {lb : Nat} {A : Option Addr} {n c base v : Nat} {ds : List Nat} (ho : Own w lb 3 1 A n c (ds.map I6)) (hlb : lb ≤ w.heap.size) (hwf : Wfb 65536 ds) (hbl : 2 ≤ base) (hbu : base ≤ 36) (hn : n ≤ 1099511627775) (hvb : v ≤ 36) :
    Calls Tryd.prog 98 #[.slice A n c, .int .i64 ((base : Nat) : Int), .int .i64 ((v : Nat) : Int)] w (fun e w' => ∃ A' n' c', ∃ es : List Nat, e = .returned (.slice A' n' c') ∧ Own w' lb 3 1 A' n' c' (es.map I6) ∧ n' ≤ n + 1 ∧ es.length = n' ∧ Wfb 65536 es ∧ nb 65536 es = nb 65536 ds * base + v ∧ UpdO A w w') := by
  have hdl := own_len1 ho
  refine sx_enter Tryd.func98 rfl (n := 37) rfl (Nat.le_of_ble_eq_true rfl) (args := [.slice A n c, .int .i64 ((base : Nat) : Int), .int .i64 ((v : Nat) : Int)]) ?_
  refine cw_keep [(0, .slice A n c), (1, .int .i64 ((base : Nat) : Int)), (2, .int .i64 ((v : Nat) : Int))] ⟨rfl, rfl, rfl, trivial⟩ ?_
  refine cw_seq ?_
  refine cw_region ?_
  refine wl_assign rfl rfl (by decide) ?_
  refine wl_nil ?_
  refine eo_then ?_
  refine cw_seq ?_
  refine cw_seq ?_
  refine cw_region ?_
  refine wl_assign rfl rfl (by decide) ?_
  refine wl_nil ?_
  refine eo_then ?_
  refine cw_block ?_
  refine cw_loop (T := World × Nat × Nat × List Nat)
    (fun ⟨wr, i, cy, l⟩ => [(0, .slice A n c), (1, .int .i64 ((base : Nat) : Int)), (2, .int .i64 ((cy : Nat) : Int)), (7, .int .i64 ((i : Nat) : Int))])
    (fun ⟨wr, i, cy, l⟩ => wr)
    (fun ⟨wr, i, cy, l⟩ => (UpdO A w wr) ∧ (i ≤ n) ∧ (Own wr lb 3 1 A n c (l.map I6)) ∧ (l.length = n) ∧ (Wfb 65536 l) ∧ (l.drop i = ds.drop i) ∧ (cy ≤ 36) ∧ (nb 65536 (l.take i) + 65536 ^ i * cy = nb 65536 (ds.take i) * base + v))
    (fun ⟨wr, i, cy, l⟩ => n - i)
    (⟨w, 0, v, ds⟩ : World × Nat × Nat × List Nat) ⟨(UpdO.refl A w), (Nat.zero_le _), ho, hdl, hwf, rfl, (by omega), (by rw [List.take_zero]; simp [nb])⟩ rfl ⟨rfl, rfl, rfl, rfl, trivial⟩ ?_
  rintro ⟨wr, i, cy, l⟩ ⟨hw1, hi, hO, hll, hwl, hdr, hcy, hv⟩
  refine cw_re [(0, .slice A n c), (1, .int .i64 ((base : Nat) : Int)), (2, .int .i64 ((cy : Nat) : Int)), (7, .int .i64 ((i : Nat) : Int))] wr rfl ⟨rfl, rfl, rfl, rfl, trivial⟩ ?_
  refine cw_seq ?_
  refine cw_seq ?_
  by_cases hlt : i < n
  ·
    refine cw_region ?_
    refine wl_move rfl rfl (by decide) ?_
    refine wl_move rfl rfl (by decide) ?_
    refine wl_pure rfl rfl (v := .int .i64 ((n : Nat) : Int)) (by decide) (by kernel_rfl) ?_
    refine wl_cmp rfl rfl rfl true (cb_lt_t (a := i) (b := n) rfl rfl (by omega)) (by decide) ?_
    refine wl_nil ?_
    refine eo_then ?_
    refine cw_true rfl ?_
    refine cw_skip ?_
    refine eo_then ?_
    refine cw_seq ?_
    refine cw_block ?_
    refine cw_seq ?_
    have hdb := Wfb_getD (b := 65536) (by decide) hwl i
    have hmu : l.getD i 0 * base ≤ 65535 * 36 := Nat.mul_le_mul (by omega) hbu
    refine cw_region ?_
    refine wl_move rfl rfl (by decide) ?_
    refine wl_move rfl rfl (by decide) ?_
    obtain ⟨p2, hp2, hc2⟩ := (hO).at1 (i := i) (by omega)
    refine wl_idx rfl rfl rfl un_int4 sz_int4 i rfl (by omega) p2 hp2 (by decide) ?_
    refine wl_load rfl rfl (load_cell1 ag_int2 hc2) (by decide) ?_
    refine wl_move rfl rfl (by decide) ?_
    refine wl_ar rfl rfl rfl (((l.getD i 0) * base : Nat) : Int) (ai_mul (a := l.getD i 0) (b := base) rfl rfl (by omega)) (by decide) ?_
    refine wl_move rfl rfl (by decide) ?_
    refine wl_ar rfl rfl rfl ((((l.getD i 0) * base) + cy : Nat) : Int) (ai_add (a := (l.getD i 0) * base) (b := cy) rfl rfl (by omega)) (by decide) ?_
    refine wl_assign rfl rfl (by decide) ?_
    refine wl_nil ?_
    refine eo_then ?_
    refine cw_seq ?_
    refine cw_region ?_
    refine wl_move rfl rfl (by decide) ?_
    refine wl_move rfl rfl (by decide) ?_
    refine wl_move rfl rfl (by decide) ?_
    refine wl_ar rfl rfl rfl (((((l.getD i 0) * base) + cy) % 65536 : Nat) : Int) (au_rem (a := ((l.getD i 0) * base) + cy) (b := 65536) rfl rfl (by omega)) (by decide) ?_
    obtain ⟨p3, hp3, hc3⟩ := (hO).at1 (i := i) (by omega)
    refine wl_idx rfl rfl rfl un_int4 sz_int4 i rfl (by omega) p3 hp3 (by decide) ?_
    have ow4 := hO
    refine wl_setO (f := I6) (u := (((l.getD i 0) * base) + cy) % 65536) (i := i) rfl rfl rfl hp3 ow4 (by omega) rfl rfl sz_int4 fun v5 ho6 uo7 => ?_
    have hw2 : UpdO A w v5 := hw1.trans uo7
    refine wl_nil ?_
    refine eo_then ?_
    refine cw_region ?_
    refine wl_move rfl rfl (by decide) ?_
    refine wl_ar rfl rfl rfl (((((l.getD i 0) * base) + cy) / 65536 : Nat) : Int) (ai_quo (a := ((l.getD i 0) * base) + cy) (b := 65536) rfl rfl (by omega) (by omega)) (by decide) ?_
    refine wl_assign rfl rfl (by decide) ?_
    refine wl_nil ?_
    refine eo_block_normal ?_
    refine eo_then ?_
    refine cw_region ?_
    refine wl_move rfl rfl (by decide) ?_
    refine wl_ar rfl rfl rfl ((i + 1 : Nat) : Int) (ai_add (a := i) (b := 1) rfl rfl (by omega)) (by decide) ?_
    refine wl_assign rfl rfl (by decide) ?_
    refine wl_nil ?_
    refine eo_round (⟨v5, i + 1, (l.getD i 0 * base + cy) / 65536, l.set i ((((l.getD i 0) * base) + cy) % 65536)⟩ : World × Nat × Nat × List Nat) ⟨hw2, (by omega), ho6, (by rw [List.length_set]; exact hll), (Wfb_set hwl _ (Nat.mod_lt _ (by decide))), (by rw [List.drop_set_of_lt (by omega)]; have h := congrArg (List.drop 1) hdr; rwa [List.drop_drop, List.drop_drop] at h), (by omega), (onto_step (by omega) (by omega) hdr hv)⟩ (show n - (i + 1) < n - i by omega) rfl ⟨rfl, rfl, rfl, rfl, trivial⟩
  ·
    have hin : i = n := by omega
    rw [List.take_of_length_le (by omega), List.take_of_length_le (by omega), hin] at hv
    refine cw_region ?_
    refine wl_move rfl rfl (by decide) ?_
    refine wl_move rfl rfl (by decide) ?_
    refine wl_pure rfl rfl (v := .int .i64 ((n : Nat) : Int)) (by decide) (by kernel_rfl) ?_
    refine wl_cmp rfl rfl rfl false (cb_lt_f (a := i) (b := n) rfl rfl (by omega)) (by decide) ?_
    refine wl_nil ?_
    refine eo_then ?_
    refine cw_false rfl ?_
    refine cw_exit ?_
    refine eo_thenX ?_
    refine eo_loopX ?_
    refine eo_block_here ?_
    refine eo_then ?_
    refine cw_seq ?_
    refine cw_seq ?_
    by_cases hcy0 : cy > 0
    ·
      refine cw_region ?_
      refine wl_move rfl rfl (by decide) ?_
      refine wl_cmp rfl rfl rfl true (cb_gt_t (a := cy) (b := 0) rfl rfl (by omega)) (by decide) ?_
      refine wl_nil ?_
      refine eo_then ?_
      refine cw_true rfl ?_
      refine cw_region ?_
      refine wl_move rfl rfl (by decide) ?_
      refine wl_move rfl rfl (by decide) ?_
      refine wl_bslice rfl rfl (by decide) (k := 1) (e := 3) [.int .i64 ((cy : Nat) : Int)] (fun _ => by kernel_rfl) fun g8 v9 nb => ?_
      have hb10 := nb.bk
      have e11 := nb.ext
      clear nb
      have hw2 : UpdO A w v9 := hw1.then_ext e11
      have ow12 := (hO.ext e11)
      refine wl_app rfl rfl rfl un_int4 infoInt rfl (by decide) (by decide) ow12 (Nat.le_trans hlb hw2.size) [.int .i64 ((cy : Nat) : Int)] rfl (one_news _ hb10) rfl (by omega) (by decide) fun A13 c14 v15 ho16 uo17 kp18 => ?_
      have hw3 : UpdO A w v15 := hw2.trans uo17
      have ho19 : Own v15 lb 3 1 A13 (n + 1) c14 ((l ++ [cy]).map I6) := by have h := ho16; simp only [List.map_append, List.map_cons, List.map_nil] at h ⊢; exact h
      refine wl_assign rfl rfl (by decide) ?_
      refine wl_nil ?_
      refine eo_then ?_
      refine cw_seq ?_
      refine cw_region ?_
      refine wl_move rfl rfl (by decide) ?_
      refine wl_assign rfl rfl (by decide) ?_
      refine wl_nil ?_
      refine eo_then ?_
      refine cw_ret ?_
      refine eo_ret [.slice A13 (n + 1) c14] rfl ⟨rfl, trivial⟩ ?_
      exact ⟨A13, (n + 1), c14, l ++ [cy], rfl, ho19, (Nat.le_refl _), (by rw [List.length_append, hll]; rfl), (Wfb_append hwl (fun x hx => by rw [List.mem_singleton] at hx; omega)), (by rw [nb_snoc, hll]; exact hv), hw3⟩
    ·
      refine cw_region ?_
      refine wl_move rfl rfl (by decide) ?_
      refine wl_cmp rfl rfl rfl false (cb_gt_f (a := cy) (b := 0) rfl rfl (by omega)) (by decide) ?_
      refine wl_nil ?_
      refine eo_then ?_
      refine cw_false rfl ?_
      refine cw_skip ?_
      refine eo_then ?_
      refine cw_seq ?_
      refine cw_region ?_
      refine wl_move rfl rfl (by decide) ?_
      refine wl_assign rfl rfl (by decide) ?_
      refine wl_nil ?_
      refine eo_then ?_
      refine cw_ret ?_
      refine eo_ret [.slice A n c] rfl ⟨rfl, trivial⟩ ?_
      exact ⟨A, n, c, l, rfl, hO, (Nat.le_succ _), hll, hwl, (by rw [show cy = 0 by omega, Nat.mul_zero, Nat.add_zero] at hv; exact hv), hw1⟩
theorem g_join4 {w : World} {b lb : Nat} (hb : b ≤ w.heap.size) {A : Option Addr} {n c : Nat} {ds : List Nat} (h : Own w lb 3 1 A n c (ds.map I6)) (hw : Wfb 65536 ds) (hl : n ≤ 1099511627775) : Calls Tryd.prog 99 #[.slice A n c] w (Gv w (WR b (nb 65536 ds))) := (ref1_Join ⟨h.rv, hw⟩ hl).mono (gw hb)
theorem ref4_value_ok {w : World} {c : Nat} (hc : c ≤ 255) (h : dv c < 36) : Calls Tryd.prog 97 #[.int .u8 ((c : Nat) : Int)] w (Gv w (Is (.int .i64 ((dv c : Nat) : Int)))) := by
  have h1 := ref4_value (w := w) hc
  rw [if_pos h] at h1; exact h1
set_option maxHeartbeats 4000000 in
theorem ref4_Read_good {w : World} {bs : List Nat} (hbs : ∀ b, b ∈ bs → b < 256) (hlen : bs.length ≤ 17179869184) {base : Nat} (hbl : 2 ≤ base) (hbu : base ≤ 36) (hg : Good base bs) :
    Calls Tryd.prog 72 #[.string (strB bs), .int .i64 ((base : Nat) : Int)] w (Gv w (T2 (WR w.heap.size (vald base (bs.map dv))) (Is (.int .i64 0)))) := by
  refine sx_enter Tryd.func72 rfl (n := 36) rfl (Nat.le_of_ble_eq_true rfl) (args := [.string (strB bs), .int .i64 ((base : Nat) : Int)]) ?_
  refine cw_keep [(0, .string (strB bs)), (1, .int .i64 ((base : Nat) : Int))] ⟨rfl, rfl, trivial⟩ ?_
  refine cw_seq ?_
  refine cw_region ?_
  refine wl_assign rfl rfl (by decide) ?_
  refine wl_assign rfl rfl (by decide) ?_
  refine wl_nil ?_
  refine eo_then ?_
  refine cw_seq ?_
  refine cw_seq ?_
  refine cw_region ?_
  refine wl_move rfl rfl (by decide) ?_
  refine wl_cmp rfl rfl rfl false (cb_lt_f (a := base) (b := 2) rfl rfl (by omega)) (by decide) ?_
  refine wl_move rfl rfl (by decide) ?_
  refine wl_move rfl rfl (by decide) ?_
  refine wl_cmp rfl rfl rfl false (cb_gt_f (a := base) (b := 36) rfl rfl (by omega)) (by decide) ?_
  refine wl_pure rfl rfl (v := .bool false) (by decide) (by kernel_rfl) ?_
  refine wl_nil ?_
  refine eo_then ?_
  refine cw_false rfl ?_
  refine cw_skip ?_
  refine eo_then ?_
  refine cw_seq ?_
  refine cw_seq ?_
  have hne := hg.1
  refine cw_region ?_
  refine wl_move rfl rfl (by decide) ?_
  refine wl_streq (a := bs) (b := []) rfl rfl rfl hbs (by decide) false (strE_eql_f (hne)) (by decide) ?_
  refine wl_nil ?_
  refine eo_then ?_
  refine cw_false rfl ?_
  refine cw_skip ?_
  refine eo_then ?_
  refine cw_seq ?_
  refine cw_region ?_
  refine wl_assign rfl rfl (by decide) ?_
  refine wl_nil ?_
  refine eo_then ?_
  refine cw_seq ?_
  refine cw_seq ?_
  refine cw_region ?_
  refine wl_assign rfl rfl (by decide) ?_
  refine wl_nil ?_
  refine eo_then ?_
  refine cw_block ?_
  refine cw_loop (T := World × Nat × List Nat × Option Addr × Nat × Nat)
    (fun ⟨wr, i, l, DA, dn, dc⟩ => [(0, .string (strB bs)), (1, .int .i64 ((base : Nat) : Int)), (6, .slice DA dn dc), (7, .int .i64 ((i : Nat) : Int))])
    (fun ⟨wr, i, l, DA, dn, dc⟩ => wr)
    (fun ⟨wr, i, l, DA, dn, dc⟩ => (Ext w wr) ∧ (i ≤ bs.length) ∧ (Own wr w.heap.size 3 1 DA dn dc (l.map I6)) ∧ (dn ≤ i) ∧ (Wfb 65536 l) ∧ (nb 65536 l = vald base ((bs.take i).map dv)) ∧ (∀ c, c ∈ bs.take i → dv c < base))
    (fun ⟨wr, i, l, DA, dn, dc⟩ => bs.length - i)
    (⟨w, 0, [], none, 0, 0⟩ : World × Nat × List Nat × Option Addr × Nat × Nat) ⟨(Ext.refl w), (Nat.zero_le _), (Own.nil _ _ _ _), (Nat.zero_le _), (Wfb_nil _), rfl, (fun c hc => absurd hc (by simp))⟩ rfl ⟨rfl, rfl, rfl, rfl, trivial⟩ ?_
  rintro ⟨wr, i, l, DA, dn, dc⟩ ⟨hw1, hi, hD, hdn, hwl, hv, hok⟩
  refine cw_re [(0, .string (strB bs)), (1, .int .i64 ((base : Nat) : Int)), (6, .slice DA dn dc), (7, .int .i64 ((i : Nat) : Int))] wr rfl ⟨rfl, rfl, rfl, rfl, trivial⟩ ?_
  refine cw_seq ?_
  refine cw_seq ?_
  by_cases hlt : i < bs.length
  ·
    refine cw_region ?_
    refine wl_move rfl rfl (by decide) ?_
    refine wl_move rfl rfl (by decide) ?_
    refine wl_pureE rfl rfl (v := .int .i64 (((strB bs).size : Nat) : Int)) (v' := .int .i64 ((bs.length : Nat) : Int)) (by decide) (by kernel_rfl) (by rw [strB_size]) ?_
    refine wl_cmp rfl rfl rfl true (cb_lt_t (a := i) (b := bs.length) rfl rfl (by omega)) (by decide) ?_
    refine wl_nil ?_
    refine eo_then ?_
    refine cw_true rfl ?_
    refine cw_skip ?_
    refine eo_then ?_
    refine cw_seq ?_
    refine cw_block ?_
    refine cw_seq ?_
    have hc255 : bs.getD i 0 ≤ 255 := by have := hbs _ (getD_mem hlt); omega
    have hdc := hg.2 _ (getD_mem hlt)
    refine cw_region ?_
    refine wl_move rfl rfl (by decide) ?_
    refine wl_move rfl rfl (by decide) ?_
    refine wl_strix (bs := bs) (i := i) rfl rfl rfl Tryd.underlying9 hbs (by omega) (by decide) ?_
    refine wl_call rfl rfl (vs := [.int .u8 ((bs.getD i 0 : Nat) : Int)]) (by kernel_rfl) (by decide) (ref4_value_ok hc255 (Nat.lt_of_lt_of_le hdc hbu)) ?_
    rintro _ v2 ⟨xr4, rfl, r4, e3⟩
    refine ret_intro ?_
    have hw2 : Ext w v2 := hw1.trans e3
    obtain rfl := r4
    refine wl_assign rfl rfl (by decide) ?_
    refine wl_nil ?_
    refine eo_then ?_
    refine cw_seq ?_
    refine cw_seq ?_
    refine cw_region ?_
    refine wl_move rfl rfl (by decide) ?_
    refine wl_move rfl rfl (by decide) ?_
    refine wl_cmp rfl rfl rfl false (cb_ge_f (a := dv (bs.getD i 0)) (b := base) rfl rfl (by omega)) (by decide) ?_
    refine wl_nil ?_
    refine eo_then ?_
    refine cw_false rfl ?_
    refine cw_skip ?_
    refine eo_then ?_
    refine cw_region ?_
    refine wl_move rfl rfl (by decide) ?_
    refine wl_move rfl rfl (by decide) ?_
    refine wl_move rfl rfl (by decide) ?_
    have ow5 := (hD.ext e3)
    refine wl_call rfl rfl (vs := [.slice DA dn dc, .int .i64 ((base : Nat) : Int), .int .i64 ((dv (bs.getD i 0) : Nat) : Int)]) (by kernel_rfl) (by decide) (ref4_onto ow5 hw2.size hwl hbl hbu (by omega) (by omega)) ?_
    rintro _ v6 ⟨A8, n9, c10, es7, rfl, ho11, hle12, hl13, hwf14, hv15, uo16⟩
    refine ret_intro ?_
    have hw3 : Ext w v6 := uo16.ext hw2 (fun p hp => (ow5.block p hp).1)
    refine wl_assign rfl rfl (by decide) ?_
    refine wl_nil ?_
    refine eo_block_normal ?_
    refine eo_then ?_
    refine cw_region ?_
    refine wl_move rfl rfl (by decide) ?_
    refine wl_ar rfl rfl rfl ((i + 1 : Nat) : Int) (ai_add (a := i) (b := 1) rfl rfl (by omega)) (by decide) ?_
    refine wl_assign rfl rfl (by decide) ?_
    refine wl_nil ?_
    refine eo_round (⟨v6, i + 1, es7, A8, n9, c10⟩ : World × Nat × List Nat × Option Addr × Nat × Nat) ⟨hw3, (by omega), ho11, (by omega), hwf14, (by rw [hv15, hv, take_snoc4 hlt, List.map_append, List.map_cons, List.map_nil, vald_snoc]), (fun c hc => by rw [take_snoc4 hlt] at hc; rcases List.mem_append.1 hc with h | h; (· exact hok c h); (· rw [List.mem_singleton.1 h]; exact hdc))⟩ (show bs.length - (i + 1) < bs.length - i by omega) rfl ⟨rfl, rfl, rfl, rfl, trivial⟩
  ·
    have hie : i = bs.length := by omega
    rw [hie, List.take_length] at hok hv
    refine cw_region ?_
    refine wl_move rfl rfl (by decide) ?_
    refine wl_move rfl rfl (by decide) ?_
    refine wl_pureE rfl rfl (v := .int .i64 (((strB bs).size : Nat) : Int)) (v' := .int .i64 ((bs.length : Nat) : Int)) (by decide) (by kernel_rfl) (by rw [strB_size]) ?_
    refine wl_cmp rfl rfl rfl false (cb_lt_f (a := i) (b := bs.length) rfl rfl (by omega)) (by decide) ?_
    refine wl_nil ?_
    refine eo_then ?_
    refine cw_false rfl ?_
    refine cw_exit ?_
    refine eo_thenX ?_
    refine eo_loopX ?_
    refine eo_block_here ?_
    refine eo_then ?_
    refine cw_seq ?_
    refine cw_region ?_
    refine wl_move rfl rfl (by decide) ?_
    refine wl_call rfl rfl (vs := [.slice DA dn dc]) (by kernel_rfl) (by decide) (by have h := g_join4 hw1.size hD hwl (by omega); rw [hv] at h; exact h) ?_
    rintro _ v18 ⟨xr20, rfl, r20, e19⟩
    refine ret_intro ?_
    have hw2 : Ext w v18 := hw1.trans e19
    obtain ⟨A21, n21, c21, rfl, j21, o21⟩ := r20
    refine wl_assign rfl rfl (by decide) ?_
    refine wl_assign rfl rfl (by decide) ?_
    refine wl_nil ?_
    refine eo_then ?_
    refine cw_ret ?_
    refine eo_ret [.slice A21 n21 c21, .int .i64 0] rfl ⟨rfl, rfl, trivial⟩ ?_
    exact ⟨_, rfl, ⟨_, _, rfl, ⟨_, _, _, rfl, j21, o21⟩, rfl⟩, hw2⟩
set_option maxHeartbeats 4000000 in
theorem ref4_Read_bad {w : World} {bs : List Nat} (hbs : ∀ b, b ∈ bs → b < 256) (hlen : bs.length ≤ 17179869184) {base : Nat} (hbl : 2 ≤ base) (hbu : base ≤ 36) (hg : ¬ Good base bs) :
    Calls Tryd.prog 72 #[.string (strB bs), .int .i64 ((base : Nat) : Int)] w (Gv w (T2 (Is (.slice none 0 0)) (Is (.int .i64 7)))) := by
  refine sx_enter Tryd.func72 rfl (n := 36) rfl (Nat.le_of_ble_eq_true rfl) (args := [.string (strB bs), .int .i64 ((base : Nat) : Int)]) ?_
  refine cw_keep [(0, .string (strB bs)), (1, .int .i64 ((base : Nat) : Int))] ⟨rfl, rfl, trivial⟩ ?_
  refine cw_seq ?_
  refine cw_region ?_
  refine wl_assign rfl rfl (by decide) ?_
  refine wl_assign rfl rfl (by decide) ?_
  refine wl_nil ?_
  refine eo_then ?_
  refine cw_seq ?_
  refine cw_seq ?_
  refine cw_region ?_
  refine wl_move rfl rfl (by decide) ?_
  refine wl_cmp rfl rfl rfl false (cb_lt_f (a := base) (b := 2) rfl rfl (by omega)) (by decide) ?_
  refine wl_move rfl rfl (by decide) ?_
  refine wl_move rfl rfl (by decide) ?_
  refine wl_cmp rfl rfl rfl false (cb_gt_f (a := base) (b := 36) rfl rfl (by omega)) (by decide) ?_
  refine wl_pure rfl rfl (v := .bool false) (by decide) (by kernel_rfl) ?_
  refine wl_nil ?_
  refine eo_then ?_
  refine cw_false rfl ?_
  refine cw_skip ?_
  refine eo_then ?_
  refine cw_seq ?_
  refine cw_seq ?_
  by_cases hne : bs = []
  ·
    refine cw_region ?_
    refine wl_move rfl rfl (by decide) ?_
    refine wl_streq (a := bs) (b := []) rfl rfl rfl hbs (by decide) true (strE_eql_t (hne)) (by decide) ?_
    refine wl_nil ?_
    refine eo_then ?_
    refine cw_true rfl ?_
    refine cw_seq ?_
    refine cw_region ?_
    refine wl_assign rfl rfl (by decide) ?_
    refine wl_assign rfl rfl (by decide) ?_
    refine wl_nil ?_
    refine eo_then ?_
    refine cw_ret ?_
    refine eo_thenR ?_
    refine eo_ret [.slice none 0 0, .int .i64 7] rfl ⟨rfl, rfl, trivial⟩ ?_
    exact ⟨_, rfl, ⟨_, _, rfl, rfl, rfl⟩, (Ext.refl w)⟩
  ·
    refine cw_region ?_
    refine wl_move rfl rfl (by decide) ?_
    refine wl_streq (a := bs) (b := []) rfl rfl rfl hbs (by decide) false (strE_eql_f (hne)) (by decide) ?_
    refine wl_nil ?_
    refine eo_then ?_
    refine cw_false rfl ?_
    refine cw_skip ?_
    refine eo_then ?_
    refine cw_seq ?_
    refine cw_region ?_
    refine wl_assign rfl rfl (by decide) ?_
    refine wl_nil ?_
    refine eo_then ?_
    refine cw_seq ?_
    refine cw_seq ?_
    refine cw_region ?_
    refine wl_assign rfl rfl (by decide) ?_
    refine wl_nil ?_
    refine eo_then ?_
    refine cw_block ?_
    refine cw_loop (T := World × Nat × List Nat × Option Addr × Nat × Nat)
      (fun ⟨wr, i, l, DA, dn, dc⟩ => [(0, .string (strB bs)), (1, .int .i64 ((base : Nat) : Int)), (6, .slice DA dn dc), (7, .int .i64 ((i : Nat) : Int))])
      (fun ⟨wr, i, l, DA, dn, dc⟩ => wr)
      (fun ⟨wr, i, l, DA, dn, dc⟩ => (Ext w wr) ∧ (i ≤ bs.length) ∧ (Own wr w.heap.size 3 1 DA dn dc (l.map I6)) ∧ (dn ≤ i) ∧ (Wfb 65536 l) ∧ (nb 65536 l = vald base ((bs.take i).map dv)) ∧ (∀ c, c ∈ bs.take i → dv c < base))
      (fun ⟨wr, i, l, DA, dn, dc⟩ => bs.length - i)
      (⟨w, 0, [], none, 0, 0⟩ : World × Nat × List Nat × Option Addr × Nat × Nat) ⟨(Ext.refl w), (Nat.zero_le _), (Own.nil _ _ _ _), (Nat.zero_le _), (Wfb_nil _), rfl, (fun c hc => absurd hc (by simp))⟩ rfl ⟨rfl, rfl, rfl, rfl, trivial⟩ ?_
    rintro ⟨wr, i, l, DA, dn, dc⟩ ⟨hw1, hi, hD, hdn, hwl, hv, hok⟩
    refine cw_re [(0, .string (strB bs)), (1, .int .i64 ((base : Nat) : Int)), (6, .slice DA dn dc), (7, .int .i64 ((i : Nat) : Int))] wr rfl ⟨rfl, rfl, rfl, rfl, trivial⟩ ?_
    refine cw_seq ?_
    refine cw_seq ?_
    by_cases hlt : i < bs.length
    ·
      refine cw_region ?_
      refine wl_move rfl rfl (by decide) ?_
      refine wl_move rfl rfl (by decide) ?_
      refine wl_pureE rfl rfl (v := .int .i64 (((strB bs).size : Nat) : Int)) (v' := .int .i64 ((bs.length : Nat) : Int)) (by decide) (by kernel_rfl) (by rw [strB_size]) ?_
      refine wl_cmp rfl rfl rfl true (cb_lt_t (a := i) (b := bs.length) rfl rfl (by omega)) (by decide) ?_
      refine wl_nil ?_
      refine eo_then ?_
      refine cw_true rfl ?_
      refine cw_skip ?_
      refine eo_then ?_
      refine cw_seq ?_
      refine cw_block ?_
      refine cw_seq ?_
      have hc255 : bs.getD i 0 ≤ 255 := by have := hbs _ (getD_mem hlt); omega
      by_cases hdc : dv (bs.getD i 0) < base
      ·
        refine cw_region ?_
        refine wl_move rfl rfl (by decide) ?_
        refine wl_move rfl rfl (by decide) ?_
        refine wl_strix (bs := bs) (i := i) rfl rfl rfl Tryd.underlying9 hbs (by omega) (by decide) ?_
        refine wl_call rfl rfl (vs := [.int .u8 ((bs.getD i 0 : Nat) : Int)]) (by kernel_rfl) (by decide) (ref4_value_ok hc255 (Nat.lt_of_lt_of_le hdc hbu)) ?_
        rintro _ v2 ⟨xr4, rfl, r4, e3⟩
        refine ret_intro ?_
        have hw2 : Ext w v2 := hw1.trans e3
        obtain rfl := r4
        refine wl_assign rfl rfl (by decide) ?_
        refine wl_nil ?_
        refine eo_then ?_
        refine cw_seq ?_
        refine cw_seq ?_
        refine cw_region ?_
        refine wl_move rfl rfl (by decide) ?_
        refine wl_move rfl rfl (by decide) ?_
        refine wl_cmp rfl rfl rfl false (cb_ge_f (a := dv (bs.getD i 0)) (b := base) rfl rfl (by omega)) (by decide) ?_
        refine wl_nil ?_
        refine eo_then ?_
        refine cw_false rfl ?_
        refine cw_skip ?_
        refine eo_then ?_
        refine cw_region ?_
        refine wl_move rfl rfl (by decide) ?_
        refine wl_move rfl rfl (by decide) ?_
        refine wl_move rfl rfl (by decide) ?_
        have ow5 := (hD.ext e3)
        refine wl_call rfl rfl (vs := [.slice DA dn dc, .int .i64 ((base : Nat) : Int), .int .i64 ((dv (bs.getD i 0) : Nat) : Int)]) (by kernel_rfl) (by decide) (ref4_onto ow5 hw2.size hwl hbl hbu (by omega) (by omega)) ?_
        rintro _ v6 ⟨A8, n9, c10, es7, rfl, ho11, hle12, hl13, hwf14, hv15, uo16⟩
        refine ret_intro ?_
        have hw3 : Ext w v6 := uo16.ext hw2 (fun p hp => (ow5.block p hp).1)
        refine wl_assign rfl rfl (by decide) ?_
        refine wl_nil ?_
        refine eo_block_normal ?_
        refine eo_then ?_
        refine cw_region ?_
        refine wl_move rfl rfl (by decide) ?_
        refine wl_ar rfl rfl rfl ((i + 1 : Nat) : Int) (ai_add (a := i) (b := 1) rfl rfl (by omega)) (by decide) ?_
        refine wl_assign rfl rfl (by decide) ?_
        refine wl_nil ?_
        refine eo_round (⟨v6, i + 1, es7, A8, n9, c10⟩ : World × Nat × List Nat × Option Addr × Nat × Nat) ⟨hw3, (by omega), ho11, (by omega), hwf14, (by rw [hv15, hv, take_snoc4 hlt, List.map_append, List.map_cons, List.map_nil, vald_snoc]), (fun c hc => by rw [take_snoc4 hlt] at hc; rcases List.mem_append.1 hc with h | h; (· exact hok c h); (· rw [List.mem_singleton.1 h]; exact hdc))⟩ (show bs.length - (i + 1) < bs.length - i by omega) rfl ⟨rfl, rfl, rfl, rfl, trivial⟩
      ·
        refine cw_region ?_
        refine wl_move rfl rfl (by decide) ?_
        refine wl_move rfl rfl (by decide) ?_
        refine wl_strix (bs := bs) (i := i) rfl rfl rfl Tryd.underlying9 hbs (by omega) (by decide) ?_
        refine wl_call rfl rfl (vs := [.int .u8 ((bs.getD i 0 : Nat) : Int)]) (by kernel_rfl) (by decide) (ref4_value hc255) ?_
        rintro _ v18 ⟨xr20, rfl, r20, e19⟩
        refine ret_intro ?_
        have hw2 : Ext w v18 := hw1.trans e19
        obtain rfl := r20
        refine wl_assign rfl rfl (by decide) ?_
        refine wl_nil ?_
        refine eo_then ?_
        refine cw_seq ?_
        refine cw_seq ?_
        refine cw_region ?_
        refine wl_move rfl rfl (by decide) ?_
        refine wl_move rfl rfl (by decide) ?_
        refine wl_cmp rfl rfl rfl true (ge_t (by split <;> omega)) (by decide) ?_
        refine wl_nil ?_
        refine eo_then ?_
        refine cw_true rfl ?_
        refine cw_seq ?_
        refine cw_region ?_
        refine wl_assign rfl rfl (by decide) ?_
        refine wl_assign rfl rfl (by decide) ?_
        refine wl_nil ?_
        refine eo_then ?_
        refine cw_ret ?_
        refine eo_thenR ?_
        refine eo_block_ret ?_
        refine eo_thenR ?_
        refine eo_loopR ?_
        refine eo_block_ret ?_
        refine eo_thenR ?_
        refine eo_ret [.slice none 0 0, .int .i64 7] rfl ⟨rfl, rfl, trivial⟩ ?_
        exact ⟨_, rfl, ⟨_, _, rfl, rfl, rfl⟩, hw2⟩
    ·
      have hie : i = bs.length := by omega
      rw [hie, List.take_length] at hok hv
      exact absurd ⟨hne, hok⟩ hg
set_option maxHeartbeats 4000000 in
theorem ref4_Read_badb {w : World} {bs : List Nat} {b : Int} (hbad : b < 2 ∨ 36 < b) :
    Calls Tryd.prog 72 #[.string (strB bs), .int .i64 b] w (Gv w (T2 (Is (.slice none 0 0)) (Is (.int .i64 3)))) := by
  refine sx_enter Tryd.func72 rfl (n := 36) rfl (Nat.le_of_ble_eq_true rfl) (args := [.string (strB bs), .int .i64 b]) ?_
  refine cw_keep [(0, .string (strB bs)), (1, .int .i64 b)] ⟨rfl, rfl, trivial⟩ ?_
  refine cw_seq ?_
  refine cw_region ?_
  refine wl_assign rfl rfl (by decide) ?_
  refine wl_assign rfl rfl (by decide) ?_
  refine wl_nil ?_
  refine eo_then ?_
  refine cw_seq ?_
  refine cw_seq ?_
  rcases hbad with hbad | hbad
  ·
    refine cw_region ?_
    refine wl_move rfl rfl (by decide) ?_
    refine wl_cmp rfl rfl rfl true (lt_t hbad) (by decide) ?_
    refine wl_move rfl rfl (by decide) ?_
    refine wl_off rfl (by decide) ?_
    refine wl_off rfl (by decide) ?_
    refine wl_pure rfl rfl (v := .bool true) (by decide) (by kernel_rfl) ?_
    refine wl_nil ?_
    refine eo_then ?_
    refine cw_true rfl ?_
    refine cw_seq ?_
    refine cw_region ?_
    refine wl_assign rfl rfl (by decide) ?_
    refine wl_assign rfl rfl (by decide) ?_
    refine wl_nil ?_
    refine eo_then ?_
    refine cw_ret ?_
    refine eo_thenR ?_
    refine eo_ret [.slice none 0 0, .int .i64 3] rfl ⟨rfl, rfl, trivial⟩ ?_
    exact ⟨_, rfl, ⟨_, _, rfl, rfl, rfl⟩, (Ext.refl w)⟩
  ·
    refine cw_region ?_
    refine wl_move rfl rfl (by decide) ?_
    refine wl_cmp rfl rfl rfl false (lt_f (by omega)) (by decide) ?_
    refine wl_move rfl rfl (by decide) ?_
    refine wl_move rfl rfl (by decide) ?_
    refine wl_cmp rfl rfl rfl true (gt_t hbad) (by decide) ?_
    refine wl_pure rfl rfl (v := .bool true) (by decide) (by kernel_rfl) ?_
    refine wl_nil ?_
    refine eo_then ?_
    refine cw_true rfl ?_
    refine cw_seq ?_
    refine cw_region ?_
    refine wl_assign rfl rfl (by decide) ?_
    refine wl_assign rfl rfl (by decide) ?_
    refine wl_nil ?_
    refine eo_then ?_
    refine cw_ret ?_
    refine eo_thenR ?_
    refine eo_ret [.slice none 0 0, .int .i64 3] rfl ⟨rfl, rfl, trivial⟩ ?_
    exact ⟨_, rfl, ⟨_, _, rfl, rfl, rfl⟩, (Ext.refl w)⟩
set_option maxHeartbeats 4000000 in
theorem ref4_Text_bad {w : World} {A : Option Addr} {n c : Nat} {b : Int} (hbad : b < 2 ∨ 36 < b) :
    Calls Tryd.prog 78 #[.slice A n c, .int .i64 b] w (Gv w (T2 (Is (.string (strB []))) (Is (.int .i64 3)))) := by
  refine sx_enter Tryd.func78 rfl (n := 72) rfl (Nat.le_of_ble_eq_true rfl) (args := [.slice A n c, .int .i64 b]) ?_
  refine cw_keep [(0, .slice A n c), (1, .int .i64 b)] ⟨rfl, rfl, trivial⟩ ?_
  refine cw_seq ?_
  refine cw_region ?_
  refine wl_assign rfl rfl (by decide) ?_
  refine wl_assign rfl rfl (by decide) ?_
  refine wl_nil ?_
  refine eo_then ?_
  refine cw_seq ?_
  refine cw_seq ?_
  rcases hbad with hbad | hbad
  ·
    refine cw_region ?_
    refine wl_move rfl rfl (by decide) ?_
    refine wl_cmp rfl rfl rfl true (lt_t hbad) (by decide) ?_
    refine wl_move rfl rfl (by decide) ?_
    refine wl_off rfl (by decide) ?_
    refine wl_off rfl (by decide) ?_
    refine wl_pure rfl rfl (v := .bool true) (by decide) (by kernel_rfl) ?_
    refine wl_nil ?_
    refine eo_then ?_
    refine cw_true rfl ?_
    refine cw_seq ?_
    refine cw_region ?_
    refine wl_assign rfl rfl (by decide) ?_
    refine wl_assign rfl rfl (by decide) ?_
    refine wl_nil ?_
    refine eo_then ?_
    refine cw_ret ?_
    refine eo_thenR ?_
    refine eo_ret [.string (strB ([])), .int .i64 3] rfl ⟨rfl, rfl, trivial⟩ ?_
    exact ⟨_, rfl, ⟨_, _, rfl, rfl, rfl⟩, (Ext.refl w)⟩
  ·
    refine cw_region ?_
    refine wl_move rfl rfl (by decide) ?_
    refine wl_cmp rfl rfl rfl false (lt_f (by omega)) (by decide) ?_
    refine wl_move rfl rfl (by decide) ?_
    refine wl_move rfl rfl (by decide) ?_
    refine wl_cmp rfl rfl rfl true (gt_t hbad) (by decide) ?_
    refine wl_pure rfl rfl (v := .bool true) (by decide) (by kernel_rfl) ?_
    refine wl_nil ?_
    refine eo_then ?_
    refine cw_true rfl ?_
    refine cw_seq ?_
    refine cw_region ?_
    refine wl_assign rfl rfl (by decide) ?_
    refine wl_assign rfl rfl (by decide) ?_
    refine wl_nil ?_
    refine eo_then ?_
    refine cw_ret ?_
    refine eo_thenR ?_
    refine eo_ret [.string (strB ([])), .int .i64 3] rfl ⟨rfl, rfl, trivial⟩ ?_
    exact ⟨_, rfl, ⟨_, _, rfl, rfl, rfl⟩, (Ext.refl w)⟩
set_option maxHeartbeats 4000000 in
theorem ref4_ReadDec_good {w : World} {bs : List Nat} (hbs : ∀ b, b ∈ bs → b < 256) (hlen : bs.length ≤ 17179869184) (hg : Good 10 bs) :
    Calls Tryd.prog 73 #[.string (strB bs)] w (Gv w (T2 (WR w.heap.size (vald 10 (bs.map dv))) (Is (.int .i64 0)))) := by
  refine sx_enter Tryd.func73 rfl (n := 8) rfl (Nat.le_of_ble_eq_true rfl) (args := [.string (strB bs)]) ?_
  refine cw_keep [(0, .string (strB bs))] ⟨rfl, trivial⟩ ?_
  refine cw_seq ?_
  refine cw_region ?_
  refine wl_assign rfl rfl (by decide) ?_
  refine wl_assign rfl rfl (by decide) ?_
  refine wl_nil ?_
  refine eo_then ?_
  refine cw_seq ?_
  refine cw_region ?_
  refine wl_move rfl rfl (by decide) ?_
  refine wl_call rfl rfl (vs := [.string (strB bs), .int .i64 10]) (by kernel_rfl) (by decide) (ref4_Read_good hbs hlen (by decide) (by decide) hg) ?_
  rintro _ v1 ⟨xr3, rfl, r3, e2⟩
  refine ret_intro ?_
  have hw1 : Ext w v1 := (Ext.refl w).trans e2
  obtain ⟨a4_0, a4_1, rfl, r4_0, r4_1⟩ := r3
  obtain ⟨A5, n5, c5, rfl, j5, o5⟩ := r4_0
  obtain rfl := r4_1
  refine wl_pure rfl rfl (v := .slice A5 n5 c5) (by decide) (by kernel_rfl) ?_
  refine wl_pure rfl rfl (v := .int .i64 0) (by decide) (by kernel_rfl) ?_
  refine wl_assign rfl rfl (by decide) ?_
  refine wl_assign rfl rfl (by decide) ?_
  refine wl_nil ?_
  refine eo_then ?_
  refine cw_ret ?_
  refine eo_ret [.slice A5 n5 c5, .int .i64 0] rfl ⟨rfl, rfl, trivial⟩ ?_
  exact ⟨_, rfl, ⟨_, _, rfl, ⟨_, _, _, rfl, j5, o5⟩, rfl⟩, hw1⟩
set_option maxHeartbeats 4000000 in
theorem ref4_ReadDec_bad {w : World} {bs : List Nat} (hbs : ∀ b, b ∈ bs → b < 256) (hlen : bs.length ≤ 17179869184) (hg : ¬ Good 10 bs) :
    Calls Tryd.prog 73 #[.string (strB bs)] w (Gv w (T2 (Is (.slice none 0 0)) (Is (.int .i64 7)))) := by
  refine sx_enter Tryd.func73 rfl (n := 8) rfl (Nat.le_of_ble_eq_true rfl) (args := [.string (strB bs)]) ?_
  refine cw_keep [(0, .string (strB bs))] ⟨rfl, trivial⟩ ?_
  refine cw_seq ?_
  refine cw_region ?_
  refine wl_assign rfl rfl (by decide) ?_
  refine wl_assign rfl rfl (by decide) ?_
  refine wl_nil ?_
  refine eo_then ?_
  refine cw_seq ?_
  refine cw_region ?_
  refine wl_move rfl rfl (by decide) ?_
  refine wl_call rfl rfl (vs := [.string (strB bs), .int .i64 10]) (by kernel_rfl) (by decide) (ref4_Read_bad hbs hlen (by decide) (by decide) hg) ?_
  rintro _ v1 ⟨xr3, rfl, r3, e2⟩
  refine ret_intro ?_
  have hw1 : Ext w v1 := (Ext.refl w).trans e2
  obtain ⟨a4_0, a4_1, rfl, r4_0, r4_1⟩ := r3
  obtain rfl := r4_0
  obtain rfl := r4_1
  refine wl_pure rfl rfl (v := .slice none 0 0) (by decide) (by kernel_rfl) ?_
  refine wl_pure rfl rfl (v := .int .i64 7) (by decide) (by kernel_rfl) ?_
  refine wl_assign rfl rfl (by decide) ?_
  refine wl_assign rfl rfl (by decide) ?_
  refine wl_nil ?_
  refine eo_then ?_
  refine cw_ret ?_
  refine eo_ret [.slice none 0 0, .int .i64 7] rfl ⟨rfl, rfl, trivial⟩ ?_
  exact ⟨_, rfl, ⟨_, _, rfl, rfl, rfl⟩, hw1⟩
theorem filter_one {c : Nat} (h : c ≠ 95) : [c].filter (· ≠ 95) = [c] := by simp [h]
theorem filter_none : [95].filter (· ≠ (95 : Nat)) = [] := by decide
theorem dv10_iff {c : Nat} : dv c < 10 ↔ 48 ≤ c ∧ c ≤ 57 := by
  unfold dv
  constructor
  · intro h; (repeat' split at h) <;> omega
  · intro h; rw [if_pos h]; omega
theorem getD_eq_of {l : List Nat} {i x : Nat} (hi : i < l.length) (h : l.getD i 0 = x) : l[i] = x := by rwa [List.getD_eq_getElem?_getD, List.getElem?_eq_getElem hi, Option.getD_some] at h
/-- two '_' side by side -/
theorem twice_at {l : List Nat} : ∀ {i : Nat}, i + 1 < l.length → l.getD i 0 = 95 → l.getD (i + 1) 0 = 95 → twice l = true := by
  induction l with
  | nil => intro i h; simp at h
  | cons c r ih =>
    intro i h h1 h2
    cases i with
    | zero =>
      cases r with
      | nil => simp at h
      | cons x r' => simp at h1 h2; simp [twice, h1, h2]
    | succ i =>
      rw [List.getD_cons_succ] at h1 h2
      rw [twice, ih (by simpa using h) h1 h2, Bool.or_true]
theorem twice_ex {l : List Nat} (h : twice l = true) : ∃ i, i + 1 < l.length ∧ l.getD i 0 = 95 ∧ l.getD (i + 1) 0 = 95 := by
  induction l with
  | nil => cases h
  | cons c r ih =>
    rw [twice, Bool.or_eq_true, Bool.and_eq_true, decide_eq_true_eq, decide_eq_true_eq] at h
    rcases h with ⟨h1, h2⟩ | h
    · cases r with
      | nil => cases h2
      | cons x r' => exact ⟨0, by simp, by simpa using h1, by simpa using h2⟩
    · obtain ⟨i, h1, h2, h3⟩ := ih h
      exact ⟨i + 1, by simpa using h1, by simpa using h2, by simpa using h3⟩
theorem grp_notmixed {l : List Nat} : ∀ {b : Bool} {i : Nat}, i < l.length → ¬ (48 ≤ l.getD i 0 ∧ l.getD i 0 ≤ 57) → l.getD i 0 ≠ 95 → grp b l = none := by
  induction l with
  | nil => intro b i h; simp at h
  | cons c r ih =>
    intro b i h h1 h2
    cases i with
    | zero =>
      simp at h1 h2
      rw [grp, if_neg (fun e => h2 e.1), if_neg (fun e => by have := dv10_iff.1 e; omega)]
    | succ i =>
      rw [List.getD_cons_succ] at h1 h2
      have hi : i < r.length := by simpa using h
      rw [grp, ih hi h1 h2, ih hi h1 h2]
      split
      · rfl
      · split <;> rfl
/-- so far the document takes the text -/
structure OkG (bs : List Nat) (i : Nat) : Prop where
  ok : ∀ j, j < i → (48 ≤ bs.getD j 0 ∧ bs.getD j 0 ≤ 57) ∨ (bs.getD j 0 = 95 ∧ 0 < j ∧ j + 1 < bs.length ∧ bs.getD (j - 1) 0 ≠ 95 ∧ bs.getD (j + 1) 0 ≠ 95)
theorem OkG.zero {bs : List Nat} : OkG bs 0 := ⟨fun j hj => absurd hj (Nat.not_lt_zero _)⟩
section
variable {bs : List Nat} {i : Nat}
theorem OkG.dig (h : OkG bs i) (_ : i < bs.length) (h1 : 48 ≤ bs.getD i 0) (h2 : bs.getD i 0 ≤ 57) : OkG bs (i + 1) := ⟨fun j hj => by
  by_cases e : j = i
  · subst e; exact Or.inl ⟨h1, h2⟩
  · exact h.ok j (by omega)⟩
theorem OkG.under (h : OkG bs i) (_ : i < bs.length) (h1 : bs.getD i 0 = 95) (h2 : i > 0) (h3 : i + 1 < bs.length) (h4 : bs.getD (i - 1) 0 ≠ 95) (h5 : bs.getD (i + 1) 0 ≠ 95) : OkG bs (i + 1) := ⟨fun j hj => by
  by_cases e : j = i
  · subst e; exact Or.inr ⟨h1, h2, h3, h4, h5⟩
  · exact h.ok j (by omega)⟩
theorem OkG.bad (_ : OkG bs i) (hi : i < bs.length) (h : ¬ (48 ≤ bs.getD i 0 ∧ bs.getD i 0 ≤ 57)) (h2 : bs.getD i 0 ≠ 95) : grp false bs = none := grp_notmixed hi h h2
/-- refused, if it is made of digits and '_' alone, then so in any case -/
theorem grp_none_of (h : mixed bs → grp false bs = none) : grp false bs = none := by
  by_cases hm : mixed bs
  · exact h hm
  · unfold mixed at hm
    have : ∃ c, c ∈ bs ∧ ¬ (dv c < 10 ∨ c = 95) := by
      refine Classical.byContradiction fun hn => hm fun c hc => Classical.byContradiction fun hc2 => hn ⟨c, hc, hc2⟩
    obtain ⟨c, hc, hn⟩ := this
    obtain ⟨k, hk, rfl⟩ := List.getElem_of_mem hc
    have e : bs.getD k 0 = bs[k] := by rw [List.getD_eq_getElem?_getD, List.getElem?_eq_getElem hk]; rfl
    refine grp_notmixed hk ?_ ?_
    · rw [e]; intro h; exact hn (Or.inl (dv10_iff.2 h))
    · rw [e]; intro h; exact hn (Or.inr h)
theorem OkG.first (_ : OkG bs i) (hi : i < bs.length) (_ : ¬ (48 ≤ bs.getD i 0 ∧ bs.getD i 0 ≤ 57)) (h0 : i = 0) (h1 : bs.getD i 0 = 95) : grp false bs = none := grp_none_of fun hm => by
  subst h0
  have h2 : bs.headD 95 = 95 := by
    cases bs with
    | nil => rfl
    | cons x r => simpa using h1
  rw [grp_mixed hm, if_pos (Or.inl ⟨rfl, h2⟩)]
theorem OkG.last (_ : OkG bs i) (hi : i < bs.length) (_ : ¬ (48 ≤ bs.getD i 0 ∧ bs.getD i 0 ≤ 57)) (h0 : ¬ i + 1 < bs.length) (h1 : bs.getD i 0 = 95) : grp false bs = none := grp_none_of fun hm => by
  have hne : bs ≠ [] := fun e => by rw [e] at hi; simp at hi
  have h2 : bs.getLast? = some 95 := by rw [List.getLast?_eq_getElem?, show bs.length - 1 = i by omega, List.getElem?_eq_getElem hi, getD_eq_of hi h1]
  rw [grp_mixed hm, if_pos (Or.inr (Or.inr ⟨hne, h2⟩))]
theorem OkG.notP (_ : OkG bs i) (hi : i < bs.length) (_ : ¬ (48 ≤ bs.getD i 0 ∧ bs.getD i 0 ≤ 57)) (h0 : i > 0) (hp : bs.getD (i - 1) 0 = 95) (h1 : bs.getD i 0 = 95) : grp false bs = none := grp_none_of fun hm => by
  rw [grp_mixed hm, if_pos (Or.inr (Or.inl (twice_at (i := i - 1) (by omega) hp (by rw [Nat.sub_add_cancel h0]; exact h1))))]
theorem OkG.notQ (_ : OkG bs i) (_ : i < bs.length) (_ : ¬ (48 ≤ bs.getD i 0 ∧ bs.getD i 0 ≤ 57)) (h0 : i + 1 < bs.length) (hq : bs.getD (i + 1) 0 = 95) (h1 : bs.getD i 0 = 95) : grp false bs = none := grp_none_of fun hm => by
  rw [grp_mixed hm, if_pos (Or.inr (Or.inl (twice_at h0 h1 hq)))]
theorem OkG.nil (_ : OkG bs bs.length) (h : bs = []) : grp false bs = none := by subst h; rfl
theorem OkG.all (h : OkG bs bs.length) (hne : bs ≠ []) : grp false bs = some (bs.filter (· ≠ 95)) ∧ Good 10 (bs.filter (· ≠ 95)) := by
  have hp : 0 < bs.length := List.length_pos_iff.2 hne
  have hm : mixed bs := fun c hc => by
    obtain ⟨k, hk, rfl⟩ := List.getElem_of_mem hc
    have e : bs.getD k 0 = bs[k] := by rw [List.getD_eq_getElem?_getD, List.getElem?_eq_getElem hk]; rfl
    rcases h.ok k hk with h1 | h1
    · rw [e] at h1; exact Or.inl (dv10_iff.2 h1)
    · rw [e] at h1; exact Or.inr h1.1
  have h0 : bs.getD 0 0 ≠ 95 := by
    rcases h.ok 0 hp with h1 | h1
    · omega
    · exact absurd h1.2.1 (Nat.lt_irrefl _)
  have hf : bs.filter (· ≠ 95) ≠ [] := fun e => by
    have h3 : bs.getD 0 0 ∈ bs.filter (· ≠ 95) := List.mem_filter.2 ⟨getD_mem hp, by simpa using h0⟩
    rw [e] at h3; simp at h3
  refine ⟨?_, hf, fun c hc => ?_⟩
  · rw [grp_mixed hm, if_neg]
    rintro (⟨_, h1⟩ | h1 | ⟨_, h1⟩)
    · cases bs with
      | nil => exact hne rfl
      | cons x r => exact h0 (by simpa using h1)
    · obtain ⟨i, h2, h3, h4⟩ := twice_ex h1
      rcases h.ok i (by omega) with h5 | h5
      · omega
      · exact h5.2.2.2.2 h4
    · rw [List.getLast?_eq_getElem?, List.getElem?_eq_getElem (by omega), Option.some.injEq] at h1
      rcases h.ok (bs.length - 1) (by omega) with h5 | h5
      · rw [List.getD_eq_getElem?_getD, List.getElem?_eq_getElem (by omega), Option.getD_some, h1] at h5; omega
      · exact absurd h5.2.2.1 (by omega)
  · obtain ⟨h1, h2⟩ := List.mem_filter.1 hc
    rcases hm c h1 with h3 | h3
    · exact h3
    · simp [h3] at h2
end
set_option maxHeartbeats 4000000 in
theorem ref4_ReadGrouped_all {w : World} {bs : List Nat} (hbs : ∀ b, b ∈ bs → b < 256) (hlen : bs.length ≤ 17179869184) :
    Calls Tryd.prog 74 #[.string (strB bs)] w (fun e w' => (∀ pl, grp false bs = some pl → Gv w (T2 (WR w.heap.size (vald 10 (pl.map dv))) (Is (.int .i64 0))) e w') ∧ (grp false bs = none → Gv w (T2 (Is (.slice none 0 0)) (Is (.int .i64 7))) e w')) := by
  refine sx_enter Tryd.func74 rfl (n := 71) rfl (Nat.le_of_ble_eq_true rfl) (args := [.string (strB bs)]) ?_
  refine cw_keep [(0, .string (strB bs))] ⟨rfl, trivial⟩ ?_
  refine cw_seq ?_
  refine cw_region ?_
  refine wl_assign rfl rfl (by decide) ?_
  refine wl_assign rfl rfl (by decide) ?_
  refine wl_nil ?_
  refine eo_then ?_
  refine cw_seq ?_
  refine cw_region ?_
  refine wl_assign rfl rfl (by decide) ?_
  refine wl_nil ?_
  refine eo_then ?_
  refine cw_seq ?_
  refine cw_seq ?_
  refine cw_region ?_
  refine wl_assign rfl rfl (by decide) ?_
  refine wl_nil ?_
  refine eo_then ?_
  refine cw_block ?_
  refine cw_loop (T := World × Nat × Option Addr × Nat × Nat)
    (fun ⟨wr, i, OA, on, oc⟩ => [(0, .string (strB bs)), (4, .slice OA on oc), (5, .int .i64 ((i : Nat) : Int))])
    (fun ⟨wr, i, OA, on, oc⟩ => wr)
    (fun ⟨wr, i, OA, on, oc⟩ => (Ext w wr) ∧ (Own wr w.heap.size 5 1 OA on oc (((bs.take i).filter (· ≠ 95)).map B8)) ∧ (i ≤ bs.length) ∧ (OkG bs i) ∧ (on ≤ i))
    (fun ⟨wr, i, OA, on, oc⟩ => bs.length - i)
    (⟨w, 0, none, 0, 0⟩ : World × Nat × Option Addr × Nat × Nat) ⟨(Ext.refl w), (Own.nil _ _ _ _), (Nat.zero_le _), OkG.zero, (Nat.le_refl _)⟩ rfl ⟨rfl, rfl, rfl, trivial⟩ ?_
  rintro ⟨wr, i, OA, on, oc⟩ ⟨hw1, hO, hi, hok, hon⟩
  refine cw_re [(0, .string (strB bs)), (4, .slice OA on oc), (5, .int .i64 ((i : Nat) : Int))] wr rfl ⟨rfl, rfl, rfl, trivial⟩ ?_
  refine cw_seq ?_
  refine cw_seq ?_
  by_cases hlt : i < bs.length
  ·
    refine cw_region ?_
    refine wl_move rfl rfl (by decide) ?_
    refine wl_move rfl rfl (by decide) ?_
    refine wl_pureE rfl rfl (v := .int .i64 (((strB bs).size : Nat) : Int)) (v' := .int .i64 ((bs.length : Nat) : Int)) (by decide) (by kernel_rfl) (by rw [strB_size]) ?_
    refine wl_cmp rfl rfl rfl true (cb_lt_t (a := i) (b := bs.length) rfl rfl (by omega)) (by decide) ?_
    refine wl_nil ?_
    refine eo_then ?_
    refine cw_true rfl ?_
    refine cw_skip ?_
    refine eo_then ?_
    refine cw_seq ?_
    refine cw_block ?_
    refine cw_seq ?_
    have hb8 : bs.getD i 0 ≤ 255 := by have := hbs _ (getD_mem hlt); omega
    by_cases h48 : bs.getD i 0 ≥ 48
    ·
      by_cases h57 : bs.getD i 0 ≤ 57
      ·
        refine cw_region ?_
        refine wl_move rfl rfl (by decide) ?_
        refine wl_move rfl rfl (by decide) ?_
        refine wl_strix (bs := bs) (i := i) rfl rfl rfl Tryd.underlying9 hbs (by omega) (by decide) ?_
        refine wl_cmp rfl rfl rfl true (cb_ge_t (a := bs.getD i 0) (b := 48) rfl rfl (by omega)) (by decide) ?_
        refine wl_move rfl rfl (by decide) ?_
        refine wl_move rfl rfl (by decide) ?_
        refine wl_move rfl rfl (by decide) ?_
        refine wl_strix (bs := bs) (i := i) rfl rfl rfl Tryd.underlying9 hbs (by omega) (by decide) ?_
        refine wl_cmp rfl rfl rfl true (cb_le_t (a := bs.getD i 0) (b := 57) rfl rfl (by omega)) (by decide) ?_
        refine wl_pure rfl rfl (v := .bool true) (by decide) (by kernel_rfl) ?_
        refine wl_assign rfl rfl (by decide) ?_
        refine wl_nil ?_
        refine eo_then ?_
        refine cw_seq ?_
        by_cases hi0 : i > 0
        ·
          by_cases hi1 : i + 1 < bs.length
          ·
            by_cases hp95 : bs.getD (i - 1) 0 ≠ 95
            ·
              by_cases hq95 : bs.getD (i + 1) 0 ≠ 95
              ·
                refine cw_region ?_
                refine wl_move rfl rfl (by decide) ?_
                refine wl_cmp rfl rfl rfl true (cb_gt_t (a := i) (b := 0) rfl rfl (by omega)) (by decide) ?_
                refine wl_move rfl rfl (by decide) ?_
                refine wl_move rfl rfl (by decide) ?_
                refine wl_ar rfl rfl rfl ((i + 1 : Nat) : Int) (ai_add (a := i) (b := 1) rfl rfl (by omega)) (by decide) ?_
                refine wl_move rfl rfl (by decide) ?_
                refine wl_pureE rfl rfl (v := .int .i64 (((strB bs).size : Nat) : Int)) (v' := .int .i64 ((bs.length : Nat) : Int)) (by decide) (by kernel_rfl) (by rw [strB_size]) ?_
                refine wl_cmp rfl rfl rfl true (cb_lt_t (a := i + 1) (b := bs.length) rfl rfl (by omega)) (by decide) ?_
                refine wl_pure rfl rfl (v := .bool true) (by decide) (by kernel_rfl) ?_
                refine wl_move rfl rfl (by decide) ?_
                refine wl_move rfl rfl (by decide) ?_
                refine wl_move rfl rfl (by decide) ?_
                refine wl_ar rfl rfl rfl ((i - 1 : Nat) : Int) (ai_sub (a := i) (b := 1) rfl rfl (by omega) (by omega)) (by decide) ?_
                refine wl_strix (bs := bs) (i := i - 1) rfl rfl rfl Tryd.underlying9 hbs (by omega) (by decide) ?_
                refine wl_cmp rfl rfl rfl true (cb_ne_t (a := bs.getD (i - 1) 0) (b := 95) rfl rfl (by omega)) (by decide) ?_
                refine wl_pure rfl rfl (v := .bool true) (by decide) (by kernel_rfl) ?_
                refine wl_move rfl rfl (by decide) ?_
                refine wl_move rfl rfl (by decide) ?_
                refine wl_move rfl rfl (by decide) ?_
                refine wl_ar rfl rfl rfl ((i + 1 : Nat) : Int) (ai_add (a := i) (b := 1) rfl rfl (by omega)) (by decide) ?_
                refine wl_strix (bs := bs) (i := i + 1) rfl rfl rfl Tryd.underlying9 hbs (by omega) (by decide) ?_
                refine wl_cmp rfl rfl rfl true (cb_ne_t (a := bs.getD (i + 1) 0) (b := 95) rfl rfl (by omega)) (by decide) ?_
                refine wl_pure rfl rfl (v := .bool true) (by decide) (by kernel_rfl) ?_
                refine wl_assign rfl rfl (by decide) ?_
                refine wl_nil ?_
                refine eo_then ?_
                refine cw_seq ?_
                refine cw_seq ?_
                refine cw_region ?_
                refine wl_move rfl rfl (by decide) ?_
                refine wl_pure rfl rfl (v := .bool false) (by decide) (by kernel_rfl) ?_
                refine wl_move rfl rfl (by decide) ?_
                refine wl_off rfl (by decide) ?_
                refine wl_off rfl (by decide) ?_
                refine wl_off rfl (by decide) ?_
                refine wl_off rfl (by decide) ?_
                refine wl_off rfl (by decide) ?_
                refine wl_off rfl (by decide) ?_
                refine wl_off rfl (by decide) ?_
                refine wl_off rfl (by decide) ?_
                refine wl_pure rfl rfl (v := .bool false) (by decide) (by kernel_rfl) ?_
                refine wl_nil ?_
                refine eo_then ?_
                refine cw_false rfl ?_
                refine cw_skip ?_
                refine eo_then ?_
                refine cw_seq ?_
                refine cw_region ?_
                refine wl_move rfl rfl (by decide) ?_
                refine wl_nil ?_
                refine eo_then ?_
                refine cw_true rfl ?_
                refine cw_region ?_
                refine wl_move rfl rfl (by decide) ?_
                refine wl_move rfl rfl (by decide) ?_
                refine wl_move rfl rfl (by decide) ?_
                refine wl_strix (bs := bs) (i := i) rfl rfl rfl Tryd.underlying9 hbs (by omega) (by decide) ?_
                refine wl_bslice rfl rfl (by decide) (k := 1) (e := 5) [.int .u8 ((bs.getD i 0 : Nat) : Int)] (fun _ => by kernel_rfl) fun g1 v2 nb => ?_
                have hb3 := nb.bk
                have e4 := nb.ext
                clear nb
                have hw2 : Ext w v2 := hw1.trans e4
                have ow5 := (hO.ext e4)
                refine wl_app rfl rfl rfl un_u8 info8 rfl (by decide) (by decide) ow5 hw2.size [.int .u8 ((bs.getD i 0 : Nat) : Int)] rfl (one_news _ hb3) rfl (by omega) (by decide) fun A6 c7 v8 ho9 uo10 kp11 => ?_
                have hw3 : Ext w v8 := uo10.ext hw2 (fun p hp => (ow5.block p hp).1)
                have ho12 : Own v8 w.heap.size 5 1 A6 (on + 1) c7 ((((bs.take i).filter (· ≠ 95)) ++ [bs.getD i 0]).map B8) := by have h := ho9; simp only [List.map_append, List.map_cons, List.map_nil] at h ⊢; exact h
                refine wl_assign rfl rfl (by decide) ?_
                refine wl_nil ?_
                refine eo_block_normal ?_
                refine eo_then ?_
                refine cw_region ?_
                refine wl_move rfl rfl (by decide) ?_
                refine wl_ar rfl rfl rfl ((i + 1 : Nat) : Int) (ai_add (a := i) (b := 1) rfl rfl (by omega)) (by decide) ?_
                refine wl_assign rfl rfl (by decide) ?_
                refine wl_nil ?_
                refine eo_round (⟨v8, i + 1, A6, on + 1, c7⟩ : World × Nat × Option Addr × Nat × Nat) ⟨hw3, (by rw [take_snoc4 hlt, List.filter_append, filter_one (show bs.getD i 0 ≠ 95 by omega)]; exact ho12), (by omega), (hok.dig hlt (by omega) (by omega)), (by omega)⟩ (show bs.length - (i + 1) < bs.length - i by omega) rfl ⟨rfl, rfl, rfl, trivial⟩
              ·
                refine cw_region ?_
                refine wl_move rfl rfl (by decide) ?_
                refine wl_cmp rfl rfl rfl true (cb_gt_t (a := i) (b := 0) rfl rfl (by omega)) (by decide) ?_
                refine wl_move rfl rfl (by decide) ?_
                refine wl_move rfl rfl (by decide) ?_
                refine wl_ar rfl rfl rfl ((i + 1 : Nat) : Int) (ai_add (a := i) (b := 1) rfl rfl (by omega)) (by decide) ?_
                refine wl_move rfl rfl (by decide) ?_
                refine wl_pureE rfl rfl (v := .int .i64 (((strB bs).size : Nat) : Int)) (v' := .int .i64 ((bs.length : Nat) : Int)) (by decide) (by kernel_rfl) (by rw [strB_size]) ?_
                refine wl_cmp rfl rfl rfl true (cb_lt_t (a := i + 1) (b := bs.length) rfl rfl (by omega)) (by decide) ?_
                refine wl_pure rfl rfl (v := .bool true) (by decide) (by kernel_rfl) ?_
                refine wl_move rfl rfl (by decide) ?_
                refine wl_move rfl rfl (by decide) ?_
                refine wl_move rfl rfl (by decide) ?_
                refine wl_ar rfl rfl rfl ((i - 1 : Nat) : Int) (ai_sub (a := i) (b := 1) rfl rfl (by omega) (by omega)) (by decide) ?_
                refine wl_strix (bs := bs) (i := i - 1) rfl rfl rfl Tryd.underlying9 hbs (by omega) (by decide) ?_
                refine wl_cmp rfl rfl rfl true (cb_ne_t (a := bs.getD (i - 1) 0) (b := 95) rfl rfl (by omega)) (by decide) ?_
                refine wl_pure rfl rfl (v := .bool true) (by decide) (by kernel_rfl) ?_
                refine wl_move rfl rfl (by decide) ?_
                refine wl_move rfl rfl (by decide) ?_
                refine wl_move rfl rfl (by decide) ?_
                refine wl_ar rfl rfl rfl ((i + 1 : Nat) : Int) (ai_add (a := i) (b := 1) rfl rfl (by omega)) (by decide) ?_
                refine wl_strix (bs := bs) (i := i + 1) rfl rfl rfl Tryd.underlying9 hbs (by omega) (by decide) ?_
                refine wl_cmp rfl rfl rfl false (cb_ne_f (a := bs.getD (i + 1) 0) (b := 95) rfl rfl (by omega)) (by decide) ?_
                refine wl_pure rfl rfl (v := .bool false) (by decide) (by kernel_rfl) ?_
                refine wl_assign rfl rfl (by decide) ?_
                refine wl_nil ?_
                refine eo_then ?_
                refine cw_seq ?_
                refine cw_seq ?_
                refine cw_region ?_
                refine wl_move rfl rfl (by decide) ?_
                refine wl_pure rfl rfl (v := .bool false) (by decide) (by kernel_rfl) ?_
                refine wl_move rfl rfl (by decide) ?_
                refine wl_off rfl (by decide) ?_
                refine wl_off rfl (by decide) ?_
                refine wl_off rfl (by decide) ?_
                refine wl_off rfl (by decide) ?_
                refine wl_off rfl (by decide) ?_
                refine wl_off rfl (by decide) ?_
                refine wl_off rfl (by decide) ?_
                refine wl_off rfl (by decide) ?_
                refine wl_pure rfl rfl (v := .bool false) (by decide) (by kernel_rfl) ?_
                refine wl_nil ?_
                refine eo_then ?_
                refine cw_false rfl ?_
                refine cw_skip ?_
                refine eo_then ?_
                refine cw_seq ?_
                refine cw_region ?_
                refine wl_move rfl rfl (by decide) ?_
                refine wl_nil ?_
                refine eo_then ?_
                refine cw_true rfl ?_
                refine cw_region ?_
                refine wl_move rfl rfl (by decide) ?_
                refine wl_move rfl rfl (by decide) ?_
                refine wl_move rfl rfl (by decide) ?_
                refine wl_strix (bs := bs) (i := i) rfl rfl rfl Tryd.underlying9 hbs (by omega) (by decide) ?_
                refine wl_bslice rfl rfl (by decide) (k := 1) (e := 5) [.int .u8 ((bs.getD i 0 : Nat) : Int)] (fun _ => by kernel_rfl) fun g13 v14 nb => ?_
                have hb15 := nb.bk
                have e16 := nb.ext
                clear nb
                have hw2 : Ext w v14 := hw1.trans e16
                have ow17 := (hO.ext e16)
                refine wl_app rfl rfl rfl un_u8 info8 rfl (by decide) (by decide) ow17 hw2.size [.int .u8 ((bs.getD i 0 : Nat) : Int)] rfl (one_news _ hb15) rfl (by omega) (by decide) fun A18 c19 v20 ho21 uo22 kp23 => ?_
                have hw3 : Ext w v20 := uo22.ext hw2 (fun p hp => (ow17.block p hp).1)
                have ho24 : Own v20 w.heap.size 5 1 A18 (on + 1) c19 ((((bs.take i).filter (· ≠ 95)) ++ [bs.getD i 0]).map B8) := by have h := ho21; simp only [List.map_append, List.map_cons, List.map_nil] at h ⊢; exact h
                refine wl_assign rfl rfl (by decide) ?_
                refine wl_nil ?_
                refine eo_block_normal ?_
                refine eo_then ?_
                refine cw_region ?_
                refine wl_move rfl rfl (by decide) ?_
                refine wl_ar rfl rfl rfl ((i + 1 : Nat) : Int) (ai_add (a := i) (b := 1) rfl rfl (by omega)) (by decide) ?_
                refine wl_assign rfl rfl (by decide) ?_
                refine wl_nil ?_
                refine eo_round (⟨v20, i + 1, A18, on + 1, c19⟩ : World × Nat × Option Addr × Nat × Nat) ⟨hw3, (by rw [take_snoc4 hlt, List.filter_append, filter_one (show bs.getD i 0 ≠ 95 by omega)]; exact ho24), (by omega), (hok.dig hlt (by omega) (by omega)), (by omega)⟩ (show bs.length - (i + 1) < bs.length - i by omega) rfl ⟨rfl, rfl, rfl, trivial⟩
            ·
              refine cw_region ?_
              refine wl_move rfl rfl (by decide) ?_
              refine wl_cmp rfl rfl rfl true (cb_gt_t (a := i) (b := 0) rfl rfl (by omega)) (by decide) ?_
              refine wl_move rfl rfl (by decide) ?_
              refine wl_move rfl rfl (by decide) ?_
              refine wl_ar rfl rfl rfl ((i + 1 : Nat) : Int) (ai_add (a := i) (b := 1) rfl rfl (by omega)) (by decide) ?_
              refine wl_move rfl rfl (by decide) ?_
              refine wl_pureE rfl rfl (v := .int .i64 (((strB bs).size : Nat) : Int)) (v' := .int .i64 ((bs.length : Nat) : Int)) (by decide) (by kernel_rfl) (by rw [strB_size]) ?_
              refine wl_cmp rfl rfl rfl true (cb_lt_t (a := i + 1) (b := bs.length) rfl rfl (by omega)) (by decide) ?_
              refine wl_pure rfl rfl (v := .bool true) (by decide) (by kernel_rfl) ?_
              refine wl_move rfl rfl (by decide) ?_
              refine wl_move rfl rfl (by decide) ?_
              refine wl_move rfl rfl (by decide) ?_
              refine wl_ar rfl rfl rfl ((i - 1 : Nat) : Int) (ai_sub (a := i) (b := 1) rfl rfl (by omega) (by omega)) (by decide) ?_
              refine wl_strix (bs := bs) (i := i - 1) rfl rfl rfl Tryd.underlying9 hbs (by omega) (by decide) ?_
              refine wl_cmp rfl rfl rfl false (cb_ne_f (a := bs.getD (i - 1) 0) (b := 95) rfl rfl (by omega)) (by decide) ?_
              refine wl_pure rfl rfl (v := .bool false) (by decide) (by kernel_rfl) ?_
              refine wl_move rfl rfl (by decide) ?_
              refine wl_off rfl (by decide) ?_
              refine wl_off rfl (by decide) ?_
              refine wl_off rfl (by decide) ?_
              refine wl_off rfl (by decide) ?_
              refine wl_off rfl (by decide) ?_
              refine wl_pure rfl rfl (v := .bool false) (by decide) (by kernel_rfl) ?_
              refine wl_assign rfl rfl (by decide) ?_
              refine wl_nil ?_
              refine eo_then ?_
              refine cw_seq ?_
              refine cw_seq ?_
              refine cw_region ?_
              refine wl_move rfl rfl (by decide) ?_
              refine wl_pure rfl rfl (v := .bool false) (by decide) (by kernel_rfl) ?_
              refine wl_move rfl rfl (by decide) ?_
              refine wl_off rfl (by decide) ?_
              refine wl_off rfl (by decide) ?_
              refine wl_off rfl (by decide) ?_
              refine wl_off rfl (by decide) ?_
              refine wl_off rfl (by decide) ?_
              refine wl_off rfl (by decide) ?_
              refine wl_off rfl (by decide) ?_
              refine wl_off rfl (by decide) ?_
              refine wl_pure rfl rfl (v := .bool false) (by decide) (by kernel_rfl) ?_
              refine wl_nil ?_
              refine eo_then ?_
              refine cw_false rfl ?_
              refine cw_skip ?_
              refine eo_then ?_
              refine cw_seq ?_
              refine cw_region ?_
              refine wl_move rfl rfl (by decide) ?_
              refine wl_nil ?_
              refine eo_then ?_
              refine cw_true rfl ?_
              refine cw_region ?_
              refine wl_move rfl rfl (by decide) ?_
              refine wl_move rfl rfl (by decide) ?_
              refine wl_move rfl rfl (by decide) ?_
              refine wl_strix (bs := bs) (i := i) rfl rfl rfl Tryd.underlying9 hbs (by omega) (by decide) ?_
              refine wl_bslice rfl rfl (by decide) (k := 1) (e := 5) [.int .u8 ((bs.getD i 0 : Nat) : Int)] (fun _ => by kernel_rfl) fun g25 v26 nb => ?_
              have hb27 := nb.bk
              have e28 := nb.ext
              clear nb
              have hw2 : Ext w v26 := hw1.trans e28
              have ow29 := (hO.ext e28)
              refine wl_app rfl rfl rfl un_u8 info8 rfl (by decide) (by decide) ow29 hw2.size [.int .u8 ((bs.getD i 0 : Nat) : Int)] rfl (one_news _ hb27) rfl (by omega) (by decide) fun A30 c31 v32 ho33 uo34 kp35 => ?_
              have hw3 : Ext w v32 := uo34.ext hw2 (fun p hp => (ow29.block p hp).1)
              have ho36 : Own v32 w.heap.size 5 1 A30 (on + 1) c31 ((((bs.take i).filter (· ≠ 95)) ++ [bs.getD i 0]).map B8) := by have h := ho33; simp only [List.map_append, List.map_cons, List.map_nil] at h ⊢; exact h
              refine wl_assign rfl rfl (by decide) ?_
              refine wl_nil ?_
              refine eo_block_normal ?_
              refine eo_then ?_
              refine cw_region ?_
              refine wl_move rfl rfl (by decide) ?_
              refine wl_ar rfl rfl rfl ((i + 1 : Nat) : Int) (ai_add (a := i) (b := 1) rfl rfl (by omega)) (by decide) ?_
              refine wl_assign rfl rfl (by decide) ?_
              refine wl_nil ?_
              refine eo_round (⟨v32, i + 1, A30, on + 1, c31⟩ : World × Nat × Option Addr × Nat × Nat) ⟨hw3, (by rw [take_snoc4 hlt, List.filter_append, filter_one (show bs.getD i 0 ≠ 95 by omega)]; exact ho36), (by omega), (hok.dig hlt (by omega) (by omega)), (by omega)⟩ (show bs.length - (i + 1) < bs.length - i by omega) rfl ⟨rfl, rfl, rfl, trivial⟩
          ·
            refine cw_region ?_
            refine wl_move rfl rfl (by decide) ?_
            refine wl_cmp rfl rfl rfl true (cb_gt_t (a := i) (b := 0) rfl rfl (by omega)) (by decide) ?_
            refine wl_move rfl rfl (by decide) ?_
            refine wl_move rfl rfl (by decide) ?_
            refine wl_ar rfl rfl rfl ((i + 1 : Nat) : Int) (ai_add (a := i) (b := 1) rfl rfl (by omega)) (by decide) ?_
            refine wl_move rfl rfl (by decide) ?_
            refine wl_pureE rfl rfl (v := .int .i64 (((strB bs).size : Nat) : Int)) (v' := .int .i64 ((bs.length : Nat) : Int)) (by decide) (by kernel_rfl) (by rw [strB_size]) ?_
            refine wl_cmp rfl rfl rfl false (cb_lt_f (a := i + 1) (b := bs.length) rfl rfl (by omega)) (by decide) ?_
            refine wl_pure rfl rfl (v := .bool false) (by decide) (by kernel_rfl) ?_
            refine wl_move rfl rfl (by decide) ?_
            refine wl_off rfl (by decide) ?_
            refine wl_off rfl (by decide) ?_
            refine wl_off rfl (by decide) ?_
            refine wl_off rfl (by decide) ?_
            refine wl_off rfl (by decide) ?_
            refine wl_pure rfl rfl (v := .bool false) (by decide) (by kernel_rfl) ?_
            refine wl_move rfl rfl (by decide) ?_
            refine wl_off rfl (by decide) ?_
            refine wl_off rfl (by decide) ?_
            refine wl_off rfl (by decide) ?_
            refine wl_off rfl (by decide) ?_
            refine wl_off rfl (by decide) ?_
            refine wl_pure rfl rfl (v := .bool false) (by decide) (by kernel_rfl) ?_
            refine wl_assign rfl rfl (by decide) ?_
            refine wl_nil ?_
            refine eo_then ?_
            refine cw_seq ?_
            refine cw_seq ?_
            refine cw_region ?_
            refine wl_move rfl rfl (by decide) ?_
            refine wl_pure rfl rfl (v := .bool false) (by decide) (by kernel_rfl) ?_
            refine wl_move rfl rfl (by decide) ?_
            refine wl_off rfl (by decide) ?_
            refine wl_off rfl (by decide) ?_
            refine wl_off rfl (by decide) ?_
            refine wl_off rfl (by decide) ?_
            refine wl_off rfl (by decide) ?_
            refine wl_off rfl (by decide) ?_
            refine wl_off rfl (by decide) ?_
            refine wl_off rfl (by decide) ?_
            refine wl_pure rfl rfl (v := .bool false) (by decide) (by kernel_rfl) ?_
            refine wl_nil ?_
            refine eo_then ?_
            refine cw_false rfl ?_
            refine cw_skip ?_
            refine eo_then ?_
            refine cw_seq ?_
            refine cw_region ?_
            refine wl_move rfl rfl (by decide) ?_
            refine wl_nil ?_
            refine eo_then ?_
            refine cw_true rfl ?_
            refine cw_region ?_
            refine wl_move rfl rfl (by decide) ?_
            refine wl_move rfl rfl (by decide) ?_
            refine wl_move rfl rfl (by decide) ?_
            refine wl_strix (bs := bs) (i := i) rfl rfl rfl Tryd.underlying9 hbs (by omega) (by decide) ?_
            refine wl_bslice rfl rfl (by decide) (k := 1) (e := 5) [.int .u8 ((bs.getD i 0 : Nat) : Int)] (fun _ => by kernel_rfl) fun g37 v38 nb => ?_
            have hb39 := nb.bk
            have e40 := nb.ext
            clear nb
            have hw2 : Ext w v38 := hw1.trans e40
            have ow41 := (hO.ext e40)
            refine wl_app rfl rfl rfl un_u8 info8 rfl (by decide) (by decide) ow41 hw2.size [.int .u8 ((bs.getD i 0 : Nat) : Int)] rfl (one_news _ hb39) rfl (by omega) (by decide) fun A42 c43 v44 ho45 uo46 kp47 => ?_
            have hw3 : Ext w v44 := uo46.ext hw2 (fun p hp => (ow41.block p hp).1)
            have ho48 : Own v44 w.heap.size 5 1 A42 (on + 1) c43 ((((bs.take i).filter (· ≠ 95)) ++ [bs.getD i 0]).map B8) := by have h := ho45; simp only [List.map_append, List.map_cons, List.map_nil] at h ⊢; exact h
            refine wl_assign rfl rfl (by decide) ?_
            refine wl_nil ?_
            refine eo_block_normal ?_
            refine eo_then ?_
            refine cw_region ?_
            refine wl_move rfl rfl (by decide) ?_
            refine wl_ar rfl rfl rfl ((i + 1 : Nat) : Int) (ai_add (a := i) (b := 1) rfl rfl (by omega)) (by decide) ?_
            refine wl_assign rfl rfl (by decide) ?_
            refine wl_nil ?_
            refine eo_round (⟨v44, i + 1, A42, on + 1, c43⟩ : World × Nat × Option Addr × Nat × Nat) ⟨hw3, (by rw [take_snoc4 hlt, List.filter_append, filter_one (show bs.getD i 0 ≠ 95 by omega)]; exact ho48), (by omega), (hok.dig hlt (by omega) (by omega)), (by omega)⟩ (show bs.length - (i + 1) < bs.length - i by omega) rfl ⟨rfl, rfl, rfl, trivial⟩
        ·
          refine cw_region ?_
          refine wl_move rfl rfl (by decide) ?_
          refine wl_cmp rfl rfl rfl false (cb_gt_f (a := i) (b := 0) rfl rfl (by omega)) (by decide) ?_
          refine wl_move rfl rfl (by decide) ?_
          refine wl_off rfl (by decide) ?_
          refine wl_off rfl (by decide) ?_
          refine wl_off rfl (by decide) ?_
          refine wl_off rfl (by decide) ?_
          refine wl_off rfl (by decide) ?_
          refine wl_pure rfl rfl (v := .bool false) (by decide) (by kernel_rfl) ?_
          refine wl_move rfl rfl (by decide) ?_
          refine wl_off rfl (by decide) ?_
          refine wl_off rfl (by decide) ?_
          refine wl_off rfl (by decide) ?_
          refine wl_off rfl (by decide) ?_
          refine wl_off rfl (by decide) ?_
          refine wl_pure rfl rfl (v := .bool false) (by decide) (by kernel_rfl) ?_
          refine wl_move rfl rfl (by decide) ?_
          refine wl_off rfl (by decide) ?_
          refine wl_off rfl (by decide) ?_
          refine wl_off rfl (by decide) ?_
          refine wl_off rfl (by decide) ?_
          refine wl_off rfl (by decide) ?_
          refine wl_pure rfl rfl (v := .bool false) (by decide) (by kernel_rfl) ?_
          refine wl_assign rfl rfl (by decide) ?_
          refine wl_nil ?_
          refine eo_then ?_
          refine cw_seq ?_
          refine cw_seq ?_
          refine cw_region ?_
          refine wl_move rfl rfl (by decide) ?_
          refine wl_pure rfl rfl (v := .bool false) (by decide) (by kernel_rfl) ?_
          refine wl_move rfl rfl (by decide) ?_
          refine wl_off rfl (by decide) ?_
          refine wl_off rfl (by decide) ?_
          refine wl_off rfl (by decide) ?_
          refine wl_off rfl (by decide) ?_
          refine wl_off rfl (by decide) ?_
          refine wl_off rfl (by decide) ?_
          refine wl_off rfl (by decide) ?_
          refine wl_off rfl (by decide) ?_
          refine wl_pure rfl rfl (v := .bool false) (by decide) (by kernel_rfl) ?_
          refine wl_nil ?_
          refine eo_then ?_
          refine cw_false rfl ?_
          refine cw_skip ?_
          refine eo_then ?_
          refine cw_seq ?_
          refine cw_region ?_
          refine wl_move rfl rfl (by decide) ?_
          refine wl_nil ?_
          refine eo_then ?_
          refine cw_true rfl ?_
          refine cw_region ?_
          refine wl_move rfl rfl (by decide) ?_
          refine wl_move rfl rfl (by decide) ?_
          refine wl_move rfl rfl (by decide) ?_
          refine wl_strix (bs := bs) (i := i) rfl rfl rfl Tryd.underlying9 hbs (by omega) (by decide) ?_
          refine wl_bslice rfl rfl (by decide) (k := 1) (e := 5) [.int .u8 ((bs.getD i 0 : Nat) : Int)] (fun _ => by kernel_rfl) fun g49 v50 nb => ?_
          have hb51 := nb.bk
          have e52 := nb.ext
          clear nb
          have hw2 : Ext w v50 := hw1.trans e52
          have ow53 := (hO.ext e52)
          refine wl_app rfl rfl rfl un_u8 info8 rfl (by decide) (by decide) ow53 hw2.size [.int .u8 ((bs.getD i 0 : Nat) : Int)] rfl (one_news _ hb51) rfl (by omega) (by decide) fun A54 c55 v56 ho57 uo58 kp59 => ?_
          have hw3 : Ext w v56 := uo58.ext hw2 (fun p hp => (ow53.block p hp).1)
          have ho60 : Own v56 w.heap.size 5 1 A54 (on + 1) c55 ((((bs.take i).filter (· ≠ 95)) ++ [bs.getD i 0]).map B8) := by have h := ho57; simp only [List.map_append, List.map_cons, List.map_nil] at h ⊢; exact h
          refine wl_assign rfl rfl (by decide) ?_
          refine wl_nil ?_
          refine eo_block_normal ?_
          refine eo_then ?_
          refine cw_region ?_
          refine wl_move rfl rfl (by decide) ?_
          refine wl_ar rfl rfl rfl ((i + 1 : Nat) : Int) (ai_add (a := i) (b := 1) rfl rfl (by omega)) (by decide) ?_
          refine wl_assign rfl rfl (by decide) ?_
          refine wl_nil ?_
          refine eo_round (⟨v56, i + 1, A54, on + 1, c55⟩ : World × Nat × Option Addr × Nat × Nat) ⟨hw3, (by rw [take_snoc4 hlt, List.filter_append, filter_one (show bs.getD i 0 ≠ 95 by omega)]; exact ho60), (by omega), (hok.dig hlt (by omega) (by omega)), (by omega)⟩ (show bs.length - (i + 1) < bs.length - i by omega) rfl ⟨rfl, rfl, rfl, trivial⟩
      ·
        refine cw_region ?_
        refine wl_move rfl rfl (by decide) ?_
        refine wl_move rfl rfl (by decide) ?_
        refine wl_strix (bs := bs) (i := i) rfl rfl rfl Tryd.underlying9 hbs (by omega) (by decide) ?_
        refine wl_cmp rfl rfl rfl true (cb_ge_t (a := bs.getD i 0) (b := 48) rfl rfl (by omega)) (by decide) ?_
        refine wl_move rfl rfl (by decide) ?_
        refine wl_move rfl rfl (by decide) ?_
        refine wl_move rfl rfl (by decide) ?_
        refine wl_strix (bs := bs) (i := i) rfl rfl rfl Tryd.underlying9 hbs (by omega) (by decide) ?_
        refine wl_cmp rfl rfl rfl false (cb_le_f (a := bs.getD i 0) (b := 57) rfl rfl (by omega)) (by decide) ?_
        refine wl_pure rfl rfl (v := .bool false) (by decide) (by kernel_rfl) ?_
        refine wl_assign rfl rfl (by decide) ?_
        refine wl_nil ?_
        refine eo_then ?_
        refine cw_seq ?_
        have hnd : ¬ (48 ≤ bs.getD i 0 ∧ bs.getD i 0 ≤ 57) := by omega
        by_cases hi0 : i > 0
        ·
          by_cases hi1 : i + 1 < bs.length
          ·
            by_cases hp95 : bs.getD (i - 1) 0 ≠ 95
            ·
              by_cases hq95 : bs.getD (i + 1) 0 ≠ 95
              ·
                refine cw_region ?_
                refine wl_move rfl rfl (by decide) ?_
                refine wl_cmp rfl rfl rfl true (cb_gt_t (a := i) (b := 0) rfl rfl (by omega)) (by decide) ?_
                refine wl_move rfl rfl (by decide) ?_
                refine wl_move rfl rfl (by decide) ?_
                refine wl_ar rfl rfl rfl ((i + 1 : Nat) : Int) (ai_add (a := i) (b := 1) rfl rfl (by omega)) (by decide) ?_
                refine wl_move rfl rfl (by decide) ?_
                refine wl_pureE rfl rfl (v := .int .i64 (((strB bs).size : Nat) : Int)) (v' := .int .i64 ((bs.length : Nat) : Int)) (by decide) (by kernel_rfl) (by rw [strB_size]) ?_
                refine wl_cmp rfl rfl rfl true (cb_lt_t (a := i + 1) (b := bs.length) rfl rfl (by omega)) (by decide) ?_
                refine wl_pure rfl rfl (v := .bool true) (by decide) (by kernel_rfl) ?_
                refine wl_move rfl rfl (by decide) ?_
                refine wl_move rfl rfl (by decide) ?_
                refine wl_move rfl rfl (by decide) ?_
                refine wl_ar rfl rfl rfl ((i - 1 : Nat) : Int) (ai_sub (a := i) (b := 1) rfl rfl (by omega) (by omega)) (by decide) ?_
                refine wl_strix (bs := bs) (i := i - 1) rfl rfl rfl Tryd.underlying9 hbs (by omega) (by decide) ?_
                refine wl_cmp rfl rfl rfl true (cb_ne_t (a := bs.getD (i - 1) 0) (b := 95) rfl rfl (by omega)) (by decide) ?_
                refine wl_pure rfl rfl (v := .bool true) (by decide) (by kernel_rfl) ?_
                refine wl_move rfl rfl (by decide) ?_
                refine wl_move rfl rfl (by decide) ?_
                refine wl_move rfl rfl (by decide) ?_
                refine wl_ar rfl rfl rfl ((i + 1 : Nat) : Int) (ai_add (a := i) (b := 1) rfl rfl (by omega)) (by decide) ?_
                refine wl_strix (bs := bs) (i := i + 1) rfl rfl rfl Tryd.underlying9 hbs (by omega) (by decide) ?_
                refine wl_cmp rfl rfl rfl true (cb_ne_t (a := bs.getD (i + 1) 0) (b := 95) rfl rfl (by omega)) (by decide) ?_
                refine wl_pure rfl rfl (v := .bool true) (by decide) (by kernel_rfl) ?_
                refine wl_assign rfl rfl (by decide) ?_
                refine wl_nil ?_
                refine eo_then ?_
                refine cw_seq ?_
                refine cw_seq ?_
                by_cases h95 : bs.getD i 0 ≠ 95
                ·
                  refine cw_region ?_
                  refine wl_move rfl rfl (by decide) ?_
                  refine wl_pure rfl rfl (v := .bool true) (by decide) (by kernel_rfl) ?_
                  refine wl_move rfl rfl (by decide) ?_
                  refine wl_move rfl rfl (by decide) ?_
                  refine wl_move rfl rfl (by decide) ?_
                  refine wl_strix (bs := bs) (i := i) rfl rfl rfl Tryd.underlying9 hbs (by omega) (by decide) ?_
                  refine wl_cmp rfl rfl rfl true (cb_ne_t (a := bs.getD i 0) (b := 95) rfl rfl (by omega)) (by decide) ?_
                  refine wl_move rfl rfl (by decide) ?_
                  refine wl_off rfl (by decide) ?_
                  refine wl_off rfl (by decide) ?_
                  refine wl_pure rfl rfl (v := .bool true) (by decide) (by kernel_rfl) ?_
                  refine wl_pure rfl rfl (v := .bool true) (by decide) (by kernel_rfl) ?_
                  refine wl_nil ?_
                  refine eo_then ?_
                  refine cw_true rfl ?_
                  refine cw_seq ?_
                  refine cw_region ?_
                  refine wl_assign rfl rfl (by decide) ?_
                  refine wl_assign rfl rfl (by decide) ?_
                  refine wl_nil ?_
                  refine eo_then ?_
                  refine cw_ret ?_
                  refine eo_thenR ?_
                  refine eo_block_ret ?_
                  refine eo_thenR ?_
                  refine eo_loopR ?_
                  refine eo_block_ret ?_
                  refine eo_thenR ?_
                  refine eo_ret [.slice none 0 0, .int .i64 7] rfl ⟨rfl, rfl, trivial⟩ ?_
                  have hgn : grp false bs = none := hok.bad hlt hnd h95
                  exact ⟨fun pl h => (by rw [hgn] at h; cases h), fun _ => ⟨_, rfl, ⟨_, _, rfl, rfl, rfl⟩, hw1⟩⟩
                ·
                  have h95 : bs.getD i 0 = 95 := by omega
                  refine cw_region ?_
                  refine wl_move rfl rfl (by decide) ?_
                  refine wl_pure rfl rfl (v := .bool true) (by decide) (by kernel_rfl) ?_
                  refine wl_move rfl rfl (by decide) ?_
                  refine wl_move rfl rfl (by decide) ?_
                  refine wl_move rfl rfl (by decide) ?_
                  refine wl_strix (bs := bs) (i := i) rfl rfl rfl Tryd.underlying9 hbs (by omega) (by decide) ?_
                  refine wl_cmp rfl rfl rfl false (cb_ne_f (a := bs.getD i 0) (b := 95) rfl rfl (by omega)) (by decide) ?_
                  refine wl_move rfl rfl (by decide) ?_
                  refine wl_move rfl rfl (by decide) ?_
                  refine wl_pure rfl rfl (v := .bool false) (by decide) (by kernel_rfl) ?_
                  refine wl_pure rfl rfl (v := .bool false) (by decide) (by kernel_rfl) ?_
                  refine wl_pure rfl rfl (v := .bool false) (by decide) (by kernel_rfl) ?_
                  refine wl_nil ?_
                  refine eo_then ?_
                  refine cw_false rfl ?_
                  refine cw_skip ?_
                  refine eo_then ?_
                  refine cw_seq ?_
                  refine cw_region ?_
                  refine wl_move rfl rfl (by decide) ?_
                  refine wl_nil ?_
                  refine eo_then ?_
                  refine cw_false rfl ?_
                  refine cw_skip ?_
                  refine eo_block_normal ?_
                  refine eo_then ?_
                  refine cw_region ?_
                  refine wl_move rfl rfl (by decide) ?_
                  refine wl_ar rfl rfl rfl ((i + 1 : Nat) : Int) (ai_add (a := i) (b := 1) rfl rfl (by omega)) (by decide) ?_
                  refine wl_assign rfl rfl (by decide) ?_
                  refine wl_nil ?_
                  refine eo_round (⟨wr, i + 1, OA, on, oc⟩ : World × Nat × Option Addr × Nat × Nat) ⟨hw1, (by rw [take_snoc4 hlt, List.filter_append, h95, filter_none, List.append_nil]; exact hO), (by omega), (hok.under hlt h95 hi0 hi1 hp95 hq95), (by omega)⟩ (show bs.length - (i + 1) < bs.length - i by omega) rfl ⟨rfl, rfl, rfl, trivial⟩
              ·
                refine cw_region ?_
                refine wl_move rfl rfl (by decide) ?_
                refine wl_cmp rfl rfl rfl true (cb_gt_t (a := i) (b := 0) rfl rfl (by omega)) (by decide) ?_
                refine wl_move rfl rfl (by decide) ?_
                refine wl_move rfl rfl (by decide) ?_
                refine wl_ar rfl rfl rfl ((i + 1 : Nat) : Int) (ai_add (a := i) (b := 1) rfl rfl (by omega)) (by decide) ?_
                refine wl_move rfl rfl (by decide) ?_
                refine wl_pureE rfl rfl (v := .int .i64 (((strB bs).size : Nat) : Int)) (v' := .int .i64 ((bs.length : Nat) : Int)) (by decide) (by kernel_rfl) (by rw [strB_size]) ?_
                refine wl_cmp rfl rfl rfl true (cb_lt_t (a := i + 1) (b := bs.length) rfl rfl (by omega)) (by decide) ?_
                refine wl_pure rfl rfl (v := .bool true) (by decide) (by kernel_rfl) ?_
                refine wl_move rfl rfl (by decide) ?_
                refine wl_move rfl rfl (by decide) ?_
                refine wl_move rfl rfl (by decide) ?_
                refine wl_ar rfl rfl rfl ((i - 1 : Nat) : Int) (ai_sub (a := i) (b := 1) rfl rfl (by omega) (by omega)) (by decide) ?_
                refine wl_strix (bs := bs) (i := i - 1) rfl rfl rfl Tryd.underlying9 hbs (by omega) (by decide) ?_
                refine wl_cmp rfl rfl rfl true (cb_ne_t (a := bs.getD (i - 1) 0) (b := 95) rfl rfl (by omega)) (by decide) ?_
                refine wl_pure rfl rfl (v := .bool true) (by decide) (by kernel_rfl) ?_
                refine wl_move rfl rfl (by decide) ?_
                refine wl_move rfl rfl (by decide) ?_
                refine wl_move rfl rfl (by decide) ?_
                refine wl_ar rfl rfl rfl ((i + 1 : Nat) : Int) (ai_add (a := i) (b := 1) rfl rfl (by omega)) (by decide) ?_
                refine wl_strix (bs := bs) (i := i + 1) rfl rfl rfl Tryd.underlying9 hbs (by omega) (by decide) ?_
                refine wl_cmp rfl rfl rfl false (cb_ne_f (a := bs.getD (i + 1) 0) (b := 95) rfl rfl (by omega)) (by decide) ?_
                refine wl_pure rfl rfl (v := .bool false) (by decide) (by kernel_rfl) ?_
                refine wl_assign rfl rfl (by decide) ?_
                refine wl_nil ?_
                refine eo_then ?_
                refine cw_seq ?_
                refine cw_seq ?_
                by_cases h95 : bs.getD i 0 ≠ 95
                ·
                  refine cw_region ?_
                  refine wl_move rfl rfl (by decide) ?_
                  refine wl_pure rfl rfl (v := .bool true) (by decide) (by kernel_rfl) ?_
                  refine wl_move rfl rfl (by decide) ?_
                  refine wl_move rfl rfl (by decide) ?_
                  refine wl_move rfl rfl (by decide) ?_
                  refine wl_strix (bs := bs) (i := i) rfl rfl rfl Tryd.underlying9 hbs (by omega) (by decide) ?_
                  refine wl_cmp rfl rfl rfl true (cb_ne_t (a := bs.getD i 0) (b := 95) rfl rfl (by omega)) (by decide) ?_
                  refine wl_move rfl rfl (by decide) ?_
                  refine wl_off rfl (by decide) ?_
                  refine wl_off rfl (by decide) ?_
                  refine wl_pure rfl rfl (v := .bool true) (by decide) (by kernel_rfl) ?_
                  refine wl_pure rfl rfl (v := .bool true) (by decide) (by kernel_rfl) ?_
                  refine wl_nil ?_
                  refine eo_then ?_
                  refine cw_true rfl ?_
                  refine cw_seq ?_
                  refine cw_region ?_
                  refine wl_assign rfl rfl (by decide) ?_
                  refine wl_assign rfl rfl (by decide) ?_
                  refine wl_nil ?_
                  refine eo_then ?_
                  refine cw_ret ?_
                  refine eo_thenR ?_
                  refine eo_block_ret ?_
                  refine eo_thenR ?_
                  refine eo_loopR ?_
                  refine eo_block_ret ?_
                  refine eo_thenR ?_
                  refine eo_ret [.slice none 0 0, .int .i64 7] rfl ⟨rfl, rfl, trivial⟩ ?_
                  have hgn : grp false bs = none := hok.bad hlt hnd h95
                  exact ⟨fun pl h => (by rw [hgn] at h; cases h), fun _ => ⟨_, rfl, ⟨_, _, rfl, rfl, rfl⟩, hw1⟩⟩
                ·
                  have h95 : bs.getD i 0 = 95 := by omega
                  refine cw_region ?_
                  refine wl_move rfl rfl (by decide) ?_
                  refine wl_pure rfl rfl (v := .bool true) (by decide) (by kernel_rfl) ?_
                  refine wl_move rfl rfl (by decide) ?_
                  refine wl_move rfl rfl (by decide) ?_
                  refine wl_move rfl rfl (by decide) ?_
                  refine wl_strix (bs := bs) (i := i) rfl rfl rfl Tryd.underlying9 hbs (by omega) (by decide) ?_
                  refine wl_cmp rfl rfl rfl false (cb_ne_f (a := bs.getD i 0) (b := 95) rfl rfl (by omega)) (by decide) ?_
                  refine wl_move rfl rfl (by decide) ?_
                  refine wl_move rfl rfl (by decide) ?_
                  refine wl_pure rfl rfl (v := .bool true) (by decide) (by kernel_rfl) ?_
                  refine wl_pure rfl rfl (v := .bool true) (by decide) (by kernel_rfl) ?_
                  refine wl_pure rfl rfl (v := .bool true) (by decide) (by kernel_rfl) ?_
                  refine wl_nil ?_
                  refine eo_then ?_
                  refine cw_true rfl ?_
                  refine cw_seq ?_
                  refine cw_region ?_
                  refine wl_assign rfl rfl (by decide) ?_
                  refine wl_assign rfl rfl (by decide) ?_
                  refine wl_nil ?_
                  refine eo_then ?_
                  refine cw_ret ?_
                  refine eo_thenR ?_
                  refine eo_block_ret ?_
                  refine eo_thenR ?_
                  refine eo_loopR ?_
                  refine eo_block_ret ?_
                  refine eo_thenR ?_
                  refine eo_ret [.slice none 0 0, .int .i64 7] rfl ⟨rfl, rfl, trivial⟩ ?_
                  have hgn : grp false bs = none := hok.notQ hlt hnd hi1 (by omega) h95
                  exact ⟨fun pl h => (by rw [hgn] at h; cases h), fun _ => ⟨_, rfl, ⟨_, _, rfl, rfl, rfl⟩, hw1⟩⟩
            ·
              refine cw_region ?_
              refine wl_move rfl rfl (by decide) ?_
              refine wl_cmp rfl rfl rfl true (cb_gt_t (a := i) (b := 0) rfl rfl (by omega)) (by decide) ?_
              refine wl_move rfl rfl (by decide) ?_
              refine wl_move rfl rfl (by decide) ?_
              refine wl_ar rfl rfl rfl ((i + 1 : Nat) : Int) (ai_add (a := i) (b := 1) rfl rfl (by omega)) (by decide) ?_
              refine wl_move rfl rfl (by decide) ?_
              refine wl_pureE rfl rfl (v := .int .i64 (((strB bs).size : Nat) : Int)) (v' := .int .i64 ((bs.length : Nat) : Int)) (by decide) (by kernel_rfl) (by rw [strB_size]) ?_
              refine wl_cmp rfl rfl rfl true (cb_lt_t (a := i + 1) (b := bs.length) rfl rfl (by omega)) (by decide) ?_
              refine wl_pure rfl rfl (v := .bool true) (by decide) (by kernel_rfl) ?_
              refine wl_move rfl rfl (by decide) ?_
              refine wl_move rfl rfl (by decide) ?_
              refine wl_move rfl rfl (by decide) ?_
              refine wl_ar rfl rfl rfl ((i - 1 : Nat) : Int) (ai_sub (a := i) (b := 1) rfl rfl (by omega) (by omega)) (by decide) ?_
              refine wl_strix (bs := bs) (i := i - 1) rfl rfl rfl Tryd.underlying9 hbs (by omega) (by decide) ?_
              refine wl_cmp rfl rfl rfl false (cb_ne_f (a := bs.getD (i - 1) 0) (b := 95) rfl rfl (by omega)) (by decide) ?_
              refine wl_pure rfl rfl (v := .bool false) (by decide) (by kernel_rfl) ?_
              refine wl_move rfl rfl (by decide) ?_
              refine wl_off rfl (by decide) ?_
              refine wl_off rfl (by decide) ?_
              refine wl_off rfl (by decide) ?_
              refine wl_off rfl (by decide) ?_
              refine wl_off rfl (by decide) ?_
              refine wl_pure rfl rfl (v := .bool false) (by decide) (by kernel_rfl) ?_
              refine wl_assign rfl rfl (by decide) ?_
              refine wl_nil ?_
              refine eo_then ?_
              refine cw_seq ?_
              refine cw_seq ?_
              by_cases h95 : bs.getD i 0 ≠ 95
              ·
                refine cw_region ?_
                refine wl_move rfl rfl (by decide) ?_
                refine wl_pure rfl rfl (v := .bool true) (by decide) (by kernel_rfl) ?_
                refine wl_move rfl rfl (by decide) ?_
                refine wl_move rfl rfl (by decide) ?_
                refine wl_move rfl rfl (by decide) ?_
                refine wl_strix (bs := bs) (i := i) rfl rfl rfl Tryd.underlying9 hbs (by omega) (by decide) ?_
                refine wl_cmp rfl rfl rfl true (cb_ne_t (a := bs.getD i 0) (b := 95) rfl rfl (by omega)) (by decide) ?_
                refine wl_move rfl rfl (by decide) ?_
                refine wl_off rfl (by decide) ?_
                refine wl_off rfl (by decide) ?_
                refine wl_pure rfl rfl (v := .bool true) (by decide) (by kernel_rfl) ?_
                refine wl_pure rfl rfl (v := .bool true) (by decide) (by kernel_rfl) ?_
                refine wl_nil ?_
                refine eo_then ?_
                refine cw_true rfl ?_
                refine cw_seq ?_
                refine cw_region ?_
                refine wl_assign rfl rfl (by decide) ?_
                refine wl_assign rfl rfl (by decide) ?_
                refine wl_nil ?_
                refine eo_then ?_
                refine cw_ret ?_
                refine eo_thenR ?_
                refine eo_block_ret ?_
                refine eo_thenR ?_
                refine eo_loopR ?_
                refine eo_block_ret ?_
                refine eo_thenR ?_
                refine eo_ret [.slice none 0 0, .int .i64 7] rfl ⟨rfl, rfl, trivial⟩ ?_
                have hgn : grp false bs = none := hok.bad hlt hnd h95
                exact ⟨fun pl h => (by rw [hgn] at h; cases h), fun _ => ⟨_, rfl, ⟨_, _, rfl, rfl, rfl⟩, hw1⟩⟩
              ·
                have h95 : bs.getD i 0 = 95 := by omega
                refine cw_region ?_
                refine wl_move rfl rfl (by decide) ?_
                refine wl_pure rfl rfl (v := .bool true) (by decide) (by kernel_rfl) ?_
                refine wl_move rfl rfl (by decide) ?_
                refine wl_move rfl rfl (by decide) ?_
                refine wl_move rfl rfl (by decide) ?_
                refine wl_strix (bs := bs) (i := i) rfl rfl rfl Tryd.underlying9 hbs (by omega) (by decide) ?_
                refine wl_cmp rfl rfl rfl false (cb_ne_f (a := bs.getD i 0) (b := 95) rfl rfl (by omega)) (by decide) ?_
                refine wl_move rfl rfl (by decide) ?_
                refine wl_move rfl rfl (by decide) ?_
                refine wl_pure rfl rfl (v := .bool true) (by decide) (by kernel_rfl) ?_
                refine wl_pure rfl rfl (v := .bool true) (by decide) (by kernel_rfl) ?_
                refine wl_pure rfl rfl (v := .bool true) (by decide) (by kernel_rfl) ?_
                refine wl_nil ?_
                refine eo_then ?_
                refine cw_true rfl ?_
                refine cw_seq ?_
                refine cw_region ?_
                refine wl_assign rfl rfl (by decide) ?_
                refine wl_assign rfl rfl (by decide) ?_
                refine wl_nil ?_
                refine eo_then ?_
                refine cw_ret ?_
                refine eo_thenR ?_
                refine eo_block_ret ?_
                refine eo_thenR ?_
                refine eo_loopR ?_
                refine eo_block_ret ?_
                refine eo_thenR ?_
                refine eo_ret [.slice none 0 0, .int .i64 7] rfl ⟨rfl, rfl, trivial⟩ ?_
                have hgn : grp false bs = none := hok.notP hlt hnd hi0 (by omega) h95
                exact ⟨fun pl h => (by rw [hgn] at h; cases h), fun _ => ⟨_, rfl, ⟨_, _, rfl, rfl, rfl⟩, hw1⟩⟩
          ·
            refine cw_region ?_
            refine wl_move rfl rfl (by decide) ?_
            refine wl_cmp rfl rfl rfl true (cb_gt_t (a := i) (b := 0) rfl rfl (by omega)) (by decide) ?_
            refine wl_move rfl rfl (by decide) ?_
            refine wl_move rfl rfl (by decide) ?_
            refine wl_ar rfl rfl rfl ((i + 1 : Nat) : Int) (ai_add (a := i) (b := 1) rfl rfl (by omega)) (by decide) ?_
            refine wl_move rfl rfl (by decide) ?_
            refine wl_pureE rfl rfl (v := .int .i64 (((strB bs).size : Nat) : Int)) (v' := .int .i64 ((bs.length : Nat) : Int)) (by decide) (by kernel_rfl) (by rw [strB_size]) ?_
            refine wl_cmp rfl rfl rfl false (cb_lt_f (a := i + 1) (b := bs.length) rfl rfl (by omega)) (by decide) ?_
            refine wl_pure rfl rfl (v := .bool false) (by decide) (by kernel_rfl) ?_
            refine wl_move rfl rfl (by decide) ?_
            refine wl_off rfl (by decide) ?_
            refine wl_off rfl (by decide) ?_
            refine wl_off rfl (by decide) ?_
            refine wl_off rfl (by decide) ?_
            refine wl_off rfl (by decide) ?_
            refine wl_pure rfl rfl (v := .bool false) (by decide) (by kernel_rfl) ?_
            refine wl_move rfl rfl (by decide) ?_
            refine wl_off rfl (by decide) ?_
            refine wl_off rfl (by decide) ?_
            refine wl_off rfl (by decide) ?_
            refine wl_off rfl (by decide) ?_
            refine wl_off rfl (by decide) ?_
            refine wl_pure rfl rfl (v := .bool false) (by decide) (by kernel_rfl) ?_
            refine wl_assign rfl rfl (by decide) ?_
            refine wl_nil ?_
            refine eo_then ?_
            refine cw_seq ?_
            refine cw_seq ?_
            by_cases h95 : bs.getD i 0 ≠ 95
            ·
              refine cw_region ?_
              refine wl_move rfl rfl (by decide) ?_
              refine wl_pure rfl rfl (v := .bool true) (by decide) (by kernel_rfl) ?_
              refine wl_move rfl rfl (by decide) ?_
              refine wl_move rfl rfl (by decide) ?_
              refine wl_move rfl rfl (by decide) ?_
              refine wl_strix (bs := bs) (i := i) rfl rfl rfl Tryd.underlying9 hbs (by omega) (by decide) ?_
              refine wl_cmp rfl rfl rfl true (cb_ne_t (a := bs.getD i 0) (b := 95) rfl rfl (by omega)) (by decide) ?_
              refine wl_move rfl rfl (by decide) ?_
              refine wl_off rfl (by decide) ?_
              refine wl_off rfl (by decide) ?_
              refine wl_pure rfl rfl (v := .bool true) (by decide) (by kernel_rfl) ?_
              refine wl_pure rfl rfl (v := .bool true) (by decide) (by kernel_rfl) ?_
              refine wl_nil ?_
              refine eo_then ?_
              refine cw_true rfl ?_
              refine cw_seq ?_
              refine cw_region ?_
              refine wl_assign rfl rfl (by decide) ?_
              refine wl_assign rfl rfl (by decide) ?_
              refine wl_nil ?_
              refine eo_then ?_
              refine cw_ret ?_
              refine eo_thenR ?_
              refine eo_block_ret ?_
              refine eo_thenR ?_
              refine eo_loopR ?_
              refine eo_block_ret ?_
              refine eo_thenR ?_
              refine eo_ret [.slice none 0 0, .int .i64 7] rfl ⟨rfl, rfl, trivial⟩ ?_
              have hgn : grp false bs = none := hok.bad hlt hnd h95
              exact ⟨fun pl h => (by rw [hgn] at h; cases h), fun _ => ⟨_, rfl, ⟨_, _, rfl, rfl, rfl⟩, hw1⟩⟩
            ·
              have h95 : bs.getD i 0 = 95 := by omega
              refine cw_region ?_
              refine wl_move rfl rfl (by decide) ?_
              refine wl_pure rfl rfl (v := .bool true) (by decide) (by kernel_rfl) ?_
              refine wl_move rfl rfl (by decide) ?_
              refine wl_move rfl rfl (by decide) ?_
              refine wl_move rfl rfl (by decide) ?_
              refine wl_strix (bs := bs) (i := i) rfl rfl rfl Tryd.underlying9 hbs (by omega) (by decide) ?_
              refine wl_cmp rfl rfl rfl false (cb_ne_f (a := bs.getD i 0) (b := 95) rfl rfl (by omega)) (by decide) ?_
              refine wl_move rfl rfl (by decide) ?_
              refine wl_move rfl rfl (by decide) ?_
              refine wl_pure rfl rfl (v := .bool true) (by decide) (by kernel_rfl) ?_
              refine wl_pure rfl rfl (v := .bool true) (by decide) (by kernel_rfl) ?_
              refine wl_pure rfl rfl (v := .bool true) (by decide) (by kernel_rfl) ?_
              refine wl_nil ?_
              refine eo_then ?_
              refine cw_true rfl ?_
              refine cw_seq ?_
              refine cw_region ?_
              refine wl_assign rfl rfl (by decide) ?_
              refine wl_assign rfl rfl (by decide) ?_
              refine wl_nil ?_
              refine eo_then ?_
              refine cw_ret ?_
              refine eo_thenR ?_
              refine eo_block_ret ?_
              refine eo_thenR ?_
              refine eo_loopR ?_
              refine eo_block_ret ?_
              refine eo_thenR ?_
              refine eo_ret [.slice none 0 0, .int .i64 7] rfl ⟨rfl, rfl, trivial⟩ ?_
              have hgn : grp false bs = none := hok.last hlt hnd (by omega) h95
              exact ⟨fun pl h => (by rw [hgn] at h; cases h), fun _ => ⟨_, rfl, ⟨_, _, rfl, rfl, rfl⟩, hw1⟩⟩
        ·
          refine cw_region ?_
          refine wl_move rfl rfl (by decide) ?_
          refine wl_cmp rfl rfl rfl false (cb_gt_f (a := i) (b := 0) rfl rfl (by omega)) (by decide) ?_
          refine wl_move rfl rfl (by decide) ?_
          refine wl_off rfl (by decide) ?_
          refine wl_off rfl (by decide) ?_
          refine wl_off rfl (by decide) ?_
          refine wl_off rfl (by decide) ?_
          refine wl_off rfl (by decide) ?_
          refine wl_pure rfl rfl (v := .bool false) (by decide) (by kernel_rfl) ?_
          refine wl_move rfl rfl (by decide) ?_
          refine wl_off rfl (by decide) ?_
          refine wl_off rfl (by decide) ?_
          refine wl_off rfl (by decide) ?_
          refine wl_off rfl (by decide) ?_
          refine wl_off rfl (by decide) ?_
          refine wl_pure rfl rfl (v := .bool false) (by decide) (by kernel_rfl) ?_
          refine wl_move rfl rfl (by decide) ?_
          refine wl_off rfl (by decide) ?_
          refine wl_off rfl (by decide) ?_
          refine wl_off rfl (by decide) ?_
          refine wl_off rfl (by decide) ?_
          refine wl_off rfl (by decide) ?_
          refine wl_pure rfl rfl (v := .bool false) (by decide) (by kernel_rfl) ?_
          refine wl_assign rfl rfl (by decide) ?_
          refine wl_nil ?_
          refine eo_then ?_
          refine cw_seq ?_
          refine cw_seq ?_
          by_cases h95 : bs.getD i 0 ≠ 95
          ·
            refine cw_region ?_
            refine wl_move rfl rfl (by decide) ?_
            refine wl_pure rfl rfl (v := .bool true) (by decide) (by kernel_rfl) ?_
            refine wl_move rfl rfl (by decide) ?_
            refine wl_move rfl rfl (by decide) ?_
            refine wl_move rfl rfl (by decide) ?_
            refine wl_strix (bs := bs) (i := i) rfl rfl rfl Tryd.underlying9 hbs (by omega) (by decide) ?_
            refine wl_cmp rfl rfl rfl true (cb_ne_t (a := bs.getD i 0) (b := 95) rfl rfl (by omega)) (by decide) ?_
            refine wl_move rfl rfl (by decide) ?_
            refine wl_off rfl (by decide) ?_
            refine wl_off rfl (by decide) ?_
            refine wl_pure rfl rfl (v := .bool true) (by decide) (by kernel_rfl) ?_
            refine wl_pure rfl rfl (v := .bool true) (by decide) (by kernel_rfl) ?_
            refine wl_nil ?_
            refine eo_then ?_
            refine cw_true rfl ?_
            refine cw_seq ?_
            refine cw_region ?_
            refine wl_assign rfl rfl (by decide) ?_
            refine wl_assign rfl rfl (by decide) ?_
            refine wl_nil ?_
            refine eo_then ?_
            refine cw_ret ?_
            refine eo_thenR ?_
            refine eo_block_ret ?_
            refine eo_thenR ?_
            refine eo_loopR ?_
            refine eo_block_ret ?_
            refine eo_thenR ?_
            refine eo_ret [.slice none 0 0, .int .i64 7] rfl ⟨rfl, rfl, trivial⟩ ?_
            have hgn : grp false bs = none := hok.bad hlt hnd h95
            exact ⟨fun pl h => (by rw [hgn] at h; cases h), fun _ => ⟨_, rfl, ⟨_, _, rfl, rfl, rfl⟩, hw1⟩⟩
          ·
            have h95 : bs.getD i 0 = 95 := by omega
            refine cw_region ?_
            refine wl_move rfl rfl (by decide) ?_
            refine wl_pure rfl rfl (v := .bool true) (by decide) (by kernel_rfl) ?_
            refine wl_move rfl rfl (by decide) ?_
            refine wl_move rfl rfl (by decide) ?_
            refine wl_move rfl rfl (by decide) ?_
            refine wl_strix (bs := bs) (i := i) rfl rfl rfl Tryd.underlying9 hbs (by omega) (by decide) ?_
            refine wl_cmp rfl rfl rfl false (cb_ne_f (a := bs.getD i 0) (b := 95) rfl rfl (by omega)) (by decide) ?_
            refine wl_move rfl rfl (by decide) ?_
            refine wl_move rfl rfl (by decide) ?_
            refine wl_pure rfl rfl (v := .bool true) (by decide) (by kernel_rfl) ?_
            refine wl_pure rfl rfl (v := .bool true) (by decide) (by kernel_rfl) ?_
            refine wl_pure rfl rfl (v := .bool true) (by decide) (by kernel_rfl) ?_
            refine wl_nil ?_
            refine eo_then ?_
            refine cw_true rfl ?_
            refine cw_seq ?_
            refine cw_region ?_
            refine wl_assign rfl rfl (by decide) ?_
            refine wl_assign rfl rfl (by decide) ?_
            refine wl_nil ?_
            refine eo_then ?_
            refine cw_ret ?_
            refine eo_thenR ?_
            refine eo_block_ret ?_
            refine eo_thenR ?_
            refine eo_loopR ?_
            refine eo_block_ret ?_
            refine eo_thenR ?_
            refine eo_ret [.slice none 0 0, .int .i64 7] rfl ⟨rfl, rfl, trivial⟩ ?_
            have hgn : grp false bs = none := hok.first hlt hnd (by omega) h95
            exact ⟨fun pl h => (by rw [hgn] at h; cases h), fun _ => ⟨_, rfl, ⟨_, _, rfl, rfl, rfl⟩, hw1⟩⟩
    ·
      refine cw_region ?_
      refine wl_move rfl rfl (by decide) ?_
      refine wl_move rfl rfl (by decide) ?_
      refine wl_strix (bs := bs) (i := i) rfl rfl rfl Tryd.underlying9 hbs (by omega) (by decide) ?_
      refine wl_cmp rfl rfl rfl false (cb_ge_f (a := bs.getD i 0) (b := 48) rfl rfl (by omega)) (by decide) ?_
      refine wl_move rfl rfl (by decide) ?_
      refine wl_off rfl (by decide) ?_
      refine wl_off rfl (by decide) ?_
      refine wl_off rfl (by decide) ?_
      refine wl_off rfl (by decide) ?_
      refine wl_pure rfl rfl (v := .bool false) (by decide) (by kernel_rfl) ?_
      refine wl_assign rfl rfl (by decide) ?_
      refine wl_nil ?_
      refine eo_then ?_
      refine cw_seq ?_
      have hnd : ¬ (48 ≤ bs.getD i 0 ∧ bs.getD i 0 ≤ 57) := by omega
      by_cases hi0 : i > 0
      ·
        by_cases hi1 : i + 1 < bs.length
        ·
          by_cases hp95 : bs.getD (i - 1) 0 ≠ 95
          ·
            by_cases hq95 : bs.getD (i + 1) 0 ≠ 95
            ·
              refine cw_region ?_
              refine wl_move rfl rfl (by decide) ?_
              refine wl_cmp rfl rfl rfl true (cb_gt_t (a := i) (b := 0) rfl rfl (by omega)) (by decide) ?_
              refine wl_move rfl rfl (by decide) ?_
              refine wl_move rfl rfl (by decide) ?_
              refine wl_ar rfl rfl rfl ((i + 1 : Nat) : Int) (ai_add (a := i) (b := 1) rfl rfl (by omega)) (by decide) ?_
              refine wl_move rfl rfl (by decide) ?_
              refine wl_pureE rfl rfl (v := .int .i64 (((strB bs).size : Nat) : Int)) (v' := .int .i64 ((bs.length : Nat) : Int)) (by decide) (by kernel_rfl) (by rw [strB_size]) ?_
              refine wl_cmp rfl rfl rfl true (cb_lt_t (a := i + 1) (b := bs.length) rfl rfl (by omega)) (by decide) ?_
              refine wl_pure rfl rfl (v := .bool true) (by decide) (by kernel_rfl) ?_
              refine wl_move rfl rfl (by decide) ?_
              refine wl_move rfl rfl (by decide) ?_
              refine wl_move rfl rfl (by decide) ?_
              refine wl_ar rfl rfl rfl ((i - 1 : Nat) : Int) (ai_sub (a := i) (b := 1) rfl rfl (by omega) (by omega)) (by decide) ?_
              refine wl_strix (bs := bs) (i := i - 1) rfl rfl rfl Tryd.underlying9 hbs (by omega) (by decide) ?_
              refine wl_cmp rfl rfl rfl true (cb_ne_t (a := bs.getD (i - 1) 0) (b := 95) rfl rfl (by omega)) (by decide) ?_
              refine wl_pure rfl rfl (v := .bool true) (by decide) (by kernel_rfl) ?_
              refine wl_move rfl rfl (by decide) ?_
              refine wl_move rfl rfl (by decide) ?_
              refine wl_move rfl rfl (by decide) ?_
              refine wl_ar rfl rfl rfl ((i + 1 : Nat) : Int) (ai_add (a := i) (b := 1) rfl rfl (by omega)) (by decide) ?_
              refine wl_strix (bs := bs) (i := i + 1) rfl rfl rfl Tryd.underlying9 hbs (by omega) (by decide) ?_
              refine wl_cmp rfl rfl rfl true (cb_ne_t (a := bs.getD (i + 1) 0) (b := 95) rfl rfl (by omega)) (by decide) ?_
              refine wl_pure rfl rfl (v := .bool true) (by decide) (by kernel_rfl) ?_
              refine wl_assign rfl rfl (by decide) ?_
              refine wl_nil ?_
              refine eo_then ?_
              refine cw_seq ?_
              refine cw_seq ?_
              by_cases h95 : bs.getD i 0 ≠ 95
              ·
                refine cw_region ?_
                refine wl_move rfl rfl (by decide) ?_
                refine wl_pure rfl rfl (v := .bool true) (by decide) (by kernel_rfl) ?_
                refine wl_move rfl rfl (by decide) ?_
                refine wl_move rfl rfl (by decide) ?_
                refine wl_move rfl rfl (by decide) ?_
                refine wl_strix (bs := bs) (i := i) rfl rfl rfl Tryd.underlying9 hbs (by omega) (by decide) ?_
                refine wl_cmp rfl rfl rfl true (cb_ne_t (a := bs.getD i 0) (b := 95) rfl rfl (by omega)) (by decide) ?_
                refine wl_move rfl rfl (by decide) ?_
                refine wl_off rfl (by decide) ?_
                refine wl_off rfl (by decide) ?_
                refine wl_pure rfl rfl (v := .bool true) (by decide) (by kernel_rfl) ?_
                refine wl_pure rfl rfl (v := .bool true) (by decide) (by kernel_rfl) ?_
                refine wl_nil ?_
                refine eo_then ?_
                refine cw_true rfl ?_
                refine cw_seq ?_
                refine cw_region ?_
                refine wl_assign rfl rfl (by decide) ?_
                refine wl_assign rfl rfl (by decide) ?_
                refine wl_nil ?_
                refine eo_then ?_
                refine cw_ret ?_
                refine eo_thenR ?_
                refine eo_block_ret ?_
                refine eo_thenR ?_
                refine eo_loopR ?_
                refine eo_block_ret ?_
                refine eo_thenR ?_
                refine eo_ret [.slice none 0 0, .int .i64 7] rfl ⟨rfl, rfl, trivial⟩ ?_
                have hgn : grp false bs = none := hok.bad hlt hnd h95
                exact ⟨fun pl h => (by rw [hgn] at h; cases h), fun _ => ⟨_, rfl, ⟨_, _, rfl, rfl, rfl⟩, hw1⟩⟩
              ·
                have h95 : bs.getD i 0 = 95 := by omega
                refine cw_region ?_
                refine wl_move rfl rfl (by decide) ?_
                refine wl_pure rfl rfl (v := .bool true) (by decide) (by kernel_rfl) ?_
                refine wl_move rfl rfl (by decide) ?_
                refine wl_move rfl rfl (by decide) ?_
                refine wl_move rfl rfl (by decide) ?_
                refine wl_strix (bs := bs) (i := i) rfl rfl rfl Tryd.underlying9 hbs (by omega) (by decide) ?_
                refine wl_cmp rfl rfl rfl false (cb_ne_f (a := bs.getD i 0) (b := 95) rfl rfl (by omega)) (by decide) ?_
                refine wl_move rfl rfl (by decide) ?_
                refine wl_move rfl rfl (by decide) ?_
                refine wl_pure rfl rfl (v := .bool false) (by decide) (by kernel_rfl) ?_
                refine wl_pure rfl rfl (v := .bool false) (by decide) (by kernel_rfl) ?_
                refine wl_pure rfl rfl (v := .bool false) (by decide) (by kernel_rfl) ?_
                refine wl_nil ?_
                refine eo_then ?_
                refine cw_false rfl ?_
                refine cw_skip ?_
                refine eo_then ?_
                refine cw_seq ?_
                refine cw_region ?_
                refine wl_move rfl rfl (by decide) ?_
                refine wl_nil ?_
                refine eo_then ?_
                refine cw_false rfl ?_
                refine cw_skip ?_
                refine eo_block_normal ?_
                refine eo_then ?_
                refine cw_region ?_
                refine wl_move rfl rfl (by decide) ?_
                refine wl_ar rfl rfl rfl ((i + 1 : Nat) : Int) (ai_add (a := i) (b := 1) rfl rfl (by omega)) (by decide) ?_
                refine wl_assign rfl rfl (by decide) ?_
                refine wl_nil ?_
                refine eo_round (⟨wr, i + 1, OA, on, oc⟩ : World × Nat × Option Addr × Nat × Nat) ⟨hw1, (by rw [take_snoc4 hlt, List.filter_append, h95, filter_none, List.append_nil]; exact hO), (by omega), (hok.under hlt h95 hi0 hi1 hp95 hq95), (by omega)⟩ (show bs.length - (i + 1) < bs.length - i by omega) rfl ⟨rfl, rfl, rfl, trivial⟩
            ·
              refine cw_region ?_
              refine wl_move rfl rfl (by decide) ?_
              refine wl_cmp rfl rfl rfl true (cb_gt_t (a := i) (b := 0) rfl rfl (by omega)) (by decide) ?_
              refine wl_move rfl rfl (by decide) ?_
              refine wl_move rfl rfl (by decide) ?_
              refine wl_ar rfl rfl rfl ((i + 1 : Nat) : Int) (ai_add (a := i) (b := 1) rfl rfl (by omega)) (by decide) ?_
              refine wl_move rfl rfl (by decide) ?_
              refine wl_pureE rfl rfl (v := .int .i64 (((strB bs).size : Nat) : Int)) (v' := .int .i64 ((bs.length : Nat) : Int)) (by decide) (by kernel_rfl) (by rw [strB_size]) ?_
              refine wl_cmp rfl rfl rfl true (cb_lt_t (a := i + 1) (b := bs.length) rfl rfl (by omega)) (by decide) ?_
              refine wl_pure rfl rfl (v := .bool true) (by decide) (by kernel_rfl) ?_
              refine wl_move rfl rfl (by decide) ?_
              refine wl_move rfl rfl (by decide) ?_
              refine wl_move rfl rfl (by decide) ?_
              refine wl_ar rfl rfl rfl ((i - 1 : Nat) : Int) (ai_sub (a := i) (b := 1) rfl rfl (by omega) (by omega)) (by decide) ?_
              refine wl_strix (bs := bs) (i := i - 1) rfl rfl rfl Tryd.underlying9 hbs (by omega) (by decide) ?_
              refine wl_cmp rfl rfl rfl true (cb_ne_t (a := bs.getD (i - 1) 0) (b := 95) rfl rfl (by omega)) (by decide) ?_
              refine wl_pure rfl rfl (v := .bool true) (by decide) (by kernel_rfl) ?_
              refine wl_move rfl rfl (by decide) ?_
              refine wl_move rfl rfl (by decide) ?_
              refine wl_move rfl rfl (by decide) ?_
              refine wl_ar rfl rfl rfl ((i + 1 : Nat) : Int) (ai_add (a := i) (b := 1) rfl rfl (by omega)) (by decide) ?_
              refine wl_strix (bs := bs) (i := i + 1) rfl rfl rfl Tryd.underlying9 hbs (by omega) (by decide) ?_
              refine wl_cmp rfl rfl rfl false (cb_ne_f (a := bs.getD (i + 1) 0) (b := 95) rfl rfl (by omega)) (by decide) ?_
              refine wl_pure rfl rfl (v := .bool false) (by decide) (by kernel_rfl) ?_
              refine wl_assign rfl rfl (by decide) ?_
              refine wl_nil ?_
              refine eo_then ?_
              refine cw_seq ?_
              refine cw_seq ?_
              by_cases h95 : bs.getD i 0 ≠ 95
              ·
                refine cw_region ?_
                refine wl_move rfl rfl (by decide) ?_
                refine wl_pure rfl rfl (v := .bool true) (by decide) (by kernel_rfl) ?_
                refine wl_move rfl rfl (by decide) ?_
                refine wl_move rfl rfl (by decide) ?_
                refine wl_move rfl rfl (by decide) ?_
                refine wl_strix (bs := bs) (i := i) rfl rfl rfl Tryd.underlying9 hbs (by omega) (by decide) ?_
                refine wl_cmp rfl rfl rfl true (cb_ne_t (a := bs.getD i 0) (b := 95) rfl rfl (by omega)) (by decide) ?_
                refine wl_move rfl rfl (by decide) ?_
                refine wl_off rfl (by decide) ?_
                refine wl_off rfl (by decide) ?_
                refine wl_pure rfl rfl (v := .bool true) (by decide) (by kernel_rfl) ?_
                refine wl_pure rfl rfl (v := .bool true) (by decide) (by kernel_rfl) ?_
                refine wl_nil ?_
                refine eo_then ?_
                refine cw_true rfl ?_
                refine cw_seq ?_
                refine cw_region ?_
                refine wl_assign rfl rfl (by decide) ?_
                refine wl_assign rfl rfl (by decide) ?_
                refine wl_nil ?_
                refine eo_then ?_
                refine cw_ret ?_
                refine eo_thenR ?_
                refine eo_block_ret ?_
                refine eo_thenR ?_
                refine eo_loopR ?_
                refine eo_block_ret ?_
                refine eo_thenR ?_
                refine eo_ret [.slice none 0 0, .int .i64 7] rfl ⟨rfl, rfl, trivial⟩ ?_
                have hgn : grp false bs = none := hok.bad hlt hnd h95
                exact ⟨fun pl h => (by rw [hgn] at h; cases h), fun _ => ⟨_, rfl, ⟨_, _, rfl, rfl, rfl⟩, hw1⟩⟩
              ·
                have h95 : bs.getD i 0 = 95 := by omega
                refine cw_region ?_
                refine wl_move rfl rfl (by decide) ?_
                refine wl_pure rfl rfl (v := .bool true) (by decide) (by kernel_rfl) ?_
                refine wl_move rfl rfl (by decide) ?_
                refine wl_move rfl rfl (by decide) ?_
                refine wl_move rfl rfl (by decide) ?_
                refine wl_strix (bs := bs) (i := i) rfl rfl rfl Tryd.underlying9 hbs (by omega) (by decide) ?_
                refine wl_cmp rfl rfl rfl false (cb_ne_f (a := bs.getD i 0) (b := 95) rfl rfl (by omega)) (by decide) ?_
                refine wl_move rfl rfl (by decide) ?_
                refine wl_move rfl rfl (by decide) ?_
                refine wl_pure rfl rfl (v := .bool true) (by decide) (by kernel_rfl) ?_
                refine wl_pure rfl rfl (v := .bool true) (by decide) (by kernel_rfl) ?_
                refine wl_pure rfl rfl (v := .bool true) (by decide) (by kernel_rfl) ?_
                refine wl_nil ?_
                refine eo_then ?_
                refine cw_true rfl ?_
                refine cw_seq ?_
                refine cw_region ?_
                refine wl_assign rfl rfl (by decide) ?_
                refine wl_assign rfl rfl (by decide) ?_
                refine wl_nil ?_
                refine eo_then ?_
                refine cw_ret ?_
                refine eo_thenR ?_
                refine eo_block_ret ?_
                refine eo_thenR ?_
                refine eo_loopR ?_
                refine eo_block_ret ?_
                refine eo_thenR ?_
                refine eo_ret [.slice none 0 0, .int .i64 7] rfl ⟨rfl, rfl, trivial⟩ ?_
                have hgn : grp false bs = none := hok.notQ hlt hnd hi1 (by omega) h95
                exact ⟨fun pl h => (by rw [hgn] at h; cases h), fun _ => ⟨_, rfl, ⟨_, _, rfl, rfl, rfl⟩, hw1⟩⟩
          ·
            refine cw_region ?_
            refine wl_move rfl rfl (by decide) ?_
            refine wl_cmp rfl rfl rfl true (cb_gt_t (a := i) (b := 0) rfl rfl (by omega)) (by decide) ?_
            refine wl_move rfl rfl (by decide) ?_
            refine wl_move rfl rfl (by decide) ?_
            refine wl_ar rfl rfl rfl ((i + 1 : Nat) : Int) (ai_add (a := i) (b := 1) rfl rfl (by omega)) (by decide) ?_
            refine wl_move rfl rfl (by decide) ?_
            refine wl_pureE rfl rfl (v := .int .i64 (((strB bs).size : Nat) : Int)) (v' := .int .i64 ((bs.length : Nat) : Int)) (by decide) (by kernel_rfl) (by rw [strB_size]) ?_
            refine wl_cmp rfl rfl rfl true (cb_lt_t (a := i + 1) (b := bs.length) rfl rfl (by omega)) (by decide) ?_
            refine wl_pure rfl rfl (v := .bool true) (by decide) (by kernel_rfl) ?_
            refine wl_move rfl rfl (by decide) ?_
            refine wl_move rfl rfl (by decide) ?_
            refine wl_move rfl rfl (by decide) ?_
            refine wl_ar rfl rfl rfl ((i - 1 : Nat) : Int) (ai_sub (a := i) (b := 1) rfl rfl (by omega) (by omega)) (by decide) ?_
            refine wl_strix (bs := bs) (i := i - 1) rfl rfl rfl Tryd.underlying9 hbs (by omega) (by decide) ?_
            refine wl_cmp rfl rfl rfl false (cb_ne_f (a := bs.getD (i - 1) 0) (b := 95) rfl rfl (by omega)) (by decide) ?_
            refine wl_pure rfl rfl (v := .bool false) (by decide) (by kernel_rfl) ?_
            refine wl_move rfl rfl (by decide) ?_
            refine wl_off rfl (by decide) ?_
            refine wl_off rfl (by decide) ?_
            refine wl_off rfl (by decide) ?_
            refine wl_off rfl (by decide) ?_
            refine wl_off rfl (by decide) ?_
            refine wl_pure rfl rfl (v := .bool false) (by decide) (by kernel_rfl) ?_
            refine wl_assign rfl rfl (by decide) ?_
            refine wl_nil ?_
            refine eo_then ?_
            refine cw_seq ?_
            refine cw_seq ?_
            by_cases h95 : bs.getD i 0 ≠ 95
            ·
              refine cw_region ?_
              refine wl_move rfl rfl (by decide) ?_
              refine wl_pure rfl rfl (v := .bool true) (by decide) (by kernel_rfl) ?_
              refine wl_move rfl rfl (by decide) ?_
              refine wl_move rfl rfl (by decide) ?_
              refine wl_move rfl rfl (by decide) ?_
              refine wl_strix (bs := bs) (i := i) rfl rfl rfl Tryd.underlying9 hbs (by omega) (by decide) ?_
              refine wl_cmp rfl rfl rfl true (cb_ne_t (a := bs.getD i 0) (b := 95) rfl rfl (by omega)) (by decide) ?_
              refine wl_move rfl rfl (by decide) ?_
              refine wl_off rfl (by decide) ?_
              refine wl_off rfl (by decide) ?_
              refine wl_pure rfl rfl (v := .bool true) (by decide) (by kernel_rfl) ?_
              refine wl_pure rfl rfl (v := .bool true) (by decide) (by kernel_rfl) ?_
              refine wl_nil ?_
              refine eo_then ?_
              refine cw_true rfl ?_
              refine cw_seq ?_
              refine cw_region ?_
              refine wl_assign rfl rfl (by decide) ?_
              refine wl_assign rfl rfl (by decide) ?_
              refine wl_nil ?_
              refine eo_then ?_
              refine cw_ret ?_
              refine eo_thenR ?_
              refine eo_block_ret ?_
              refine eo_thenR ?_
              refine eo_loopR ?_
              refine eo_block_ret ?_
              refine eo_thenR ?_
              refine eo_ret [.slice none 0 0, .int .i64 7] rfl ⟨rfl, rfl, trivial⟩ ?_
              have hgn : grp false bs = none := hok.bad hlt hnd h95
              exact ⟨fun pl h => (by rw [hgn] at h; cases h), fun _ => ⟨_, rfl, ⟨_, _, rfl, rfl, rfl⟩, hw1⟩⟩
            ·
              have h95 : bs.getD i 0 = 95 := by omega
              refine cw_region ?_
              refine wl_move rfl rfl (by decide) ?_
              refine wl_pure rfl rfl (v := .bool true) (by decide) (by kernel_rfl) ?_
              refine wl_move rfl rfl (by decide) ?_
              refine wl_move rfl rfl (by decide) ?_
              refine wl_move rfl rfl (by decide) ?_
              refine wl_strix (bs := bs) (i := i) rfl rfl rfl Tryd.underlying9 hbs (by omega) (by decide) ?_
              refine wl_cmp rfl rfl rfl false (cb_ne_f (a := bs.getD i 0) (b := 95) rfl rfl (by omega)) (by decide) ?_
              refine wl_move rfl rfl (by decide) ?_
              refine wl_move rfl rfl (by decide) ?_
              refine wl_pure rfl rfl (v := .bool true) (by decide) (by kernel_rfl) ?_
              refine wl_pure rfl rfl (v := .bool true) (by decide) (by kernel_rfl) ?_
              refine wl_pure rfl rfl (v := .bool true) (by decide) (by kernel_rfl) ?_
              refine wl_nil ?_
              refine eo_then ?_
              refine cw_true rfl ?_
              refine cw_seq ?_
              refine cw_region ?_
              refine wl_assign rfl rfl (by decide) ?_
              refine wl_assign rfl rfl (by decide) ?_
              refine wl_nil ?_
              refine eo_then ?_
              refine cw_ret ?_
              refine eo_thenR ?_
              refine eo_block_ret ?_
              refine eo_thenR ?_
              refine eo_loopR ?_
              refine eo_block_ret ?_
              refine eo_thenR ?_
              refine eo_ret [.slice none 0 0, .int .i64 7] rfl ⟨rfl, rfl, trivial⟩ ?_
              have hgn : grp false bs = none := hok.notP hlt hnd hi0 (by omega) h95
              exact ⟨fun pl h => (by rw [hgn] at h; cases h), fun _ => ⟨_, rfl, ⟨_, _, rfl, rfl, rfl⟩, hw1⟩⟩
        ·
          refine cw_region ?_
          refine wl_move rfl rfl (by decide) ?_
          refine wl_cmp rfl rfl rfl true (cb_gt_t (a := i) (b := 0) rfl rfl (by omega)) (by decide) ?_
          refine wl_move rfl rfl (by decide) ?_
          refine wl_move rfl rfl (by decide) ?_
          refine wl_ar rfl rfl rfl ((i + 1 : Nat) : Int) (ai_add (a := i) (b := 1) rfl rfl (by omega)) (by decide) ?_
          refine wl_move rfl rfl (by decide) ?_
          refine wl_pureE rfl rfl (v := .int .i64 (((strB bs).size : Nat) : Int)) (v' := .int .i64 ((bs.length : Nat) : Int)) (by decide) (by kernel_rfl) (by rw [strB_size]) ?_
          refine wl_cmp rfl rfl rfl false (cb_lt_f (a := i + 1) (b := bs.length) rfl rfl (by omega)) (by decide) ?_
          refine wl_pure rfl rfl (v := .bool false) (by decide) (by kernel_rfl) ?_
          refine wl_move rfl rfl (by decide) ?_
          refine wl_off rfl (by decide) ?_
          refine wl_off rfl (by decide) ?_
          refine wl_off rfl (by decide) ?_
          refine wl_off rfl (by decide) ?_
          refine wl_off rfl (by decide) ?_
          refine wl_pure rfl rfl (v := .bool false) (by decide) (by kernel_rfl) ?_
          refine wl_move rfl rfl (by decide) ?_
          refine wl_off rfl (by decide) ?_
          refine wl_off rfl (by decide) ?_
          refine wl_off rfl (by decide) ?_
          refine wl_off rfl (by decide) ?_
          refine wl_off rfl (by decide) ?_
          refine wl_pure rfl rfl (v := .bool false) (by decide) (by kernel_rfl) ?_
          refine wl_assign rfl rfl (by decide) ?_
          refine wl_nil ?_
          refine eo_then ?_
          refine cw_seq ?_
          refine cw_seq ?_
          by_cases h95 : bs.getD i 0 ≠ 95
          ·
            refine cw_region ?_
            refine wl_move rfl rfl (by decide) ?_
            refine wl_pure rfl rfl (v := .bool true) (by decide) (by kernel_rfl) ?_
            refine wl_move rfl rfl (by decide) ?_
            refine wl_move rfl rfl (by decide) ?_
            refine wl_move rfl rfl (by decide) ?_
            refine wl_strix (bs := bs) (i := i) rfl rfl rfl Tryd.underlying9 hbs (by omega) (by decide) ?_
            refine wl_cmp rfl rfl rfl true (cb_ne_t (a := bs.getD i 0) (b := 95) rfl rfl (by omega)) (by decide) ?_
            refine wl_move rfl rfl (by decide) ?_
            refine wl_off rfl (by decide) ?_
            refine wl_off rfl (by decide) ?_
            refine wl_pure rfl rfl (v := .bool true) (by decide) (by kernel_rfl) ?_
            refine wl_pure rfl rfl (v := .bool true) (by decide) (by kernel_rfl) ?_
            refine wl_nil ?_
            refine eo_then ?_
            refine cw_true rfl ?_
            refine cw_seq ?_
            refine cw_region ?_
            refine wl_assign rfl rfl (by decide) ?_
            refine wl_assign rfl rfl (by decide) ?_
            refine wl_nil ?_
            refine eo_then ?_
            refine cw_ret ?_
            refine eo_thenR ?_
            refine eo_block_ret ?_
            refine eo_thenR ?_
            refine eo_loopR ?_
            refine eo_block_ret ?_
            refine eo_thenR ?_
            refine eo_ret [.slice none 0 0, .int .i64 7] rfl ⟨rfl, rfl, trivial⟩ ?_
            have hgn : grp false bs = none := hok.bad hlt hnd h95
            exact ⟨fun pl h => (by rw [hgn] at h; cases h), fun _ => ⟨_, rfl, ⟨_, _, rfl, rfl, rfl⟩, hw1⟩⟩
          ·
            have h95 : bs.getD i 0 = 95 := by omega
            refine cw_region ?_
            refine wl_move rfl rfl (by decide) ?_
            refine wl_pure rfl rfl (v := .bool true) (by decide) (by kernel_rfl) ?_
            refine wl_move rfl rfl (by decide) ?_
            refine wl_move rfl rfl (by decide) ?_
            refine wl_move rfl rfl (by decide) ?_
            refine wl_strix (bs := bs) (i := i) rfl rfl rfl Tryd.underlying9 hbs (by omega) (by decide) ?_
            refine wl_cmp rfl rfl rfl false (cb_ne_f (a := bs.getD i 0) (b := 95) rfl rfl (by omega)) (by decide) ?_
            refine wl_move rfl rfl (by decide) ?_
            refine wl_move rfl rfl (by decide) ?_
            refine wl_pure rfl rfl (v := .bool true) (by decide) (by kernel_rfl) ?_
            refine wl_pure rfl rfl (v := .bool true) (by decide) (by kernel_rfl) ?_
            refine wl_pure rfl rfl (v := .bool true) (by decide) (by kernel_rfl) ?_
            refine wl_nil ?_
            refine eo_then ?_
            refine cw_true rfl ?_
            refine cw_seq ?_
            refine cw_region ?_
            refine wl_assign rfl rfl (by decide) ?_
            refine wl_assign rfl rfl (by decide) ?_
            refine wl_nil ?_
            refine eo_then ?_
            refine cw_ret ?_
            refine eo_thenR ?_
            refine eo_block_ret ?_
            refine eo_thenR ?_
            refine eo_loopR ?_
            refine eo_block_ret ?_
            refine eo_thenR ?_
            refine eo_ret [.slice none 0 0, .int .i64 7] rfl ⟨rfl, rfl, trivial⟩ ?_
            have hgn : grp false bs = none := hok.last hlt hnd (by omega) h95
            exact ⟨fun pl h => (by rw [hgn] at h; cases h), fun _ => ⟨_, rfl, ⟨_, _, rfl, rfl, rfl⟩, hw1⟩⟩
      ·
        refine cw_region ?_
        refine wl_move rfl rfl (by decide) ?_
        refine wl_cmp rfl rfl rfl false (cb_gt_f (a := i) (b := 0) rfl rfl (by omega)) (by decide) ?_
        refine wl_move rfl rfl (by decide) ?_
        refine wl_off rfl (by decide) ?_
        refine wl_off rfl (by decide) ?_
        refine wl_off rfl (by decide) ?_
        refine wl_off rfl (by decide) ?_
        refine wl_off rfl (by decide) ?_
        refine wl_pure rfl rfl (v := .bool false) (by decide) (by kernel_rfl) ?_
        refine wl_move rfl rfl (by decide) ?_
        refine wl_off rfl (by decide) ?_
        refine wl_off rfl (by decide) ?_
        refine wl_off rfl (by decide) ?_
        refine wl_off rfl (by decide) ?_
        refine wl_off rfl (by decide) ?_
        refine wl_pure rfl rfl (v := .bool false) (by decide) (by kernel_rfl) ?_
        refine wl_move rfl rfl (by decide) ?_
        refine wl_off rfl (by decide) ?_
        refine wl_off rfl (by decide) ?_
        refine wl_off rfl (by decide) ?_
        refine wl_off rfl (by decide) ?_
        refine wl_off rfl (by decide) ?_
        refine wl_pure rfl rfl (v := .bool false) (by decide) (by kernel_rfl) ?_
        refine wl_assign rfl rfl (by decide) ?_
        refine wl_nil ?_
        refine eo_then ?_
        refine cw_seq ?_
        refine cw_seq ?_
        by_cases h95 : bs.getD i 0 ≠ 95
        ·
          refine cw_region ?_
          refine wl_move rfl rfl (by decide) ?_
          refine wl_pure rfl rfl (v := .bool true) (by decide) (by kernel_rfl) ?_
          refine wl_move rfl rfl (by decide) ?_
          refine wl_move rfl rfl (by decide) ?_
          refine wl_move rfl rfl (by decide) ?_
          refine wl_strix (bs := bs) (i := i) rfl rfl rfl Tryd.underlying9 hbs (by omega) (by decide) ?_
          refine wl_cmp rfl rfl rfl true (cb_ne_t (a := bs.getD i 0) (b := 95) rfl rfl (by omega)) (by decide) ?_
          refine wl_move rfl rfl (by decide) ?_
          refine wl_off rfl (by decide) ?_
          refine wl_off rfl (by decide) ?_
          refine wl_pure rfl rfl (v := .bool true) (by decide) (by kernel_rfl) ?_
          refine wl_pure rfl rfl (v := .bool true) (by decide) (by kernel_rfl) ?_
          refine wl_nil ?_
          refine eo_then ?_
          refine cw_true rfl ?_
          refine cw_seq ?_
          refine cw_region ?_
          refine wl_assign rfl rfl (by decide) ?_
          refine wl_assign rfl rfl (by decide) ?_
          refine wl_nil ?_
          refine eo_then ?_
          refine cw_ret ?_
          refine eo_thenR ?_
          refine eo_block_ret ?_
          refine eo_thenR ?_
          refine eo_loopR ?_
          refine eo_block_ret ?_
          refine eo_thenR ?_
          refine eo_ret [.slice none 0 0, .int .i64 7] rfl ⟨rfl, rfl, trivial⟩ ?_
          have hgn : grp false bs = none := hok.bad hlt hnd h95
          exact ⟨fun pl h => (by rw [hgn] at h; cases h), fun _ => ⟨_, rfl, ⟨_, _, rfl, rfl, rfl⟩, hw1⟩⟩
        ·
          have h95 : bs.getD i 0 = 95 := by omega
          refine cw_region ?_
          refine wl_move rfl rfl (by decide) ?_
          refine wl_pure rfl rfl (v := .bool true) (by decide) (by kernel_rfl) ?_
          refine wl_move rfl rfl (by decide) ?_
          refine wl_move rfl rfl (by decide) ?_
          refine wl_move rfl rfl (by decide) ?_
          refine wl_strix (bs := bs) (i := i) rfl rfl rfl Tryd.underlying9 hbs (by omega) (by decide) ?_
          refine wl_cmp rfl rfl rfl false (cb_ne_f (a := bs.getD i 0) (b := 95) rfl rfl (by omega)) (by decide) ?_
          refine wl_move rfl rfl (by decide) ?_
          refine wl_move rfl rfl (by decide) ?_
          refine wl_pure rfl rfl (v := .bool true) (by decide) (by kernel_rfl) ?_
          refine wl_pure rfl rfl (v := .bool true) (by decide) (by kernel_rfl) ?_
          refine wl_pure rfl rfl (v := .bool true) (by decide) (by kernel_rfl) ?_
          refine wl_nil ?_
          refine eo_then ?_
          refine cw_true rfl ?_
          refine cw_seq ?_
          refine cw_region ?_
          refine wl_assign rfl rfl (by decide) ?_
          refine wl_assign rfl rfl (by decide) ?_
          refine wl_nil ?_
          refine eo_then ?_
          refine cw_ret ?_
          refine eo_thenR ?_
          refine eo_block_ret ?_
          refine eo_thenR ?_
          refine eo_loopR ?_
          refine eo_block_ret ?_
          refine eo_thenR ?_
          refine eo_ret [.slice none 0 0, .int .i64 7] rfl ⟨rfl, rfl, trivial⟩ ?_
          have hgn : grp false bs = none := hok.first hlt hnd (by omega) h95
          exact ⟨fun pl h => (by rw [hgn] at h; cases h), fun _ => ⟨_, rfl, ⟨_, _, rfl, rfl, rfl⟩, hw1⟩⟩
  ·
    have hie : i = bs.length := by omega
    rw [hie, List.take_length] at hO
    rw [hie] at hok
    by_cases hnil : bs = []
    ·
      have hgn := hok.nil hnil
      have hgf : ¬ Good 10 (bs.filter (· ≠ 95)) := fun h => h.1 (by rw [hnil]; rfl)
      refine cw_region ?_
      refine wl_move rfl rfl (by decide) ?_
      refine wl_move rfl rfl (by decide) ?_
      refine wl_pureE rfl rfl (v := .int .i64 (((strB bs).size : Nat) : Int)) (v' := .int .i64 ((bs.length : Nat) : Int)) (by decide) (by kernel_rfl) (by rw [strB_size]) ?_
      refine wl_cmp rfl rfl rfl false (cb_lt_f (a := i) (b := bs.length) rfl rfl (by omega)) (by decide) ?_
      refine wl_nil ?_
      refine eo_then ?_
      refine cw_false rfl ?_
      refine cw_exit ?_
      refine eo_thenX ?_
      refine eo_loopX ?_
      refine eo_block_here ?_
      refine eo_then ?_
      refine cw_seq ?_
      refine cw_region ?_
      refine wl_move rfl rfl (by decide) ?_
      refine wl_toStr rfl rfl hO (by decide) ?_
      refine wl_call rfl rfl (vs := [.string (strB (bs.filter (· ≠ 95))), .int .i64 10]) (by kernel_rfl) (by decide) (ref4_Read_bad (fun b hb => hbs b (List.mem_filter.1 hb).1) (Nat.le_trans (List.length_filter_le _ _) hlen) (by decide) (by decide) hgf) ?_
      rintro _ v61 ⟨xr63, rfl, r63, e62⟩
      refine ret_intro ?_
      have hw2 : Ext w v61 := hw1.trans e62
      obtain ⟨a64_0, a64_1, rfl, r64_0, r64_1⟩ := r63
      obtain rfl := r64_0
      obtain rfl := r64_1
      refine wl_pure rfl rfl (v := .slice none 0 0) (by decide) (by kernel_rfl) ?_
      refine wl_pure rfl rfl (v := .int .i64 7) (by decide) (by kernel_rfl) ?_
      refine wl_assign rfl rfl (by decide) ?_
      refine wl_assign rfl rfl (by decide) ?_
      refine wl_nil ?_
      refine eo_then ?_
      refine cw_ret ?_
      refine eo_ret [.slice none 0 0, .int .i64 7] rfl ⟨rfl, rfl, trivial⟩ ?_
      exact ⟨fun pl h => (by rw [hgn] at h; cases h), fun _ => ⟨_, rfl, ⟨_, _, rfl, rfl, rfl⟩, hw2⟩⟩
    ·
      obtain ⟨hgs, hgf⟩ := hok.all hnil
      refine cw_region ?_
      refine wl_move rfl rfl (by decide) ?_
      refine wl_move rfl rfl (by decide) ?_
      refine wl_pureE rfl rfl (v := .int .i64 (((strB bs).size : Nat) : Int)) (v' := .int .i64 ((bs.length : Nat) : Int)) (by decide) (by kernel_rfl) (by rw [strB_size]) ?_
      refine wl_cmp rfl rfl rfl false (cb_lt_f (a := i) (b := bs.length) rfl rfl (by omega)) (by decide) ?_
      refine wl_nil ?_
      refine eo_then ?_
      refine cw_false rfl ?_
      refine cw_exit ?_
      refine eo_thenX ?_
      refine eo_loopX ?_
      refine eo_block_here ?_
      refine eo_then ?_
      refine cw_seq ?_
      refine cw_region ?_
      refine wl_move rfl rfl (by decide) ?_
      refine wl_toStr rfl rfl hO (by decide) ?_
      refine wl_call rfl rfl (vs := [.string (strB (bs.filter (· ≠ 95))), .int .i64 10]) (by kernel_rfl) (by decide) ((ref4_Read_good (fun b hb => hbs b (List.mem_filter.1 hb).1) (Nat.le_trans (List.length_filter_le _ _) hlen) (by decide) (by decide) hgf).mono (Gv.imp (T2.imp (WR.imp hw1.size) Is.imp))) ?_
      rintro _ v65 ⟨xr67, rfl, r67, e66⟩
      refine ret_intro ?_
      have hw2 : Ext w v65 := hw1.trans e66
      obtain ⟨a68_0, a68_1, rfl, r68_0, r68_1⟩ := r67
      obtain ⟨A69, n69, c69, rfl, j69, o69⟩ := r68_0
      obtain rfl := r68_1
      refine wl_pure rfl rfl (v := .slice A69 n69 c69) (by decide) (by kernel_rfl) ?_
      refine wl_pure rfl rfl (v := .int .i64 0) (by decide) (by kernel_rfl) ?_
      refine wl_assign rfl rfl (by decide) ?_
      refine wl_assign rfl rfl (by decide) ?_
      refine wl_nil ?_
      refine eo_then ?_
      refine cw_ret ?_
      refine eo_ret [.slice A69 n69 c69, .int .i64 0] rfl ⟨rfl, rfl, trivial⟩ ?_
      exact ⟨fun pl h => by rw [hgs] at h; cases h; exact ⟨_, rfl, ⟨_, _, rfl, ⟨_, _, _, rfl, j69, o69⟩, rfl⟩, hw2⟩, fun h => by rw [hgs] at h; cases h⟩
end Go.Proofs.YtmjdmjflgiicaaaDoor

namespace Go.Proofs.YtmjdmjflgiicaaaDoor
open Go.RowKit
theorem grp_props {l : List Nat} : ∀ {b : Bool} {pl : List Nat}, grp b l = some pl → (∀ c, c ∈ pl → dv c < 10) ∧ pl.length ≤ l.length := by
  induction l with
  | nil =>
    intro b pl h
    cases b
    · cases h
    · rw [grp, if_pos rfl, Option.some.injEq] at h; subst h; exact ⟨fun c hc => absurd hc (by simp), Nat.le_refl _⟩
  | cons c r ih =>
    intro b pl h
    rw [grp] at h
    split at h
    · obtain ⟨h1, h2⟩ := ih h
      exact ⟨h1, by rw [List.length_cons]; omega⟩
    · split at h
      · rename_i hd
        cases hg : grp true r with
        | none => rw [hg] at h; cases h
        | some q =>
          rw [hg, Option.map_some, Option.some.injEq] at h
          subst h
          obtain ⟨h1, h2⟩ := ih hg
          exact ⟨fun x hx => by rcases List.mem_cons.1 hx with rfl | hx; (· exact hd); (· exact h1 x hx), by rw [List.length_cons, List.length_cons]; omega⟩
      · cases h
theorem grp_len {bs pl : List Nat} (h : grp false bs = some pl) : (wd (vald 10 (pl.map dv))).length ≤ bs.length := by
  obtain ⟨h1, h2⟩ := grp_props h
  exact Nat.le_trans (len_wd_dv (by decide) (by decide) h1) h2
set_option maxHeartbeats 4000000 in
theorem g_texts4_good {w : World} {A : Option Addr} {an ac m : Nat} {k : Int} {bs : List Nat} (hS : Signs w) (hx : Wi w A an ac m) (hal : an ≤ 1048576) {base : Nat} (hbl : 2 ≤ base) (hbu : base ≤ 36) :
    Calls Tryd.prog 50 #[.agg #[.int .i64 k, .slice A an ac, .string (strB bs), .int .i64 ((base : Nat) : Int)]] w (Gv w (Is (.bool true))) := by
  refine sx_enter Tryd.func50 rfl (n := 66) rfl (Nat.le_of_ble_eq_true rfl) (args := [.agg #[.int .i64 k, .slice A an ac, .string (strB bs), .int .i64 ((base : Nat) : Int)]]) ?_
  refine cw_keep [(0, .agg #[.int .i64 k, .slice A an ac, .string (strB bs), .int .i64 ((base : Nat) : Int)])] ⟨rfl, trivial⟩ ?_
  refine cw_seq ?_
  refine cw_region ?_
  refine wl_box rfl rfl (vs := [.int .i64 k, .slice A an ac, .string (strB bs), .int .i64 ((base : Nat) : Int)]) rfl (by decide) fun g1 v2 nb => ?_
  have hb4 := nb.bk
  have ge5 : w.heap.size ≤ g1 := by rw [← nb.at_]; exact (Ext.refl w).size
  have e3 := nb.ext
  clear nb
  have hw1 : Ext w v2 := (Ext.refl w).trans e3
  refine wl_assign rfl rfl (by decide) ?_
  refine wl_nil ?_
  refine eo_then ?_
  refine cw_seq ?_
  refine cw_seq ?_
  refine cw_region ?_
  refine wl_pure rfl rfl (v := .pointer (some ⟨g1, 0, none⟩)) (by decide) (by kernel_rfl) ?_
  refine wl_load rfl rfl (load_cell (fun _ => by kernel_rfl) hb4 rfl) (by decide) ?_
  refine wl_nil ?_
  refine eo_then ?_
  refine cw_block ?_
  refine cw_seq ?_
  by_cases hk1 : k = 1
  ·
    refine cw_region ?_
    refine wl_cmp rfl rfl rfl true (eq_t hk1) (by decide) ?_
    refine wl_assign rfl rfl (by decide) ?_
    refine wl_nil ?_
    refine eo_then ?_
    refine cw_true rfl ?_
    refine cw_seq ?_
    refine cw_region ?_
    refine wl_pure rfl rfl (v := .pointer (some ⟨g1, 1, none⟩)) (by decide) (by kernel_rfl) ?_
    refine wl_load rfl rfl (load_cell (fun _ => by kernel_rfl) hb4 rfl) (by decide) ?_
    refine wl_pure rfl rfl (v := .pointer (some ⟨g1, 3, none⟩)) (by decide) (by kernel_rfl) ?_
    refine wl_load rfl rfl (load_cell (fun _ => by kernel_rfl) hb4 rfl) (by decide) ?_
    refine wl_call rfl rfl (vs := [.slice A an ac, .int .i64 ((base : Nat) : Int)]) (by kernel_rfl) (by decide) (ref4_Text (hx.ext hw1) hal hbl hbu) ?_
    rintro _ v6 ⟨xr8, rfl, r8, e7⟩
    refine ret_intro ?_
    have hw2 : Ext w v6 := hw1.trans e7
    obtain ⟨a9_0, a9_1, rfl, r9_0, r9_1⟩ := r8
    obtain rfl := r9_0
    obtain rfl := r9_1
    refine wl_move rfl rfl (by decide) ?_
    refine wl_pure rfl rfl (v := .string (strB (txtN base m))) (by decide) (by kernel_rfl) ?_
    refine wl_pure rfl rfl (v := .int .i64 0) (by decide) (by kernel_rfl) ?_
    refine wl_assign rfl rfl (by decide) ?_
    refine wl_assign rfl rfl (by decide) ?_
    refine wl_nil ?_
    refine eo_then ?_
    refine cw_seq ?_
    refine cw_region ?_
    refine wl_pure rfl rfl (v := .pointer (some ⟨g1, 1, none⟩)) (by decide) (by kernel_rfl) ?_
    refine wl_load rfl rfl (load_cell (fun _ => by kernel_rfl) (hb4.ext e7) rfl) (by decide) ?_
    refine wl_pure rfl rfl (v := .pointer (some ⟨g1, 3, none⟩)) (by decide) (by kernel_rfl) ?_
    refine wl_load rfl rfl (load_cell (fun _ => by kernel_rfl) (hb4.ext e7) rfl) (by decide) ?_
    refine wl_call rfl rfl (vs := [.slice A an ac, .int .i64 ((base : Nat) : Int)]) (by kernel_rfl) (by decide) (rx_Text (base := base) (hS.ext hw2) (hx.ext hw2) (by omega) (by omega) (by omega)) ?_
    rintro _ v10 ⟨xr12, rfl, r12, e11⟩
    refine ret_intro ?_
    have hw3 : Ext w v10 := hw2.trans e11
    obtain ⟨a13_0, a13_1, rfl, r13_0, r13_1⟩ := r12
    obtain rfl := r13_0
    obtain rfl := r13_1
    refine wl_move rfl rfl (by decide) ?_
    refine wl_pure rfl rfl (v := .string (strB (txtN base m))) (by decide) (by kernel_rfl) ?_
    refine wl_pure rfl rfl (v := .int .i64 0) (by decide) (by kernel_rfl) ?_
    refine wl_assign rfl rfl (by decide) ?_
    refine wl_assign rfl rfl (by decide) ?_
    refine wl_nil ?_
    refine eo_then ?_
    refine cw_seq ?_
    refine cw_region ?_
    refine wl_move rfl rfl (by decide) ?_
    refine wl_move rfl rfl (by decide) ?_
    refine wl_streq (a := txtN base m) (b := txtN base m) rfl rfl rfl (txtN_lt (by omega) (by omega)) (txtN_lt (by omega) (by omega)) true (strE_eql_t (rfl)) (by decide) ?_
    refine wl_move rfl rfl (by decide) ?_
    refine wl_move rfl rfl (by decide) ?_
    refine wl_move rfl rfl (by decide) ?_
    refine wl_cmp rfl rfl rfl true (by decide) (by decide) ?_
    refine wl_pure rfl rfl (v := .bool true) (by decide) (by kernel_rfl) ?_
    refine wl_assign rfl rfl (by decide) ?_
    refine wl_nil ?_
    refine eo_then ?_
    refine cw_ret ?_
    refine eo_block_ret ?_
    refine eo_thenR ?_
    refine eo_ret [.bool true] rfl ⟨rfl, trivial⟩ ?_
    exact ⟨_, rfl, rfl, hw3⟩
  ·
    refine cw_region ?_
    refine wl_cmp rfl rfl rfl false (eq_f hk1) (by decide) ?_
    refine wl_assign rfl rfl (by decide) ?_
    refine wl_nil ?_
    refine eo_then ?_
    refine cw_false rfl ?_
    refine cw_seq ?_
    by_cases hk2 : k = 2
    ·
      refine cw_region ?_
      refine wl_cmp rfl rfl rfl true (eq_t hk2) (by decide) ?_
      refine wl_assign rfl rfl (by decide) ?_
      refine wl_nil ?_
      refine eo_then ?_
      refine cw_true rfl ?_
      refine cw_seq ?_
      refine cw_region ?_
      refine wl_pure rfl rfl (v := .pointer (some ⟨g1, 1, none⟩)) (by decide) (by kernel_rfl) ?_
      refine wl_load rfl rfl (load_cell (fun _ => by kernel_rfl) hb4 rfl) (by decide) ?_
      refine wl_call rfl rfl (vs := [.slice A an ac]) (by kernel_rfl) (by decide) (ref4_Dec (hx.ext hw1) hal) ?_
      rintro _ v14 ⟨xr16, rfl, r16, e15⟩
      refine ret_intro ?_
      have hw2 : Ext w v14 := hw1.trans e15
      obtain rfl := r16
      refine wl_assign rfl rfl (by decide) ?_
      refine wl_nil ?_
      refine eo_then ?_
      refine cw_seq ?_
      refine cw_region ?_
      refine wl_pure rfl rfl (v := .pointer (some ⟨g1, 1, none⟩)) (by decide) (by kernel_rfl) ?_
      refine wl_load rfl rfl (load_cell (fun _ => by kernel_rfl) (hb4.ext e15) rfl) (by decide) ?_
      refine wl_call rfl rfl (vs := [.slice A an ac]) (by kernel_rfl) (by decide) (rx_DecF (hS.ext hw2) (hx.ext hw2) (by omega)) ?_
      rintro _ v17 ⟨xr19, rfl, r19, e18⟩
      refine ret_intro ?_
      have hw3 : Ext w v17 := hw2.trans e18
      obtain rfl := r19
      refine wl_move rfl rfl (by decide) ?_
      refine wl_streq (a := txtN 10 m) (b := txtN 10 m) rfl rfl rfl (txtN_lt (by omega) (by omega)) (txtN_lt (by omega) (by omega)) true (strE_eql_t (rfl)) (by decide) ?_
      refine wl_assign rfl rfl (by decide) ?_
      refine wl_nil ?_
      refine eo_then ?_
      refine cw_ret ?_
      refine eo_block_ret ?_
      refine eo_thenR ?_
      refine eo_ret [.bool true] rfl ⟨rfl, trivial⟩ ?_
      exact ⟨_, rfl, rfl, hw3⟩
    ·
      refine cw_region ?_
      refine wl_cmp rfl rfl rfl false (eq_f hk2) (by decide) ?_
      refine wl_assign rfl rfl (by decide) ?_
      refine wl_nil ?_
      refine eo_then ?_
      refine cw_false rfl ?_
      refine cw_seq ?_
      by_cases hk3 : k = 3
      ·
        refine cw_region ?_
        refine wl_cmp rfl rfl rfl true (eq_t hk3) (by decide) ?_
        refine wl_assign rfl rfl (by decide) ?_
        refine wl_nil ?_
        refine eo_then ?_
        refine cw_true rfl ?_
        refine cw_seq ?_
        refine cw_region ?_
        refine wl_pure rfl rfl (v := .pointer (some ⟨g1, 1, none⟩)) (by decide) (by kernel_rfl) ?_
        refine wl_load rfl rfl (load_cell (fun _ => by kernel_rfl) hb4 rfl) (by decide) ?_
        refine wl_call rfl rfl (vs := [.slice A an ac]) (by kernel_rfl) (by decide) (ref4_Digits (hx.ext hw1) hal) ?_
        rintro _ v20 ⟨xr22, rfl, r22, e21⟩
        refine ret_intro ?_
        have hw2 : Ext w v20 := hw1.trans e21
        obtain rfl := r22
        refine wl_assign rfl rfl (by decide) ?_
        refine wl_nil ?_
        refine eo_then ?_
        refine cw_seq ?_
        refine cw_region ?_
        refine wl_pure rfl rfl (v := .pointer (some ⟨g1, 1, none⟩)) (by decide) (by kernel_rfl) ?_
        refine wl_load rfl rfl (load_cell (fun _ => by kernel_rfl) (hb4.ext e21) rfl) (by decide) ?_
        refine wl_call rfl rfl (vs := [.slice A an ac]) (by kernel_rfl) (by decide) (rx_Digits (hS.ext hw2) (hx.ext hw2) (by omega)) ?_
        rintro _ v23 ⟨xr25, rfl, r25, e24⟩
        refine ret_intro ?_
        have hw3 : Ext w v23 := hw2.trans e24
        obtain rfl := r25
        refine wl_move rfl rfl (by decide) ?_
        refine wl_cmp rfl rfl rfl true (cb_eq_t (a := (txtN 10 m).length) (b := (txtN 10 m).length) rfl rfl (by omega)) (by decide) ?_
        refine wl_assign rfl rfl (by decide) ?_
        refine wl_nil ?_
        refine eo_then ?_
        refine cw_ret ?_
        refine eo_block_ret ?_
        refine eo_thenR ?_
        refine eo_ret [.bool true] rfl ⟨rfl, trivial⟩ ?_
        exact ⟨_, rfl, rfl, hw3⟩
      ·
        refine cw_region ?_
        refine wl_cmp rfl rfl rfl false (eq_f hk3) (by decide) ?_
        refine wl_assign rfl rfl (by decide) ?_
        refine wl_nil ?_
        refine eo_then ?_
        refine cw_false rfl ?_
        refine cw_skip ?_
        refine eo_block_normal ?_
        refine eo_then ?_
        refine cw_seq ?_
        refine cw_region ?_
        refine wl_pure rfl rfl (v := .pointer (some ⟨g1, 1, none⟩)) (by decide) (by kernel_rfl) ?_
        refine wl_load rfl rfl (load_cell (fun _ => by kernel_rfl) hb4 rfl) (by decide) ?_
        refine wl_call rfl rfl (vs := [.slice A an ac]) (by kernel_rfl) (by decide) (ref4_Grouped (hx.ext hw1) hal) ?_
        rintro _ v26 ⟨xr28, rfl, r28, e27⟩
        refine ret_intro ?_
        have hw2 : Ext w v26 := hw1.trans e27
        obtain rfl := r28
        refine wl_assign rfl rfl (by decide) ?_
        refine wl_nil ?_
        refine eo_then ?_
        refine cw_seq ?_
        refine cw_region ?_
        refine wl_pure rfl rfl (v := .pointer (some ⟨g1, 1, none⟩)) (by decide) (by kernel_rfl) ?_
        refine wl_load rfl rfl (load_cell (fun _ => by kernel_rfl) (hb4.ext e27) rfl) (by decide) ?_
        refine wl_call rfl rfl (vs := [.slice A an ac]) (by kernel_rfl) (by decide) (rx_Grouped (hS.ext hw2) (hx.ext hw2) (by omega)) ?_
        rintro _ v29 ⟨xr31, rfl, r31, e30⟩
        refine ret_intro ?_
        have hw3 : Ext w v29 := hw2.trans e30
        obtain rfl := r31
        refine wl_move rfl rfl (by decide) ?_
        refine wl_streq (a := grpT (txtN 10 m)) (b := grpT (txtN 10 m)) rfl rfl rfl (grpT_lt (txtN_lt (by decide) (by decide))) (grpT_lt (txtN_lt (by decide) (by decide))) true (strE_eql_t (rfl)) (by decide) ?_
        refine wl_assign rfl rfl (by decide) ?_
        refine wl_nil ?_
        refine eo_then ?_
        refine cw_ret ?_
        refine eo_ret [.bool true] rfl ⟨rfl, trivial⟩ ?_
        exact ⟨_, rfl, rfl, hw3⟩
set_option maxHeartbeats 4000000 in
theorem g_texts4_bad {w : World} {A : Option Addr} {an ac m : Nat} {k : Int} {bs : List Nat} (hS : Signs w) (hx : Wi w A an ac m) (hal : an ≤ 1048576) {b : Int} (hbad : b < 2 ∨ 36 < b) :
    Calls Tryd.prog 50 #[.agg #[.int .i64 k, .slice A an ac, .string (strB bs), .int .i64 b]] w (Gv w (Is (.bool true))) := by
  refine sx_enter Tryd.func50 rfl (n := 66) rfl (Nat.le_of_ble_eq_true rfl) (args := [.agg #[.int .i64 k, .slice A an ac, .string (strB bs), .int .i64 b]]) ?_
  refine cw_keep [(0, .agg #[.int .i64 k, .slice A an ac, .string (strB bs), .int .i64 b])] ⟨rfl, trivial⟩ ?_
  refine cw_seq ?_
  refine cw_region ?_
  refine wl_box rfl rfl (vs := [.int .i64 k, .slice A an ac, .string (strB bs), .int .i64 b]) rfl (by decide) fun g1 v2 nb => ?_
  have hb4 := nb.bk
  have ge5 : w.heap.size ≤ g1 := by rw [← nb.at_]; exact (Ext.refl w).size
  have e3 := nb.ext
  clear nb
  have hw1 : Ext w v2 := (Ext.refl w).trans e3
  refine wl_assign rfl rfl (by decide) ?_
  refine wl_nil ?_
  refine eo_then ?_
  refine cw_seq ?_
  refine cw_seq ?_
  refine cw_region ?_
  refine wl_pure rfl rfl (v := .pointer (some ⟨g1, 0, none⟩)) (by decide) (by kernel_rfl) ?_
  refine wl_load rfl rfl (load_cell (fun _ => by kernel_rfl) hb4 rfl) (by decide) ?_
  refine wl_nil ?_
  refine eo_then ?_
  refine cw_block ?_
  refine cw_seq ?_
  by_cases hk1 : k = 1
  ·
    refine cw_region ?_
    refine wl_cmp rfl rfl rfl true (eq_t hk1) (by decide) ?_
    refine wl_assign rfl rfl (by decide) ?_
    refine wl_nil ?_
    refine eo_then ?_
    refine cw_true rfl ?_
    refine cw_seq ?_
    refine cw_region ?_
    refine wl_pure rfl rfl (v := .pointer (some ⟨g1, 1, none⟩)) (by decide) (by kernel_rfl) ?_
    refine wl_load rfl rfl (load_cell (fun _ => by kernel_rfl) hb4 rfl) (by decide) ?_
    refine wl_pure rfl rfl (v := .pointer (some ⟨g1, 3, none⟩)) (by decide) (by kernel_rfl) ?_
    refine wl_load rfl rfl (load_cell (fun _ => by kernel_rfl) hb4 rfl) (by decide) ?_
    refine wl_call rfl rfl (vs := [.slice A an ac, .int .i64 b]) (by kernel_rfl) (by decide) (ref4_Text_bad hbad) ?_
    rintro _ v6 ⟨xr8, rfl, r8, e7⟩
    refine ret_intro ?_
    have hw2 : Ext w v6 := hw1.trans e7
    obtain ⟨a9_0, a9_1, rfl, r9_0, r9_1⟩ := r8
    obtain rfl := r9_0
    obtain rfl := r9_1
    refine wl_move rfl rfl (by decide) ?_
    refine wl_pure rfl rfl (v := .string (strB ([]))) (by decide) (by kernel_rfl) ?_
    refine wl_pure rfl rfl (v := .int .i64 3) (by decide) (by kernel_rfl) ?_
    refine wl_assign rfl rfl (by decide) ?_
    refine wl_assign rfl rfl (by decide) ?_
    refine wl_nil ?_
    refine eo_then ?_
    refine cw_seq ?_
    refine cw_region ?_
    refine wl_pure rfl rfl (v := .pointer (some ⟨g1, 1, none⟩)) (by decide) (by kernel_rfl) ?_
    refine wl_load rfl rfl (load_cell (fun _ => by kernel_rfl) (hb4.ext e7) rfl) (by decide) ?_
    refine wl_pure rfl rfl (v := .pointer (some ⟨g1, 3, none⟩)) (by decide) (by kernel_rfl) ?_
    refine wl_load rfl rfl (load_cell (fun _ => by kernel_rfl) (hb4.ext e7) rfl) (by decide) ?_
    refine wl_call rfl rfl (vs := [.slice A an ac, .int .i64 b]) (by kernel_rfl) (by decide) (rx_Text_bad hbad) ?_
    rintro _ v10 ⟨xr12, rfl, r12, e11⟩
    refine ret_intro ?_
    have hw3 : Ext w v10 := hw2.trans e11
    obtain ⟨a13_0, a13_1, rfl, r13_0, r13_1⟩ := r12
    obtain rfl := r13_0
    obtain rfl := r13_1
    refine wl_move rfl rfl (by decide) ?_
    refine wl_pure rfl rfl (v := .string (strB ([]))) (by decide) (by kernel_rfl) ?_
    refine wl_pure rfl rfl (v := .int .i64 3) (by decide) (by kernel_rfl) ?_
    refine wl_assign rfl rfl (by decide) ?_
    refine wl_assign rfl rfl (by decide) ?_
    refine wl_nil ?_
    refine eo_then ?_
    refine cw_seq ?_
    refine cw_region ?_
    refine wl_move rfl rfl (by decide) ?_
    refine wl_move rfl rfl (by decide) ?_
    refine wl_streq (a := []) (b := []) rfl rfl rfl (by decide) (by decide) true (strE_eql_t (rfl)) (by decide) ?_
    refine wl_move rfl rfl (by decide) ?_
    refine wl_move rfl rfl (by decide) ?_
    refine wl_move rfl rfl (by decide) ?_
    refine wl_cmp rfl rfl rfl true (by decide) (by decide) ?_
    refine wl_pure rfl rfl (v := .bool true) (by decide) (by kernel_rfl) ?_
    refine wl_assign rfl rfl (by decide) ?_
    refine wl_nil ?_
    refine eo_then ?_
    refine cw_ret ?_
    refine eo_block_ret ?_
    refine eo_thenR ?_
    refine eo_ret [.bool true] rfl ⟨rfl, trivial⟩ ?_
    exact ⟨_, rfl, rfl, hw3⟩
  ·
    refine cw_region ?_
    refine wl_cmp rfl rfl rfl false (eq_f hk1) (by decide) ?_
    refine wl_assign rfl rfl (by decide) ?_
    refine wl_nil ?_
    refine eo_then ?_
    refine cw_false rfl ?_
    refine cw_seq ?_
    by_cases hk2 : k = 2
    ·
      refine cw_region ?_
      refine wl_cmp rfl rfl rfl true (eq_t hk2) (by decide) ?_
      refine wl_assign rfl rfl (by decide) ?_
      refine wl_nil ?_
      refine eo_then ?_
      refine cw_true rfl ?_
      refine cw_seq ?_
      refine cw_region ?_
      refine wl_pure rfl rfl (v := .pointer (some ⟨g1, 1, none⟩)) (by decide) (by kernel_rfl) ?_
      refine wl_load rfl rfl (load_cell (fun _ => by kernel_rfl) hb4 rfl) (by decide) ?_
      refine wl_call rfl rfl (vs := [.slice A an ac]) (by kernel_rfl) (by decide) (ref4_Dec (hx.ext hw1) hal) ?_
      rintro _ v14 ⟨xr16, rfl, r16, e15⟩
      refine ret_intro ?_
      have hw2 : Ext w v14 := hw1.trans e15
      obtain rfl := r16
      refine wl_assign rfl rfl (by decide) ?_
      refine wl_nil ?_
      refine eo_then ?_
      refine cw_seq ?_
      refine cw_region ?_
      refine wl_pure rfl rfl (v := .pointer (some ⟨g1, 1, none⟩)) (by decide) (by kernel_rfl) ?_
      refine wl_load rfl rfl (load_cell (fun _ => by kernel_rfl) (hb4.ext e15) rfl) (by decide) ?_
      refine wl_call rfl rfl (vs := [.slice A an ac]) (by kernel_rfl) (by decide) (rx_DecF (hS.ext hw2) (hx.ext hw2) (by omega)) ?_
      rintro _ v17 ⟨xr19, rfl, r19, e18⟩
      refine ret_intro ?_
      have hw3 : Ext w v17 := hw2.trans e18
      obtain rfl := r19
      refine wl_move rfl rfl (by decide) ?_
      refine wl_streq (a := txtN 10 m) (b := txtN 10 m) rfl rfl rfl (txtN_lt (by omega) (by omega)) (txtN_lt (by omega) (by omega)) true (strE_eql_t (rfl)) (by decide) ?_
      refine wl_assign rfl rfl (by decide) ?_
      refine wl_nil ?_
      refine eo_then ?_
      refine cw_ret ?_
      refine eo_block_ret ?_
      refine eo_thenR ?_
      refine eo_ret [.bool true] rfl ⟨rfl, trivial⟩ ?_
      exact ⟨_, rfl, rfl, hw3⟩
    ·
      refine cw_region ?_
      refine wl_cmp rfl rfl rfl false (eq_f hk2) (by decide) ?_
      refine wl_assign rfl rfl (by decide) ?_
      refine wl_nil ?_
      refine eo_then ?_
      refine cw_false rfl ?_
      refine cw_seq ?_
      by_cases hk3 : k = 3
      ·
        refine cw_region ?_
        refine wl_cmp rfl rfl rfl true (eq_t hk3) (by decide) ?_
        refine wl_assign rfl rfl (by decide) ?_
        refine wl_nil ?_
        refine eo_then ?_
        refine cw_true rfl ?_
        refine cw_seq ?_
        refine cw_region ?_
        refine wl_pure rfl rfl (v := .pointer (some ⟨g1, 1, none⟩)) (by decide) (by kernel_rfl) ?_
        refine wl_load rfl rfl (load_cell (fun _ => by kernel_rfl) hb4 rfl) (by decide) ?_
        refine wl_call rfl rfl (vs := [.slice A an ac]) (by kernel_rfl) (by decide) (ref4_Digits (hx.ext hw1) hal) ?_
        rintro _ v20 ⟨xr22, rfl, r22, e21⟩
        refine ret_intro ?_
        have hw2 : Ext w v20 := hw1.trans e21
        obtain rfl := r22
        refine wl_assign rfl rfl (by decide) ?_
        refine wl_nil ?_
        refine eo_then ?_
        refine cw_seq ?_
        refine cw_region ?_
        refine wl_pure rfl rfl (v := .pointer (some ⟨g1, 1, none⟩)) (by decide) (by kernel_rfl) ?_
        refine wl_load rfl rfl (load_cell (fun _ => by kernel_rfl) (hb4.ext e21) rfl) (by decide) ?_
        refine wl_call rfl rfl (vs := [.slice A an ac]) (by kernel_rfl) (by decide) (rx_Digits (hS.ext hw2) (hx.ext hw2) (by omega)) ?_
        rintro _ v23 ⟨xr25, rfl, r25, e24⟩
        refine ret_intro ?_
        have hw3 : Ext w v23 := hw2.trans e24
        obtain rfl := r25
        refine wl_move rfl rfl (by decide) ?_
        refine wl_cmp rfl rfl rfl true (cb_eq_t (a := (txtN 10 m).length) (b := (txtN 10 m).length) rfl rfl (by omega)) (by decide) ?_
        refine wl_assign rfl rfl (by decide) ?_
        refine wl_nil ?_
        refine eo_then ?_
        refine cw_ret ?_
        refine eo_block_ret ?_
        refine eo_thenR ?_
        refine eo_ret [.bool true] rfl ⟨rfl, trivial⟩ ?_
        exact ⟨_, rfl, rfl, hw3⟩
      ·
        refine cw_region ?_
        refine wl_cmp rfl rfl rfl false (eq_f hk3) (by decide) ?_
        refine wl_assign rfl rfl (by decide) ?_
        refine wl_nil ?_
        refine eo_then ?_
        refine cw_false rfl ?_
        refine cw_skip ?_
        refine eo_block_normal ?_
        refine eo_then ?_
        refine cw_seq ?_
        refine cw_region ?_
        refine wl_pure rfl rfl (v := .pointer (some ⟨g1, 1, none⟩)) (by decide) (by kernel_rfl) ?_
        refine wl_load rfl rfl (load_cell (fun _ => by kernel_rfl) hb4 rfl) (by decide) ?_
        refine wl_call rfl rfl (vs := [.slice A an ac]) (by kernel_rfl) (by decide) (ref4_Grouped (hx.ext hw1) hal) ?_
        rintro _ v26 ⟨xr28, rfl, r28, e27⟩
        refine ret_intro ?_
        have hw2 : Ext w v26 := hw1.trans e27
        obtain rfl := r28
        refine wl_assign rfl rfl (by decide) ?_
        refine wl_nil ?_
        refine eo_then ?_
        refine cw_seq ?_
        refine cw_region ?_
        refine wl_pure rfl rfl (v := .pointer (some ⟨g1, 1, none⟩)) (by decide) (by kernel_rfl) ?_
        refine wl_load rfl rfl (load_cell (fun _ => by kernel_rfl) (hb4.ext e27) rfl) (by decide) ?_
        refine wl_call rfl rfl (vs := [.slice A an ac]) (by kernel_rfl) (by decide) (rx_Grouped (hS.ext hw2) (hx.ext hw2) (by omega)) ?_
        rintro _ v29 ⟨xr31, rfl, r31, e30⟩
        refine ret_intro ?_
        have hw3 : Ext w v29 := hw2.trans e30
        obtain rfl := r31
        refine wl_move rfl rfl (by decide) ?_
        refine wl_streq (a := grpT (txtN 10 m)) (b := grpT (txtN 10 m)) rfl rfl rfl (grpT_lt (txtN_lt (by decide) (by decide))) (grpT_lt (txtN_lt (by decide) (by decide))) true (strE_eql_t (rfl)) (by decide) ?_
        refine wl_assign rfl rfl (by decide) ?_
        refine wl_nil ?_
        refine eo_then ?_
        refine cw_ret ?_
        refine eo_ret [.bool true] rfl ⟨rfl, trivial⟩ ?_
        exact ⟨_, rfl, rfl, hw3⟩
theorem g_texts4 {w : World} {A : Option Addr} {an ac m : Nat} {k : Int} {bs : List Nat} (hS : Signs w) (hx : Wi w A an ac m) (hal : an ≤ 1048576) {b : Int} : Calls Tryd.prog 50 #[.agg #[.int .i64 k, .slice A an ac, .string (strB bs), .int .i64 b]] w (Gv w (Is (.bool true))) := by
  by_cases hbad : b < 2 ∨ 36 < b
  · exact g_texts4_bad hS hx hal hbad
  · obtain ⟨base, rfl⟩ := Int.eq_ofNat_of_zero_le (show 0 ≤ b by omega)
    exact g_texts4_good hS hx hal (by omega) (by omega)
end Go.Proofs.YtmjdmjflgiicaaaDoor

namespace Go.Proofs.YtmjdmjflgiicaaaDoor
open Go.RowKit
theorem aggBook : AggT Tryd.prog 68 3 := ⟨fun _ => by kernel_rfl, fun _ => by kernel_rfl⟩
theorem info_zl2 : (Tryd.prog.info? 112).map (fun i => (i.zero, i.size, i.bytes)) = some (some (.slice none 0 0), 1, 24) := by kernel_rfl
theorem info_nl2 : (Tryd.prog.info? 52).map (fun i => (i.zero, i.size, i.bytes)) = some (some (.slice none 0 0), 1, 24) := by kernel_rfl
set_option maxHeartbeats 4000000 in
theorem g_sign1 {w : World} {i j : Nat} (hi : i ≤ 1048576) (hj : j ≤ 1099511627776) :
    Calls Tryd.prog 100 #[.int .i64 ((i : Nat) : Int), .int .i64 ((j : Nat) : Int)] w (Gv w (Is (.int .u64 ((sgm i j : Nat) : Int)))) := by
  refine sx_enter Tryd.func100 rfl (n := 12) rfl (Nat.le_of_ble_eq_true rfl) (args := [.int .i64 ((i : Nat) : Int), .int .i64 ((j : Nat) : Int)]) ?_
  refine cw_keep [(0, .int .i64 ((i : Nat) : Int)), (1, .int .i64 ((j : Nat) : Int))] ⟨rfl, rfl, trivial⟩ ?_
  refine cw_seq ?_
  refine cw_region ?_
  refine wl_assign rfl rfl (by decide) ?_
  refine wl_nil ?_
  refine eo_then ?_
  refine cw_seq ?_
  refine cw_region ?_
  refine wl_move rfl rfl (by decide) ?_
  refine wl_pureE rfl rfl (v := .int .u64 (IntKind.u64.wrap ((i : Nat) : Int))) (v' := .int .u64 ((i : Nat) : Int)) (by decide) (by kernel_rfl) (cv_u64 (by first | omega | exact hle64)) ?_
  refine wl_ar rfl rfl rfl ((i * 1048576 : Nat) : Int) (au_mul (a := i) (b := 1048576) rfl rfl (by omega)) (by decide) ?_
  refine wl_ar rfl rfl rfl ((4323455642275676160 + (i * 1048576) : Nat) : Int) (au_add (a := 4323455642275676160) (b := i * 1048576) rfl rfl (by omega)) (by decide) ?_
  refine wl_move rfl rfl (by decide) ?_
  refine wl_pureE rfl rfl (v := .int .u64 (IntKind.u64.wrap ((j : Nat) : Int))) (v' := .int .u64 ((j : Nat) : Int)) (by decide) (by kernel_rfl) (cv_u64 (by first | omega | exact hle64)) ?_
  refine wl_ar rfl rfl rfl (((4323455642275676160 + (i * 1048576)) + j : Nat) : Int) (au_add (a := 4323455642275676160 + (i * 1048576)) (b := j) rfl rfl (by omega)) (by decide) ?_
  refine wl_assign rfl rfl (by decide) ?_
  refine wl_nil ?_
  refine eo_then ?_
  refine cw_ret ?_
  refine eo_ret [.int .u64 (((4323455642275676160 + (i * 1048576)) + j : Nat) : Int)] rfl ⟨rfl, trivial⟩ ?_
  exact ⟨_, rfl, (show Value.int .u64 _ = .int .u64 ((sgm i j : Nat) : Int) by unfold sgm; rfl), (Ext.refl w)⟩
set_option maxHeartbeats 4000000 in
theorem g_holds {w : World} {i : Nat} {XA GA : Option Addr} {xn xc gn gc : Nat} (hi : i ≤ 1048576) (hx : Rd w XA xn xc (marks i xn)) (hg : Rd w GA gn gc (marks i gn)) (hn : gn = xn + 80) (hl : xn ≤ 1099511627000) :
    Calls Tryd.prog 101 #[.int .i64 ((i : Nat) : Int), .slice XA xn xc, .slice GA gn gc] w (Gv w (Is (.bool true))) := by
  refine sx_enter Tryd.func101 rfl (n := 43) rfl (Nat.le_of_ble_eq_true rfl) (args := [.int .i64 ((i : Nat) : Int), .slice XA xn xc, .slice GA gn gc]) ?_
  refine cw_keep [(0, .int .i64 ((i : Nat) : Int)), (1, .slice XA xn xc), (2, .slice GA gn gc)] ⟨rfl, rfl, rfl, trivial⟩ ?_
  refine cw_seq ?_
  refine cw_region ?_
  refine wl_assign rfl rfl (by decide) ?_
  refine wl_nil ?_
  refine eo_then ?_
  refine cw_seq ?_
  refine cw_seq ?_
  refine cw_region ?_
  refine wl_move rfl rfl (by decide) ?_
  refine wl_pure rfl rfl (v := .int .i64 ((gn : Nat) : Int)) (by decide) (by kernel_rfl) ?_
  refine wl_move rfl rfl (by decide) ?_
  refine wl_pure rfl rfl (v := .int .i64 ((xn : Nat) : Int)) (by decide) (by kernel_rfl) ?_
  refine wl_ar rfl rfl rfl ((xn + 80 : Nat) : Int) (ai_add (a := xn) (b := 80) rfl rfl (by omega)) (by decide) ?_
  refine wl_cmp rfl rfl rfl false (cb_ne_f (a := gn) (b := xn + 80) rfl rfl (by omega)) (by decide) ?_
  refine wl_nil ?_
  refine eo_then ?_
  refine cw_false rfl ?_
  refine cw_skip ?_
  refine eo_then ?_
  refine cw_seq ?_
  refine cw_seq ?_
  refine cw_region ?_
  refine wl_assign rfl rfl (by decide) ?_
  refine wl_nil ?_
  refine eo_then ?_
  refine cw_block ?_
  refine cw_loop (T := World × Nat)
    (fun ⟨wr, j⟩ => [(0, .int .i64 ((i : Nat) : Int)), (1, .slice XA xn xc), (2, .slice GA gn gc), (7, .int .i64 ((j : Nat) : Int))])
    (fun ⟨wr, j⟩ => wr)
    (fun ⟨wr, j⟩ => (Ext w wr) ∧ (j ≤ xn) ∧ (Rd wr XA xn xc (marks i xn)) ∧ (Rd wr GA gn gc (marks i gn)))
    (fun ⟨wr, j⟩ => xn - j)
    (⟨w, 0⟩ : World × Nat) ⟨(Ext.refl w), (Nat.zero_le _), hx, hg⟩ rfl ⟨rfl, rfl, rfl, rfl, trivial⟩ ?_
  rintro ⟨wr, j⟩ ⟨hw1, hj, rl1, rl2⟩
  refine cw_re [(0, .int .i64 ((i : Nat) : Int)), (1, .slice XA xn xc), (2, .slice GA gn gc), (7, .int .i64 ((j : Nat) : Int))] wr rfl ⟨rfl, rfl, rfl, rfl, trivial⟩ ?_
  refine cw_seq ?_
  refine cw_seq ?_
  by_cases hlt : j < xn
  ·
    refine cw_region ?_
    refine wl_move rfl rfl (by decide) ?_
    refine wl_move rfl rfl (by decide) ?_
    refine wl_pure rfl rfl (v := .int .i64 ((xn : Nat) : Int)) (by decide) (by kernel_rfl) ?_
    refine wl_cmp rfl rfl rfl true (cb_lt_t (a := j) (b := xn) rfl rfl (by omega)) (by decide) ?_
    refine wl_nil ?_
    refine eo_then ?_
    refine cw_true rfl ?_
    refine cw_skip ?_
    refine eo_then ?_
    refine cw_seq ?_
    refine cw_block ?_
    refine cw_seq ?_
    have hmk := marks_get (i := i) hlt
    obtain ⟨p1, hp1, hc1, hv1⟩ := (rl1).at (i := j) (by omega)
    refine cw_draw mix 8 [] [Is (.slice XA xn xc), Is (.int .i64 ((j : Nat) : Int)), Is (.pointer (some p1)), Is (.int .u64 (((marks i xn).getD j 0 : Nat) : Int)), Is (.int .i64 ((i : Nat) : Int)), Is (.int .i64 ((j : Nat) : Int)), Is (.int .u64 ((sgm i j : Nat) : Int)), Is (.bool false)] [[], [], [0, 1], [2], [], [], [4, 5], [3, 6]] [[], [], [0, 1], [0, 1, 2], [], [], [4, 5], [0, 1, 2, 3, 4, 5, 6]] rfl
      (obs_cons rfl rfl (hob rfl rfl ?_) (obs_cons rfl rfl (hob rfl rfl ?_) (obs_cons rfl rfl (hob rfl rfl ?_) (obs_cons rfl rfl (hob rfl rfl ?_) (obs_cons rfl rfl (hob rfl rfl ?_) (obs_cons rfl rfl (hob rfl rfl ?_) (obs_cons rfl rfl (hob rfl rfl ?_) (obs_cons rfl rfl (hob rfl rfl ?_) obs_nil)))))))) ?_
    · -- 0
      intro v2 e3
      have hw2 : Ext w v2 := hw1.trans e3
      refine deps_nil ?_
      refine wl_move rfl rfl (by decide) ?_
      exact pi_done rfl (Ext.refl _) rfl
    · -- 1
      intro v4 e5
      have hw2 : Ext w v4 := hw1.trans e5
      refine deps_nil ?_
      refine wl_move rfl rfl (by decide) ?_
      exact pi_done rfl (Ext.refl _) rfl
    · -- 2
      intro v6 e7
      have hw2 : Ext w v6 := hw1.trans e7
      refine deps_cons rfl rfl fun x8 y9 h10 e11 f12 => ?_
      obtain rfl := h10
      refine deps_cons rfl rfl fun x13 y14 h15 e16 f17 => ?_
      obtain rfl := h15
      refine deps_nil ?_
      refine wl_idx rfl rfl rfl un_u64 sz_u64 j rfl (by omega) p1 hp1 (by decide) ?_
      exact pi_done rfl (Ext.refl _) rfl
    · -- 3
      intro v18 e19
      have hw2 : Ext w v18 := hw1.trans e19
      refine deps_cons rfl rfl fun x20 y21 h22 e23 f24 => ?_
      obtain rfl := h22
      refine deps_nil ?_
      refine wl_load rfl rfl (load_cell1 ag_u64 (e19.cell hc1)) (by decide) ?_
      exact pi_done rfl (Ext.refl _) rfl
    · -- 4
      intro v25 e26
      have hw2 : Ext w v25 := hw1.trans e26
      refine deps_nil ?_
      refine wl_move rfl rfl (by decide) ?_
      exact pi_done rfl (Ext.refl _) rfl
    · -- 5
      intro v27 e28
      have hw2 : Ext w v27 := hw1.trans e28
      refine deps_nil ?_
      refine wl_move rfl rfl (by decide) ?_
      exact pi_done rfl (Ext.refl _) rfl
    · -- 6
      intro v29 e30
      have hw2 : Ext w v29 := hw1.trans e30
      refine deps_cons rfl rfl fun x31 y32 h33 e34 f35 => ?_
      obtain rfl := h33
      refine deps_cons rfl rfl fun x36 y37 h38 e39 f40 => ?_
      obtain rfl := h38
      refine deps_nil ?_
      refine wl_call rfl rfl (vs := [.int .i64 ((i : Nat) : Int), .int .i64 ((j : Nat) : Int)]) (by kernel_rfl) (by decide) (g_sign1 (by omega) (by omega)) ?_
      rintro _ v41 ⟨xr43, rfl, r43, e42⟩
      refine ret_intro ?_
      have hw3 : Ext w v41 := hw2.trans e42
      obtain rfl := r43
      exact pi_done rfl e42 rfl
    · -- 7
      intro v44 e45
      have hw2 : Ext w v44 := hw1.trans e45
      refine deps_cons rfl rfl fun x46 y47 h48 e49 f50 => ?_
      obtain rfl := h48
      refine deps_cons rfl rfl fun x51 y52 h53 e54 f55 => ?_
      obtain rfl := h53
      refine deps_nil ?_
      refine wl_cmp rfl rfl rfl false (cb_ne_f (a := (marks i xn).getD j 0) (b := sgm i j) rfl rfl (by omega)) (by decide) ?_
      exact pi_done rfl (Ext.refl _) rfl
    · -- all
      intro v56 e57
      have hw2 : Ext w v56 := hw1.trans e57
      refine deps_cons rfl rfl fun x58 y59 h60 e61 f62 => ?_
      obtain rfl := h60
      refine deps_cons rfl rfl fun x63 y64 h65 e66 f67 => ?_
      obtain rfl := h65
      refine deps_cons rfl rfl fun x68 y69 h70 e71 f72 => ?_
      obtain rfl := h70
      refine deps_cons rfl rfl fun x73 y74 h75 e76 f77 => ?_
      obtain rfl := h75
      refine deps_cons rfl rfl fun x78 y79 h80 e81 f82 => ?_
      obtain rfl := h80
      refine deps_cons rfl rfl fun x83 y84 h85 e86 f87 => ?_
      obtain rfl := h85
      refine deps_cons rfl rfl fun x88 y89 h90 e91 f92 => ?_
      obtain rfl := h90
      refine deps_cons rfl rfl fun x93 y94 h95 e96 f97 => ?_
      obtain rfl := h95
      refine deps_nil ?_
      refine wl_nil ?_
      refine eo_np ?_
      refine eo_then ?_
      refine cw_false rfl ?_
      refine cw_skip ?_
      refine eo_block_normal ?_
      refine eo_then ?_
      refine cw_region ?_
      refine wl_move rfl rfl (by decide) ?_
      refine wl_ar rfl rfl rfl ((j + 1 : Nat) : Int) (ai_add (a := j) (b := 1) rfl rfl (by omega)) (by decide) ?_
      refine wl_assign rfl rfl (by decide) ?_
      refine wl_nil ?_
      refine eo_round (⟨v56, j + 1⟩ : World × Nat) ⟨hw2, (by omega), (rl1.ext e57), (rl2.ext e57)⟩ (show xn - (j + 1) < xn - j by omega) rfl ⟨rfl, rfl, rfl, rfl, trivial⟩
  ·
    refine cw_region ?_
    refine wl_move rfl rfl (by decide) ?_
    refine wl_move rfl rfl (by decide) ?_
    refine wl_pure rfl rfl (v := .int .i64 ((xn : Nat) : Int)) (by decide) (by kernel_rfl) ?_
    refine wl_cmp rfl rfl rfl false (cb_lt_f (a := j) (b := xn) rfl rfl (by omega)) (by decide) ?_
    refine wl_nil ?_
    refine eo_then ?_
    refine cw_false rfl ?_
    refine cw_exit ?_
    refine eo_thenX ?_
    refine eo_loopX ?_
    refine eo_block_here ?_
    refine eo_then ?_
    refine cw_seq ?_
    refine cw_seq ?_
    refine cw_region ?_
    refine wl_assign rfl rfl (by decide) ?_
    refine wl_nil ?_
    refine eo_then ?_
    refine cw_block ?_
    refine cw_loop (T := World × Nat)
      (fun ⟨wr, j⟩ => [(0, .int .i64 ((i : Nat) : Int)), (1, .slice XA xn xc), (2, .slice GA gn gc), (8, .int .i64 ((j : Nat) : Int))])
      (fun ⟨wr, j⟩ => wr)
      (fun ⟨wr, j⟩ => (Ext w wr) ∧ (j ≤ gn) ∧ (Rd wr XA xn xc (marks i xn)) ∧ (Rd wr GA gn gc (marks i gn)))
      (fun ⟨wr, j⟩ => gn - j)
      (⟨wr, 0⟩ : World × Nat) ⟨hw1, (Nat.zero_le _), rl1, rl2⟩ rfl ⟨rfl, rfl, rfl, rfl, trivial⟩ ?_
    rintro ⟨wr, j⟩ ⟨hw1, hj, rl1, rl2⟩
    refine cw_re [(0, .int .i64 ((i : Nat) : Int)), (1, .slice XA xn xc), (2, .slice GA gn gc), (8, .int .i64 ((j : Nat) : Int))] wr rfl ⟨rfl, rfl, rfl, rfl, trivial⟩ ?_
    refine cw_seq ?_
    refine cw_seq ?_
    by_cases hlt : j < gn
    ·
      refine cw_region ?_
      refine wl_move rfl rfl (by decide) ?_
      refine wl_move rfl rfl (by decide) ?_
      refine wl_pure rfl rfl (v := .int .i64 ((gn : Nat) : Int)) (by decide) (by kernel_rfl) ?_
      refine wl_cmp rfl rfl rfl true (cb_lt_t (a := j) (b := gn) rfl rfl (by omega)) (by decide) ?_
      refine wl_nil ?_
      refine eo_then ?_
      refine cw_true rfl ?_
      refine cw_skip ?_
      refine eo_then ?_
      refine cw_seq ?_
      refine cw_block ?_
      refine cw_seq ?_
      have hmk := marks_get (i := i) hlt
      obtain ⟨p98, hp98, hc98, hv98⟩ := (rl2).at (i := j) (by omega)
      refine cw_draw mix 8 [] [Is (.slice GA gn gc), Is (.int .i64 ((j : Nat) : Int)), Is (.pointer (some p98)), Is (.int .u64 (((marks i gn).getD j 0 : Nat) : Int)), Is (.int .i64 ((i : Nat) : Int)), Is (.int .i64 ((j : Nat) : Int)), Is (.int .u64 ((sgm i j : Nat) : Int)), Is (.bool false)] [[], [], [0, 1], [2], [], [], [4, 5], [3, 6]] [[], [], [0, 1], [0, 1, 2], [], [], [4, 5], [0, 1, 2, 3, 4, 5, 6]] rfl
        (obs_cons rfl rfl (hob rfl rfl ?_) (obs_cons rfl rfl (hob rfl rfl ?_) (obs_cons rfl rfl (hob rfl rfl ?_) (obs_cons rfl rfl (hob rfl rfl ?_) (obs_cons rfl rfl (hob rfl rfl ?_) (obs_cons rfl rfl (hob rfl rfl ?_) (obs_cons rfl rfl (hob rfl rfl ?_) (obs_cons rfl rfl (hob rfl rfl ?_) obs_nil)))))))) ?_
      · -- 0
        intro v99 e100
        have hw2 : Ext w v99 := hw1.trans e100
        refine deps_nil ?_
        refine wl_move rfl rfl (by decide) ?_
        exact pi_done rfl (Ext.refl _) rfl
      · -- 1
        intro v101 e102
        have hw2 : Ext w v101 := hw1.trans e102
        refine deps_nil ?_
        refine wl_move rfl rfl (by decide) ?_
        exact pi_done rfl (Ext.refl _) rfl
      · -- 2
        intro v103 e104
        have hw2 : Ext w v103 := hw1.trans e104
        refine deps_cons rfl rfl fun x105 y106 h107 e108 f109 => ?_
        obtain rfl := h107
        refine deps_cons rfl rfl fun x110 y111 h112 e113 f114 => ?_
        obtain rfl := h112
        refine deps_nil ?_
        refine wl_idx rfl rfl rfl un_u64 sz_u64 j rfl (by omega) p98 hp98 (by decide) ?_
        exact pi_done rfl (Ext.refl _) rfl
      · -- 3
        intro v115 e116
        have hw2 : Ext w v115 := hw1.trans e116
        refine deps_cons rfl rfl fun x117 y118 h119 e120 f121 => ?_
        obtain rfl := h119
        refine deps_nil ?_
        refine wl_load rfl rfl (load_cell1 ag_u64 (e116.cell hc98)) (by decide) ?_
        exact pi_done rfl (Ext.refl _) rfl
      · -- 4
        intro v122 e123
        have hw2 : Ext w v122 := hw1.trans e123
        refine deps_nil ?_
        refine wl_move rfl rfl (by decide) ?_
        exact pi_done rfl (Ext.refl _) rfl
      · -- 5
        intro v124 e125
        have hw2 : Ext w v124 := hw1.trans e125
        refine deps_nil ?_
        refine wl_move rfl rfl (by decide) ?_
        exact pi_done rfl (Ext.refl _) rfl
      · -- 6
        intro v126 e127
        have hw2 : Ext w v126 := hw1.trans e127
        refine deps_cons rfl rfl fun x128 y129 h130 e131 f132 => ?_
        obtain rfl := h130
        refine deps_cons rfl rfl fun x133 y134 h135 e136 f137 => ?_
        obtain rfl := h135
        refine deps_nil ?_
        refine wl_call rfl rfl (vs := [.int .i64 ((i : Nat) : Int), .int .i64 ((j : Nat) : Int)]) (by kernel_rfl) (by decide) (g_sign1 (by omega) (by omega)) ?_
        rintro _ v138 ⟨xr140, rfl, r140, e139⟩
        refine ret_intro ?_
        have hw3 : Ext w v138 := hw2.trans e139
        obtain rfl := r140
        exact pi_done rfl e139 rfl
      · -- 7
        intro v141 e142
        have hw2 : Ext w v141 := hw1.trans e142
        refine deps_cons rfl rfl fun x143 y144 h145 e146 f147 => ?_
        obtain rfl := h145
        refine deps_cons rfl rfl fun x148 y149 h150 e151 f152 => ?_
        obtain rfl := h150
        refine deps_nil ?_
        refine wl_cmp rfl rfl rfl false (cb_ne_f (a := (marks i gn).getD j 0) (b := sgm i j) rfl rfl (by omega)) (by decide) ?_
        exact pi_done rfl (Ext.refl _) rfl
      · -- all
        intro v153 e154
        have hw2 : Ext w v153 := hw1.trans e154
        refine deps_cons rfl rfl fun x155 y156 h157 e158 f159 => ?_
        obtain rfl := h157
        refine deps_cons rfl rfl fun x160 y161 h162 e163 f164 => ?_
        obtain rfl := h162
        refine deps_cons rfl rfl fun x165 y166 h167 e168 f169 => ?_
        obtain rfl := h167
        refine deps_cons rfl rfl fun x170 y171 h172 e173 f174 => ?_
        obtain rfl := h172
        refine deps_cons rfl rfl fun x175 y176 h177 e178 f179 => ?_
        obtain rfl := h177
        refine deps_cons rfl rfl fun x180 y181 h182 e183 f184 => ?_
        obtain rfl := h182
        refine deps_cons rfl rfl fun x185 y186 h187 e188 f189 => ?_
        obtain rfl := h187
        refine deps_cons rfl rfl fun x190 y191 h192 e193 f194 => ?_
        obtain rfl := h192
        refine deps_nil ?_
        refine wl_nil ?_
        refine eo_np ?_
        refine eo_then ?_
        refine cw_false rfl ?_
        refine cw_skip ?_
        refine eo_block_normal ?_
        refine eo_then ?_
        refine cw_region ?_
        refine wl_move rfl rfl (by decide) ?_
        refine wl_ar rfl rfl rfl ((j + 1 : Nat) : Int) (ai_add (a := j) (b := 1) rfl rfl (by omega)) (by decide) ?_
        refine wl_assign rfl rfl (by decide) ?_
        refine wl_nil ?_
        refine eo_round (⟨v153, j + 1⟩ : World × Nat) ⟨hw2, (by omega), (rl1.ext e154), (rl2.ext e154)⟩ (show gn - (j + 1) < gn - j by omega) rfl ⟨rfl, rfl, rfl, rfl, trivial⟩
    ·
      refine cw_region ?_
      refine wl_move rfl rfl (by decide) ?_
      refine wl_move rfl rfl (by decide) ?_
      refine wl_pure rfl rfl (v := .int .i64 ((gn : Nat) : Int)) (by decide) (by kernel_rfl) ?_
      refine wl_cmp rfl rfl rfl false (cb_lt_f (a := j) (b := gn) rfl rfl (by omega)) (by decide) ?_
      refine wl_nil ?_
      refine eo_then ?_
      refine cw_false rfl ?_
      refine cw_exit ?_
      refine eo_thenX ?_
      refine eo_loopX ?_
      refine eo_block_here ?_
      refine eo_then ?_
      refine cw_seq ?_
      refine cw_region ?_
      refine wl_assign rfl rfl (by decide) ?_
      refine wl_nil ?_
      refine eo_then ?_
      refine cw_ret ?_
      refine eo_ret [.bool true] rfl ⟨rfl, trivial⟩ ?_
      exact ⟨_, rfl, rfl, hw1⟩
set_option maxHeartbeats 4000000 in
theorem g_words {w : World} {g lb lw : Nat} {WA IA NA : Option Addr} {wc ic nc : Nat} {ls : List Lst} (hB : Bk w g 68 [.slice WA ls.length wc, .slice IA 0 ic, .slice NA 0 nc]) (hW : Own w lw 22 1 WA ls.length wc (ls.map Lst.v)) (hal : Al0 w lb ls) (hlb : lb ≤ w.heap.size) (hN : ls.length ≤ 1048576) (hln : ∀ a, (ls.getD a Lst.z).n ≤ 1099511620000) :
    Calls Tryd.prog 75 #[.pointer (some ⟨g, 0, none⟩)] w (fun e w' => e = .returned (.bool true) ∧ UpU lb w w') := by
  refine sx_enter Tryd.func75 rfl (n := 99) rfl (Nat.le_of_ble_eq_true rfl) (args := [.pointer (some ⟨g, 0, none⟩)]) ?_
  refine cw_keep [(0, .pointer (some ⟨g, 0, none⟩))] ⟨rfl, trivial⟩ ?_
  refine cw_seq ?_
  refine cw_region ?_
  refine wl_assign rfl rfl (by decide) ?_
  refine wl_nil ?_
  refine eo_then ?_
  refine cw_seq ?_
  refine cw_seq ?_
  refine cw_region ?_
  refine wl_assign rfl rfl (by decide) ?_
  refine wl_nil ?_
  refine eo_then ?_
  refine cw_block ?_
  refine cw_loop (T := World × Nat)
    (fun ⟨wr, i⟩ => [(0, .pointer (some ⟨g, 0, none⟩)), (3, .int .i64 ((i : Nat) : Int))])
    (fun ⟨wr, i⟩ => wr)
    (fun ⟨wr, i⟩ => (UpU lb w wr) ∧ (Bk wr g 68 [.slice WA ls.length wc, .slice IA 0 ic, .slice NA 0 nc]) ∧ (Own wr lw 22 1 WA ls.length wc (ls.map Lst.v)) ∧ (Al1 wr lb ls i 0) ∧ (i ≤ ls.length))
    (fun ⟨wr, i⟩ => ls.length - i)
    (⟨w, 0⟩ : World × Nat) ⟨(UpU.refl lb w), hB, hW, hal, (Nat.zero_le _)⟩ rfl ⟨rfl, rfl, trivial⟩ ?_
  rintro ⟨wr, i⟩ ⟨hw1, hB, hW, hal, hi⟩
  refine cw_re [(0, .pointer (some ⟨g, 0, none⟩)), (3, .int .i64 ((i : Nat) : Int))] wr rfl ⟨rfl, rfl, trivial⟩ ?_
  refine cw_seq ?_
  refine cw_seq ?_
  by_cases hin : i < ls.length
  ·
    refine cw_region ?_
    refine wl_move rfl rfl (by decide) ?_
    refine wl_move rfl rfl (by decide) ?_
    refine wl_pure rfl rfl (v := .pointer (some ⟨g, 0, none⟩)) (by decide) (by kernel_rfl) ?_
    refine wl_pure rfl rfl (v := .pointer (some ⟨g, 0, none⟩)) (by decide) (by kernel_rfl) ?_
    refine wl_load rfl rfl (load_cell (fun _ => by kernel_rfl) hB rfl) (by decide) ?_
    refine wl_pure rfl rfl (v := .int .i64 ((ls.length : Nat) : Int)) (by decide) (by kernel_rfl) ?_
    refine wl_cmp rfl rfl rfl true (cb_lt_t (a := i) (b := ls.length) rfl rfl (by omega)) (by decide) ?_
    refine wl_nil ?_
    refine eo_then ?_
    refine cw_true rfl ?_
    refine cw_skip ?_
    refine eo_then ?_
    refine cw_seq ?_
    refine cw_block ?_
    refine cw_seq ?_
    have hlni := hln i
    refine cw_region ?_
    refine wl_move rfl rfl (by decide) ?_
    refine wl_pure rfl rfl (v := .pointer (some ⟨g, 0, none⟩)) (by decide) (by kernel_rfl) ?_
    refine wl_pure rfl rfl (v := .pointer (some ⟨g, 0, none⟩)) (by decide) (by kernel_rfl) ?_
    refine wl_load rfl rfl (load_cell (fun _ => by kernel_rfl) hB rfl) (by decide) ?_
    refine wl_move rfl rfl (by decide) ?_
    obtain ⟨p1, hp1, hc1⟩ := (hW).atL (i := i) (by omega)
    refine wl_idx rfl rfl rfl un_wl sz_wl i rfl (by omega) p1 hp1 (by decide) ?_
    refine wl_load rfl rfl (load_cell1 ag_wl hc1) (by decide) ?_
    refine wl_assign rfl rfl (by decide) ?_
    refine wl_nil ?_
    refine eo_then ?_
    refine cw_seq ?_
    refine cw_region ?_
    refine wl_assign rfl rfl (by decide) ?_
    refine wl_nil ?_
    refine eo_then ?_
    refine cw_block ?_
    refine cw_loop (T := World × Nat)
      (fun ⟨wr, j⟩ => [(0, .pointer (some ⟨g, 0, none⟩)), (3, .int .i64 ((i : Nat) : Int)), (4, .slice ((ls.getD i Lst.z).A) ((ls.getD i Lst.z).n) ((ls.getD i Lst.z).c)), (5, .int .i64 ((j : Nat) : Int))])
      (fun ⟨wr, j⟩ => wr)
      (fun ⟨wr, j⟩ => (UpU lb w wr) ∧ (Bk wr g 68 [.slice WA ls.length wc, .slice IA 0 ic, .slice NA 0 nc]) ∧ (Own wr lw 22 1 WA ls.length wc (ls.map Lst.v)) ∧ (Al1 wr lb ls i j) ∧ (j ≤ (ls.getD i Lst.z).n))
      (fun ⟨wr, j⟩ => (ls.getD i Lst.z).n - j)
      (⟨wr, 0⟩ : World × Nat) ⟨hw1, hB, hW, hal, (Nat.zero_le _)⟩ rfl ⟨rfl, rfl, rfl, rfl, trivial⟩ ?_
    rintro ⟨wr, j⟩ ⟨hw1, hB, hW, hal, hj⟩
    refine cw_re [(0, .pointer (some ⟨g, 0, none⟩)), (3, .int .i64 ((i : Nat) : Int)), (4, .slice ((ls.getD i Lst.z).A) ((ls.getD i Lst.z).n) ((ls.getD i Lst.z).c)), (5, .int .i64 ((j : Nat) : Int))] wr rfl ⟨rfl, rfl, rfl, rfl, trivial⟩ ?_
    refine cw_seq ?_
    refine cw_seq ?_
    by_cases hjn : j < (ls.getD i Lst.z).n
    ·
      refine cw_region ?_
      refine wl_move rfl rfl (by decide) ?_
      refine wl_move rfl rfl (by decide) ?_
      refine wl_pure rfl rfl (v := .int .i64 (((ls.getD i Lst.z).n : Nat) : Int)) (by decide) (by kernel_rfl) ?_
      refine wl_cmp rfl rfl rfl true (cb_lt_t (a := j) (b := (ls.getD i Lst.z).n) rfl rfl (by omega)) (by decide) ?_
      refine wl_nil ?_
      refine eo_then ?_
      refine cw_true rfl ?_
      refine cw_skip ?_
      refine eo_then ?_
      refine cw_seq ?_
      refine cw_block ?_
      refine cw_region ?_
      refine wl_move rfl rfl (by decide) ?_
      refine wl_move rfl rfl (by decide) ?_
      refine wl_move rfl rfl (by decide) ?_
      refine wl_move rfl rfl (by decide) ?_
      refine wl_call rfl rfl (vs := [.int .i64 ((i : Nat) : Int), .int .i64 ((j : Nat) : Int)]) (by kernel_rfl) (by decide) (g_sign1 (by omega) (by omega)) ?_
      rintro _ v2 ⟨xr4, rfl, r4, e3⟩
      refine ret_intro ?_
      have hw2 : UpU lb w v2 := hw1.then_ext e3
      obtain rfl := r4
      obtain ⟨p5, hp5⟩ := ((hal.ext e3)).addr hin (k := j) (by omega)
      refine wl_idx rfl rfl rfl un_u64 sz_u64 j rfl (by omega) p5 hp5 (by decide) ?_
      refine wl_mark rfl rfl rfl (hal.ext e3) hin (by omega) hp5 fun v6 al7 uu8 => ?_
      have hw3 : UpU lb w v6 := hw2.trans uu8
      refine wl_nil ?_
      refine eo_block_normal ?_
      refine eo_then ?_
      refine cw_region ?_
      refine wl_move rfl rfl (by decide) ?_
      refine wl_ar rfl rfl rfl ((j + 1 : Nat) : Int) (ai_add (a := j) (b := 1) rfl rfl (by omega)) (by decide) ?_
      refine wl_assign rfl rfl (by decide) ?_
      refine wl_nil ?_
      refine eo_round (⟨v6, j + 1⟩ : World × Nat) ⟨hw3, (uu8.bk (hB.ext e3) (by decide)), (uu8.own (hW.ext e3) (by decide)), al7, (by omega)⟩ (show (ls.getD i Lst.z).n - (j + 1) < (ls.getD i Lst.z).n - j by omega) rfl ⟨rfl, rfl, rfl, rfl, trivial⟩
    ·
      refine cw_region ?_
      refine wl_move rfl rfl (by decide) ?_
      refine wl_move rfl rfl (by decide) ?_
      refine wl_pure rfl rfl (v := .int .i64 (((ls.getD i Lst.z).n : Nat) : Int)) (by decide) (by kernel_rfl) ?_
      refine wl_cmp rfl rfl rfl false (cb_lt_f (a := j) (b := (ls.getD i Lst.z).n) rfl rfl (by omega)) (by decide) ?_
      refine wl_nil ?_
      refine eo_then ?_
      refine cw_false rfl ?_
      refine cw_exit ?_
      refine eo_thenX ?_
      refine eo_loopX ?_
      refine eo_block_here ?_
      refine eo_block_normal ?_
      refine eo_then ?_
      refine cw_region ?_
      refine wl_move rfl rfl (by decide) ?_
      refine wl_ar rfl rfl rfl ((i + 1 : Nat) : Int) (ai_add (a := i) (b := 1) rfl rfl (by omega)) (by decide) ?_
      refine wl_assign rfl rfl (by decide) ?_
      refine wl_nil ?_
      refine eo_round (⟨wr, i + 1⟩ : World × Nat) ⟨hw1, hB, hW, ((hal).next (by omega)), (by omega)⟩ (show ls.length - (i + 1) < ls.length - i by omega) rfl ⟨rfl, rfl, trivial⟩
  ·
    have hie : i = ls.length := by omega
    rw [hie] at hal
    have hal2 := Al2.start hal
    refine cw_region ?_
    refine wl_move rfl rfl (by decide) ?_
    refine wl_move rfl rfl (by decide) ?_
    refine wl_pure rfl rfl (v := .pointer (some ⟨g, 0, none⟩)) (by decide) (by kernel_rfl) ?_
    refine wl_pure rfl rfl (v := .pointer (some ⟨g, 0, none⟩)) (by decide) (by kernel_rfl) ?_
    refine wl_load rfl rfl (load_cell (fun _ => by kernel_rfl) hB rfl) (by decide) ?_
    refine wl_pure rfl rfl (v := .int .i64 ((ls.length : Nat) : Int)) (by decide) (by kernel_rfl) ?_
    refine wl_cmp rfl rfl rfl false (cb_lt_f (a := i) (b := ls.length) rfl rfl (by omega)) (by decide) ?_
    refine wl_nil ?_
    refine eo_then ?_
    refine cw_false rfl ?_
    refine cw_exit ?_
    refine eo_thenX ?_
    refine eo_loopX ?_
    refine eo_block_here ?_
    refine eo_then ?_
    refine cw_seq ?_
    refine cw_region ?_
    refine wl_move rfl rfl (by decide) ?_
    refine wl_pure rfl rfl (v := .pointer (some ⟨g, 0, none⟩)) (by decide) (by kernel_rfl) ?_
    refine wl_pure rfl rfl (v := .pointer (some ⟨g, 0, none⟩)) (by decide) (by kernel_rfl) ?_
    refine wl_load rfl rfl (load_cell (fun _ => by kernel_rfl) hB rfl) (by decide) ?_
    refine wl_pure rfl rfl (v := .int .i64 ((ls.length : Nat) : Int)) (by decide) (by kernel_rfl) ?_
    refine wl_make rfl (k := ls.length) rfl rfl rfl Tryd.underlying64 info_wl rfl (by decide) (by omega) (by decide) fun g9 v10 hg11 hb12 e13 => ?_
    have ge14 : w.heap.size ≤ g9 := by rw [← hg11]; exact hw1.size
    have hwone : ∀ p, WA = some p → p.block ≠ g9 := fun p hp => by have := ((hW).block p hp).2; omega
    have q15 : g < g9 := by rw [← hg11]; exact hB.lt
    clear hg11
    have hw2 : UpU lb w v10 := hw1.then_ext e13
    refine wl_assign rfl rfl (by decide) ?_
    refine wl_nil ?_
    refine eo_then ?_
    refine cw_seq ?_
    refine cw_seq ?_
    refine cw_region ?_
    refine wl_assign rfl rfl (by decide) ?_
    refine wl_nil ?_
    refine eo_then ?_
    refine cw_block ?_
    refine cw_loop (T := World × Nat × List Lst × List Value)
      (fun ⟨wr, i, gs, gv⟩ => [(0, .pointer (some ⟨g, 0, none⟩)), (6, .slice (some ⟨g9, 0, none⟩) ls.length ls.length), (7, .int .i64 ((i : Nat) : Int))])
      (fun ⟨wr, i, gs, gv⟩ => wr)
      (fun ⟨wr, i, gs, gv⟩ => (UpU lb w wr) ∧ (Bk wr g 68 [.slice WA ls.length wc, .slice IA 0 ic, .slice NA 0 nc]) ∧ (Own wr lw 22 1 WA ls.length wc (ls.map Lst.v)) ∧ (Bk wr g9 22 gv) ∧ (gv.length = ls.length) ∧ (Al2 wr lb ls gs) ∧ (i ≤ ls.length) ∧ (∀ a, i ≤ a → gs.getD a Lst.z = ls.getD a Lst.z) ∧ (∀ a, a < i → (gs.getD a Lst.z).n = (ls.getD a Lst.z).n + 80) ∧ (∀ a, a < i → a < ls.length → gv.getD a undef = .slice (gs.getD a Lst.z).A (gs.getD a Lst.z).n (gs.getD a Lst.z).c))
      (fun ⟨wr, i, gs, gv⟩ => ls.length - i)
      (⟨v10, 0, ls, _⟩ : World × Nat × List Lst × List Value) ⟨hw2, (hB.ext e13), (hW.ext e13), hb12, (List.length_replicate), (hal2.ext e13), (Nat.zero_le _), (fun _ _ => rfl), (fun a ha => absurd ha (Nat.not_lt_zero _)), (fun a ha => absurd ha (Nat.not_lt_zero _))⟩ rfl ⟨rfl, rfl, rfl, trivial⟩ ?_
    rintro ⟨wr, i, gs, gv⟩ ⟨hw1, hB, hW, hG, hgl, hal, hi, hg1, hg2, hgv⟩
    refine cw_re [(0, .pointer (some ⟨g, 0, none⟩)), (6, .slice (some ⟨g9, 0, none⟩) ls.length ls.length), (7, .int .i64 ((i : Nat) : Int))] wr rfl ⟨rfl, rfl, rfl, trivial⟩ ?_
    refine cw_seq ?_
    refine cw_seq ?_
    by_cases hin : i < ls.length
    ·
      refine cw_region ?_
      refine wl_move rfl rfl (by decide) ?_
      refine wl_move rfl rfl (by decide) ?_
      refine wl_pure rfl rfl (v := .pointer (some ⟨g, 0, none⟩)) (by decide) (by kernel_rfl) ?_
      refine wl_pure rfl rfl (v := .pointer (some ⟨g, 0, none⟩)) (by decide) (by kernel_rfl) ?_
      refine wl_load rfl rfl (load_cell (fun _ => by kernel_rfl) hB rfl) (by decide) ?_
      refine wl_pure rfl rfl (v := .int .i64 ((ls.length : Nat) : Int)) (by decide) (by kernel_rfl) ?_
      refine wl_cmp rfl rfl rfl true (cb_lt_t (a := i) (b := ls.length) rfl rfl (by omega)) (by decide) ?_
      refine wl_nil ?_
      refine eo_then ?_
      refine cw_true rfl ?_
      refine cw_skip ?_
      refine eo_then ?_
      refine cw_seq ?_
      refine cw_block ?_
      refine cw_seq ?_
      have hlni := hln i
      refine cw_region ?_
      refine wl_move rfl rfl (by decide) ?_
      refine wl_pure rfl rfl (v := .pointer (some ⟨g, 0, none⟩)) (by decide) (by kernel_rfl) ?_
      refine wl_pure rfl rfl (v := .pointer (some ⟨g, 0, none⟩)) (by decide) (by kernel_rfl) ?_
      refine wl_load rfl rfl (load_cell (fun _ => by kernel_rfl) hB rfl) (by decide) ?_
      refine wl_move rfl rfl (by decide) ?_
      obtain ⟨p16, hp16, hc16⟩ := (hW).atL (i := i) (by omega)
      refine wl_idx rfl rfl rfl un_wl sz_wl i rfl (by omega) p16 hp16 (by decide) ?_
      refine wl_load rfl rfl (load_cell1 ag_wl hc16) (by decide) ?_
      refine wl_assign rfl rfl (by decide) ?_
      refine wl_nil ?_
      refine eo_then ?_
      refine cw_seq ?_
      refine cw_seq ?_
      have hgi := (hg1 i (Nat.le_refl _)).symm
      refine cw_keep [(0, .pointer (some ⟨g, 0, none⟩)), (6, .slice (some ⟨g9, 0, none⟩) ls.length ls.length), (7, .int .i64 ((i : Nat) : Int)), (45, .int .i64 ((i : Nat) : Int)), (46, .pointer (some ⟨g, 0, none⟩)), (47, .pointer (some ⟨g, 0, none⟩)), (48, .pointer (some ⟨g, 0, none⟩)), (49, .slice WA ls.length wc), (50, .int .i64 ((ls.length : Nat) : Int)), (51, .bool true), (8, .slice ((ls.getD i Lst.z).A) ((ls.getD i Lst.z).n) ((ls.getD i Lst.z).c))] ⟨rfl, rfl, rfl, rfl, rfl, rfl, rfl, rfl, rfl, rfl, rfl, trivial⟩ ?_
      rw [hgi]
      refine cw_region ?_
      refine wl_assign rfl rfl (by decide) ?_
      refine wl_nil ?_
      refine eo_then ?_
      refine cw_block ?_
      refine cw_loop (T := World × Nat × List Lst)
        (fun ⟨wr, j, gs2⟩ => [(0, .pointer (some ⟨g, 0, none⟩)), (6, .slice (some ⟨g9, 0, none⟩) ls.length ls.length), (7, .int .i64 ((i : Nat) : Int)), (8, .slice ((gs2.getD i Lst.z).A) ((gs2.getD i Lst.z).n) ((gs2.getD i Lst.z).c)), (9, .int .i64 ((j : Nat) : Int))])
        (fun ⟨wr, j, gs2⟩ => wr)
        (fun ⟨wr, j, gs2⟩ => (UpU lb w wr) ∧ (Bk wr g 68 [.slice WA ls.length wc, .slice IA 0 ic, .slice NA 0 nc]) ∧ (Own wr lw 22 1 WA ls.length wc (ls.map Lst.v)) ∧ (Bk wr g9 22 gv) ∧ (Al2 wr lb ls gs2) ∧ (j ≤ 80) ∧ (∀ a, a ≠ i → gs2.getD a Lst.z = gs.getD a Lst.z) ∧ ((gs2.getD i Lst.z).n = (ls.getD i Lst.z).n + j))
        (fun ⟨wr, j, gs2⟩ => 80 - j)
        (⟨wr, 0, gs⟩ : World × Nat × List Lst) ⟨hw1, hB, hW, hG, hal, (Nat.zero_le _), (fun _ _ => rfl), (by rw [hgi]; rfl)⟩ rfl ⟨rfl, rfl, rfl, rfl, rfl, trivial⟩ ?_
      rintro ⟨wr, j, gs2⟩ ⟨hw1, hB, hW, hG, hal, hj, hs1, hs2⟩
      refine cw_re [(0, .pointer (some ⟨g, 0, none⟩)), (6, .slice (some ⟨g9, 0, none⟩) ls.length ls.length), (7, .int .i64 ((i : Nat) : Int)), (8, .slice ((gs2.getD i Lst.z).A) ((gs2.getD i Lst.z).n) ((gs2.getD i Lst.z).c)), (9, .int .i64 ((j : Nat) : Int))] wr rfl ⟨rfl, rfl, rfl, rfl, rfl, trivial⟩ ?_
      refine cw_seq ?_
      refine cw_seq ?_
      by_cases hjn : j < 80
      ·
        refine cw_region ?_
        refine wl_move rfl rfl (by decide) ?_
        refine wl_cmp rfl rfl rfl true (cb_lt_t (a := j) (b := 80) rfl rfl (by omega)) (by decide) ?_
        refine wl_nil ?_
        refine eo_then ?_
        refine cw_true rfl ?_
        refine cw_skip ?_
        refine eo_then ?_
        refine cw_seq ?_
        refine cw_block ?_
        refine cw_region ?_
        refine wl_move rfl rfl (by decide) ?_
        refine wl_move rfl rfl (by decide) ?_
        refine wl_move rfl rfl (by decide) ?_
        refine wl_pure rfl rfl (v := .int .i64 (((gs2.getD i Lst.z).n : Nat) : Int)) (by decide) (by kernel_rfl) ?_
        refine wl_call rfl rfl (vs := [.int .i64 ((i : Nat) : Int), .int .i64 (((gs2.getD i Lst.z).n : Nat) : Int)]) (by kernel_rfl) (by decide) (g_sign1 (by omega) (by omega)) ?_
        rintro _ v17 ⟨xr19, rfl, r19, e18⟩
        refine ret_intro ?_
        have hw2 : UpU lb w v17 := hw1.then_ext e18
        obtain rfl := r19
        refine wl_bslice rfl rfl (by decide) (k := 1) (e := 48) [.int .u64 ((sgm i ((gs2.getD i Lst.z).n) : Nat) : Int)] (fun _ => by kernel_rfl) fun g20 v21 nb => ?_
        have hb22 := nb.bk
        have e23 := nb.ext
        clear nb
        have hw3 : UpU lb w v21 := hw2.then_ext e23
        refine wl_grow rfl rfl rfl (hal.ext (e18.trans e23)) (Nat.le_trans hlb hw3.size) hin hb22 (by omega) (by decide) fun A24 c25 v26 al27 uu28 => ?_
        have hw4 : UpU lb w v26 := hw3.trans uu28
        refine wl_assign rfl rfl (by decide) ?_
        refine wl_nil ?_
        refine eo_block_normal ?_
        refine eo_then ?_
        have hnew : (gs2.set i ⟨A24, (gs2.getD i Lst.z).n + 1, c25⟩).getD i Lst.z = (⟨A24, (gs2.getD i Lst.z).n + 1, c25⟩ : Lst) := getD_set_self (by rw [hal.len]; exact hin)
        refine cw_keep [(0, .pointer (some ⟨g, 0, none⟩)), (6, .slice (some ⟨g9, 0, none⟩) ls.length ls.length), (7, .int .i64 ((i : Nat) : Int)), (8, .slice ((⟨A24, (gs2.getD i Lst.z).n + 1, c25⟩ : Lst).A) ((⟨A24, (gs2.getD i Lst.z).n + 1, c25⟩ : Lst).n) ((⟨A24, (gs2.getD i Lst.z).n + 1, c25⟩ : Lst).c)), (9, .int .i64 ((j : Nat) : Int)), (61, .int .i64 ((j : Nat) : Int)), (62, .bool true)] ⟨rfl, rfl, rfl, rfl, rfl, rfl, rfl, trivial⟩ ?_
        rw [← hnew]
        refine cw_region ?_
        refine wl_move rfl rfl (by decide) ?_
        refine wl_ar rfl rfl rfl ((j + 1 : Nat) : Int) (ai_add (a := j) (b := 1) rfl rfl (by omega)) (by decide) ?_
        refine wl_assign rfl rfl (by decide) ?_
        refine wl_nil ?_
        refine eo_round (⟨v26, j + 1, gs2.set i ⟨A24, (gs2.getD i Lst.z).n + 1, c25⟩⟩ : World × Nat × List Lst) ⟨hw4, (uu28.bk (hB.ext (e18.trans e23)) (by decide)), (uu28.own (hW.ext (e18.trans e23)) (by decide)), (uu28.bk (hG.ext (e18.trans e23)) (by decide)), al27, (by omega), (fun a ha => (getD_set_other ha).trans (hs1 a ha)), (by rw [hnew]; show (gs2.getD i Lst.z).n + 1 = _; omega)⟩ (show 80 - (j + 1) < 80 - j by omega) rfl ⟨rfl, rfl, rfl, rfl, rfl, trivial⟩
      ·
        have hj80 : j = 80 := by omega
        refine cw_region ?_
        refine wl_move rfl rfl (by decide) ?_
        refine wl_cmp rfl rfl rfl false (cb_lt_f (a := j) (b := 80) rfl rfl (by omega)) (by decide) ?_
        refine wl_nil ?_
        refine eo_then ?_
        refine cw_false rfl ?_
        refine cw_exit ?_
        refine eo_thenX ?_
        refine eo_loopX ?_
        refine eo_block_here ?_
        refine eo_then ?_
        refine cw_region ?_
        refine wl_move rfl rfl (by decide) ?_
        refine wl_move rfl rfl (by decide) ?_
        refine wl_move rfl rfl (by decide) ?_
        refine wl_idx rfl rfl rfl un_wl sz_wl i rfl (by omega) ⟨g9, i, none⟩ (arr_at _ _) (by decide) ?_
        have hb30 := hG
        refine wl_stored1 rfl rfl rfl sz_wl rfl hb30 (by omega) rfl (gv.set i (.slice ((gs2.getD i Lst.z).A) ((gs2.getD i Lst.z).n) ((gs2.getD i Lst.z).c))) rfl fun v29 hb31 u32 hs33 => ?_
        have hw2 : UpU lb w v29 := hw1.upd_new u32 ge14 hlb
        refine wl_nil ?_
        refine eo_block_normal ?_
        refine eo_then ?_
        refine cw_region ?_
        refine wl_move rfl rfl (by decide) ?_
        refine wl_ar rfl rfl rfl ((i + 1 : Nat) : Int) (ai_add (a := i) (b := 1) rfl rfl (by omega)) (by decide) ?_
        refine wl_assign rfl rfl (by decide) ?_
        refine wl_nil ?_
        refine eo_round (⟨v29, i + 1, gs2, gv.set i (.slice ((gs2.getD i Lst.z).A) ((gs2.getD i Lst.z).n) ((gs2.getD i Lst.z).c))⟩ : World × Nat × List Lst × List Value) ⟨hw2, (hB.updN u32 (by omega)), (hW.upd u32 hwone), hb31, (by rw [List.length_set]; exact hgl), (hal.updT hb30 (by decide) u32), (by omega), (fun a ha => (hs1 a (by omega)).trans (hg1 a (by omega))), (fun a ha => by by_cases e : a = i; (· subst e; rw [hs2]; omega); (· rw [hs1 a e]; exact hg2 a (by omega))), (fun a ha hl => by by_cases e : a = i; (· subst e; rw [getD_set_self (by omega)]); (· rw [getD_set_other e, hs1 a e]; exact hgv a (by omega) hl))⟩ (show ls.length - (i + 1) < ls.length - i by omega) rfl ⟨rfl, rfl, rfl, trivial⟩
    ·
      have hie : i = ls.length := by omega
      rw [hie] at hg2 hgv
      refine cw_region ?_
      refine wl_move rfl rfl (by decide) ?_
      refine wl_move rfl rfl (by decide) ?_
      refine wl_pure rfl rfl (v := .pointer (some ⟨g, 0, none⟩)) (by decide) (by kernel_rfl) ?_
      refine wl_pure rfl rfl (v := .pointer (some ⟨g, 0, none⟩)) (by decide) (by kernel_rfl) ?_
      refine wl_load rfl rfl (load_cell (fun _ => by kernel_rfl) hB rfl) (by decide) ?_
      refine wl_pure rfl rfl (v := .int .i64 ((ls.length : Nat) : Int)) (by decide) (by kernel_rfl) ?_
      refine wl_cmp rfl rfl rfl false (cb_lt_f (a := i) (b := ls.length) rfl rfl (by omega)) (by decide) ?_
      refine wl_nil ?_
      refine eo_then ?_
      refine cw_false rfl ?_
      refine cw_exit ?_
      refine eo_thenX ?_
      refine eo_loopX ?_
      refine eo_block_here ?_
      refine eo_then ?_
      refine cw_seq ?_
      refine cw_seq ?_
      refine cw_region ?_
      refine wl_assign rfl rfl (by decide) ?_
      refine wl_nil ?_
      refine eo_then ?_
      refine cw_block ?_
      refine cw_loop (T := World × Nat)
        (fun ⟨wr, k⟩ => [(0, .pointer (some ⟨g, 0, none⟩)), (6, .slice (some ⟨g9, 0, none⟩) ls.length ls.length), (10, .int .i64 ((k : Nat) : Int))])
        (fun ⟨wr, k⟩ => wr)
        (fun ⟨wr, k⟩ => (UpU lb w wr) ∧ (Bk wr g 68 [.slice WA ls.length wc, .slice IA 0 ic, .slice NA 0 nc]) ∧ (Own wr lw 22 1 WA ls.length wc (ls.map Lst.v)) ∧ (Bk wr g9 22 gv) ∧ (Al2 wr lb ls gs) ∧ (k ≤ ls.length))
        (fun ⟨wr, k⟩ => ls.length - k)
        (⟨wr, 0⟩ : World × Nat) ⟨hw1, hB, hW, hG, hal, (Nat.zero_le _)⟩ rfl ⟨rfl, rfl, rfl, trivial⟩ ?_
      rintro ⟨wr, k⟩ ⟨hw1, hB, hW, hG, hal, hk⟩
      refine cw_re [(0, .pointer (some ⟨g, 0, none⟩)), (6, .slice (some ⟨g9, 0, none⟩) ls.length ls.length), (10, .int .i64 ((k : Nat) : Int))] wr rfl ⟨rfl, rfl, rfl, trivial⟩ ?_
      refine cw_seq ?_
      refine cw_seq ?_
      by_cases hkn : k < ls.length
      ·
        refine cw_region ?_
        refine wl_move rfl rfl (by decide) ?_
        refine wl_move rfl rfl (by decide) ?_
        refine wl_pure rfl rfl (v := .pointer (some ⟨g, 0, none⟩)) (by decide) (by kernel_rfl) ?_
        refine wl_pure rfl rfl (v := .pointer (some ⟨g, 0, none⟩)) (by decide) (by kernel_rfl) ?_
        refine wl_load rfl rfl (load_cell (fun _ => by kernel_rfl) hB rfl) (by decide) ?_
        refine wl_pure rfl rfl (v := .int .i64 ((ls.length : Nat) : Int)) (by decide) (by kernel_rfl) ?_
        refine wl_cmp rfl rfl rfl true (cb_lt_t (a := k) (b := ls.length) rfl rfl (by omega)) (by decide) ?_
        refine wl_nil ?_
        refine eo_then ?_
        refine cw_true rfl ?_
        refine cw_skip ?_
        refine eo_then ?_
        refine cw_seq ?_
        refine cw_block ?_
        refine cw_seq ?_
        have hlnk := hln k
        have hgnk := hg2 k hkn
        obtain ⟨p34, hp34, hc34⟩ := (hW).atL (i := k) (by omega)
        refine cw_draw mix 14 [] [Is (.int .i64 ((k : Nat) : Int)), Is (.pointer (some ⟨g, 0, none⟩)), Is (.pointer (some ⟨g, 0, none⟩)), Is (.pointer (some ⟨g, 0, none⟩)), Is (.slice WA ls.length wc), Is (.int .i64 ((k : Nat) : Int)), Is (.pointer (some p34)), Is (.slice ((ls.getD k Lst.z).A) ((ls.getD k Lst.z).n) ((ls.getD k Lst.z).c)), Is (.slice (some ⟨g9, 0, none⟩) ls.length ls.length), Is (.int .i64 ((k : Nat) : Int)), Is (.pointer (some (⟨g9, k, none⟩))), Is (.slice ((gs.getD k Lst.z).A) ((gs.getD k Lst.z).n) ((gs.getD k Lst.z).c)), Is (.bool true), Is (.bool false)] [[], [], [1], [2], [3], [], [4, 5], [6], [], [], [8, 9], [10], [0, 7, 11], [12]] [[], [], [1], [1, 2], [1, 2, 3], [], [1, 2, 3, 4, 5], [1, 2, 3, 4, 5, 6], [], [], [8, 9], [8, 9, 10], [0, 1, 2, 3, 4, 5, 6, 7, 8, 9, 10, 11], [0, 1, 2, 3, 4, 5, 6, 7, 8, 9, 10, 11, 12]] rfl
          (obs_cons rfl rfl (hob rfl rfl ?_) (obs_cons rfl rfl (hob rfl rfl ?_) (obs_cons rfl rfl (hob rfl rfl ?_) (obs_cons rfl rfl (hob rfl rfl ?_) (obs_cons rfl rfl (hob rfl rfl ?_) (obs_cons rfl rfl (hob rfl rfl ?_) (obs_cons rfl rfl (hob rfl rfl ?_) (obs_cons rfl rfl (hob rfl rfl ?_) (obs_cons rfl rfl (hob rfl rfl ?_) (obs_cons rfl rfl (hob rfl rfl ?_) (obs_cons rfl rfl (hob rfl rfl ?_) (obs_cons rfl rfl (hob rfl rfl ?_) (obs_cons rfl rfl (hob rfl rfl ?_) (obs_cons rfl rfl (hob rfl rfl ?_) obs_nil)))))))))))))) ?_
        · -- 0
          intro v35 e36
          have hw2 : UpU lb w v35 := hw1.then_ext e36
          refine deps_nil ?_
          refine wl_move rfl rfl (by decide) ?_
          exact pi_done rfl (Ext.refl _) rfl
        · -- 1
          intro v37 e38
          have hw2 : UpU lb w v37 := hw1.then_ext e38
          refine deps_nil ?_
          refine wl_move rfl rfl (by decide) ?_
          exact pi_done rfl (Ext.refl _) rfl
        · -- 2
          intro v39 e40
          have hw2 : UpU lb w v39 := hw1.then_ext e40
          refine deps_cons rfl rfl fun x41 y42 h43 e44 f45 => ?_
          obtain rfl := h43
          refine deps_nil ?_
          refine wl_pure rfl rfl (v := .pointer (some ⟨g, 0, none⟩)) (by decide) (by kernel_rfl) ?_
          exact pi_done rfl (Ext.refl _) rfl
        · -- 3
          intro v46 e47
          have hw2 : UpU lb w v46 := hw1.then_ext e47
          refine deps_cons rfl rfl fun x48 y49 h50 e51 f52 => ?_
          obtain rfl := h50
          refine deps_nil ?_
          refine wl_pure rfl rfl (v := .pointer (some ⟨g, 0, none⟩)) (by decide) (by kernel_rfl) ?_
          exact pi_done rfl (Ext.refl _) rfl
        · -- 4
          intro v53 e54
          have hw2 : UpU lb w v53 := hw1.then_ext e54
          refine deps_cons rfl rfl fun x55 y56 h57 e58 f59 => ?_
          obtain rfl := h57
          refine deps_nil ?_
          refine wl_load rfl rfl (load_cell (fun _ => by kernel_rfl) (hB.ext e54) rfl) (by decide) ?_
          exact pi_done rfl (Ext.refl _) rfl
        · -- 5
          intro v60 e61
          have hw2 : UpU lb w v60 := hw1.then_ext e61
          refine deps_nil ?_
          refine wl_move rfl rfl (by decide) ?_
          exact pi_done rfl (Ext.refl _) rfl
        · -- 6
          intro v62 e63
          have hw2 : UpU lb w v62 := hw1.then_ext e63
          refine deps_cons rfl rfl fun x64 y65 h66 e67 f68 => ?_
          obtain rfl := h66
          refine deps_cons rfl rfl fun x69 y70 h71 e72 f73 => ?_
          obtain rfl := h71
          refine deps_nil ?_
          refine wl_idx rfl rfl rfl un_wl sz_wl k rfl (by omega) p34 hp34 (by decide) ?_
          exact pi_done rfl (Ext.refl _) rfl
        · -- 7
          intro v74 e75
          have hw2 : UpU lb w v74 := hw1.then_ext e75
          refine deps_cons rfl rfl fun x76 y77 h78 e79 f80 => ?_
          obtain rfl := h78
          refine deps_nil ?_
          refine wl_load rfl rfl (load_cell1 ag_wl (e75.cell hc34)) (by decide) ?_
          exact pi_done rfl (Ext.refl _) rfl
        · -- 8
          intro v81 e82
          have hw2 : UpU lb w v81 := hw1.then_ext e82
          refine deps_nil ?_
          refine wl_move rfl rfl (by decide) ?_
          exact pi_done rfl (Ext.refl _) rfl
        · -- 9
          intro v83 e84
          have hw2 : UpU lb w v83 := hw1.then_ext e84
          refine deps_nil ?_
          refine wl_move rfl rfl (by decide) ?_
          exact pi_done rfl (Ext.refl _) rfl
        · -- 10
          intro v85 e86
          have hw2 : UpU lb w v85 := hw1.then_ext e86
          refine deps_cons rfl rfl fun x87 y88 h89 e90 f91 => ?_
          obtain rfl := h89
          refine deps_cons rfl rfl fun x92 y93 h94 e95 f96 => ?_
          obtain rfl := h94
          refine deps_nil ?_
          refine wl_idx rfl rfl rfl un_wl sz_wl k rfl (by omega) ⟨g9, k, none⟩ (arr_at _ _) (by decide) ?_
          exact pi_done rfl (Ext.refl _) rfl
        · -- 11
          intro v97 e98
          have hw2 : UpU lb w v97 := hw1.then_ext e98
          refine deps_cons rfl rfl fun x99 y100 h101 e102 f103 => ?_
          obtain rfl := h101
          refine deps_nil ?_
          refine wl_load rfl rfl (load_cell1 ag_wl (by have h := ((hG.ext e98)).cell (i := k) (by omega); rw [hgv k (by omega) (by omega)] at h; exact h)) (by decide) ?_
          exact pi_done rfl (Ext.refl _) rfl
        · -- 12
          intro v104 e105
          have hw2 : UpU lb w v104 := hw1.then_ext e105
          refine deps_cons rfl rfl fun x106 y107 h108 e109 f110 => ?_
          obtain rfl := h108
          refine deps_cons rfl rfl fun x111 y112 h113 e114 f115 => ?_
          obtain rfl := h113
          refine deps_cons rfl rfl fun x116 y117 h118 e119 f120 => ?_
          obtain rfl := h118
          refine deps_nil ?_
          refine wl_call rfl rfl (vs := [.int .i64 ((k : Nat) : Int), .slice ((ls.getD k Lst.z).A) ((ls.getD k Lst.z).n) ((ls.getD k Lst.z).c), .slice ((gs.getD k Lst.z).A) ((gs.getD k Lst.z).n) ((gs.getD k Lst.z).c)]) (by kernel_rfl) (by decide) (g_holds (by omega) ((hal.ext e105).rd1 hkn hN (by omega)) ((hal.ext e105).rd2 hkn hN (by omega)) (by omega) (by omega)) ?_
          rintro _ v121 ⟨xr123, rfl, r123, e122⟩
          refine ret_intro ?_
          have hw3 : UpU lb w v121 := hw2.then_ext e122
          obtain rfl := r123
          exact pi_done rfl e122 rfl
        · -- 13
          intro v124 e125
          have hw2 : UpU lb w v124 := hw1.then_ext e125
          refine deps_cons rfl rfl fun x126 y127 h128 e129 f130 => ?_
          obtain rfl := h128
          refine deps_nil ?_
          refine wl_pure rfl rfl (v := .bool false) (by decide) (by kernel_rfl) ?_
          exact pi_done rfl (Ext.refl _) rfl
        · -- all
          intro v131 e132
          have hw2 : UpU lb w v131 := hw1.then_ext e132
          refine deps_cons rfl rfl fun x133 y134 h135 e136 f137 => ?_
          obtain rfl := h135
          refine deps_cons rfl rfl fun x138 y139 h140 e141 f142 => ?_
          obtain rfl := h140
          refine deps_cons rfl rfl fun x143 y144 h145 e146 f147 => ?_
          obtain rfl := h145
          refine deps_cons rfl rfl fun x148 y149 h150 e151 f152 => ?_
          obtain rfl := h150
          refine deps_cons rfl rfl fun x153 y154 h155 e156 f157 => ?_
          obtain rfl := h155
          refine deps_cons rfl rfl fun x158 y159 h160 e161 f162 => ?_
          obtain rfl := h160
          refine deps_cons rfl rfl fun x163 y164 h165 e166 f167 => ?_
          obtain rfl := h165
          refine deps_cons rfl rfl fun x168 y169 h170 e171 f172 => ?_
          obtain rfl := h170
          refine deps_cons rfl rfl fun x173 y174 h175 e176 f177 => ?_
          obtain rfl := h175
          refine deps_cons rfl rfl fun x178 y179 h180 e181 f182 => ?_
          obtain rfl := h180
          refine deps_cons rfl rfl fun x183 y184 h185 e186 f187 => ?_
          obtain rfl := h185
          refine deps_cons rfl rfl fun x188 y189 h190 e191 f192 => ?_
          obtain rfl := h190
          refine deps_cons rfl rfl fun x193 y194 h195 e196 f197 => ?_
          obtain rfl := h195
          refine deps_cons rfl rfl fun x198 y199 h200 e201 f202 => ?_
          obtain rfl := h200
          refine deps_nil ?_
          refine wl_nil ?_
          refine eo_np ?_
          refine eo_then ?_
          refine cw_false rfl ?_
          refine cw_skip ?_
          refine eo_block_normal ?_
          refine eo_then ?_
          refine cw_region ?_
          refine wl_move rfl rfl (by decide) ?_
          refine wl_ar rfl rfl rfl ((k + 1 : Nat) : Int) (ai_add (a := k) (b := 1) rfl rfl (by omega)) (by decide) ?_
          refine wl_assign rfl rfl (by decide) ?_
          refine wl_nil ?_
          refine eo_round (⟨v131, k + 1⟩ : World × Nat) ⟨hw2, (hB.ext e132), (hW.ext e132), (hG.ext e132), (hal.ext e132), (by omega)⟩ (show ls.length - (k + 1) < ls.length - k by omega) rfl ⟨rfl, rfl, rfl, trivial⟩
      ·
        refine cw_region ?_
        refine wl_move rfl rfl (by decide) ?_
        refine wl_move rfl rfl (by decide) ?_
        refine wl_pure rfl rfl (v := .pointer (some ⟨g, 0, none⟩)) (by decide) (by kernel_rfl) ?_
        refine wl_pure rfl rfl (v := .pointer (some ⟨g, 0, none⟩)) (by decide) (by kernel_rfl) ?_
        refine wl_load rfl rfl (load_cell (fun _ => by kernel_rfl) hB rfl) (by decide) ?_
        refine wl_pure rfl rfl (v := .int .i64 ((ls.length : Nat) : Int)) (by decide) (by kernel_rfl) ?_
        refine wl_cmp rfl rfl rfl false (cb_lt_f (a := k) (b := ls.length) rfl rfl (by omega)) (by decide) ?_
        refine wl_nil ?_
        refine eo_then ?_
        refine cw_false rfl ?_
        refine cw_exit ?_
        refine eo_thenX ?_
        refine eo_loopX ?_
        refine eo_block_here ?_
        refine eo_then ?_
        refine cw_seq ?_
        refine cw_region ?_
        refine wl_assign rfl rfl (by decide) ?_
        refine wl_nil ?_
        refine eo_then ?_
        refine cw_ret ?_
        refine eo_ret [.bool true] rfl ⟨rfl, trivial⟩ ?_
        exact ⟨rfl, hw1⟩
set_option maxHeartbeats 4000000 in
theorem g_ints0 {w : World} {g wn wc ic nc : Nat} {WA IA NA : Option Addr} (hB : Bk w g 68 [.slice WA wn wc, .slice IA 0 ic, .slice NA 0 nc]) :
    Calls Tryd.prog 76 #[.pointer (some ⟨g, 0, none⟩)] w (Gv w (Is (.bool true))) := by
  refine sx_enter Tryd.func76 rfl (n := 154) rfl (Nat.le_of_ble_eq_true rfl) (args := [.pointer (some ⟨g, 0, none⟩)]) ?_
  refine cw_keep [(0, .pointer (some ⟨g, 0, none⟩))] ⟨rfl, trivial⟩ ?_
  refine cw_seq ?_
  refine cw_region ?_
  refine wl_assign rfl rfl (by decide) ?_
  refine wl_nil ?_
  refine eo_then ?_
  refine cw_seq ?_
  refine cw_seq ?_
  refine cw_region ?_
  refine wl_assign rfl rfl (by decide) ?_
  refine wl_nil ?_
  refine eo_then ?_
  refine cw_block ?_
  refine cw_loop (T := World × Nat)
    (fun ⟨wr, i⟩ => [(0, .pointer (some ⟨g, 0, none⟩)), (3, .int .i64 ((i : Nat) : Int))])
    (fun ⟨wr, i⟩ => wr)
    (fun ⟨wr, i⟩ => (Ext w wr) ∧ (Bk wr g 68 [.slice WA wn wc, .slice IA 0 ic, .slice NA 0 nc]))
    (fun ⟨wr, i⟩ => i)
    (⟨w, 0⟩ : World × Nat) ⟨(Ext.refl w), hB⟩ rfl ⟨rfl, rfl, trivial⟩ ?_
  rintro ⟨wr, i⟩ ⟨hw1, hB⟩
  refine cw_re [(0, .pointer (some ⟨g, 0, none⟩)), (3, .int .i64 ((i : Nat) : Int))] wr rfl ⟨rfl, rfl, trivial⟩ ?_
  refine cw_seq ?_
  refine cw_seq ?_
  refine cw_region ?_
  refine wl_move rfl rfl (by decide) ?_
  refine wl_move rfl rfl (by decide) ?_
  refine wl_pure rfl rfl (v := .pointer (some ⟨g, 0, none⟩)) (by decide) (by kernel_rfl) ?_
  refine wl_pure rfl rfl (v := .pointer (some ⟨g, 1, none⟩)) (by decide) (by kernel_rfl) ?_
  refine wl_load rfl rfl (load_cell (fun _ => by kernel_rfl) hB rfl) (by decide) ?_
  refine wl_pure rfl rfl (v := .int .i64 0) (by decide) (by kernel_rfl) ?_
  refine wl_cmp rfl rfl rfl false (cb_lt_f (a := i) (b := 0) rfl rfl (by omega)) (by decide) ?_
  refine wl_nil ?_
  refine eo_then ?_
  refine cw_false rfl ?_
  refine cw_exit ?_
  refine eo_thenX ?_
  refine eo_loopX ?_
  refine eo_block_here ?_
  refine eo_then ?_
  refine cw_seq ?_
  refine cw_region ?_
  refine wl_move rfl rfl (by decide) ?_
  refine wl_pure rfl rfl (v := .pointer (some ⟨g, 0, none⟩)) (by decide) (by kernel_rfl) ?_
  refine wl_pure rfl rfl (v := .pointer (some ⟨g, 1, none⟩)) (by decide) (by kernel_rfl) ?_
  refine wl_load rfl rfl (load_cell (fun _ => by kernel_rfl) hB rfl) (by decide) ?_
  refine wl_pure rfl rfl (v := .int .i64 0) (by decide) (by kernel_rfl) ?_
  refine wl_make rfl (k := 0) rfl rfl rfl Tryd.underlying65 info_zl2 rfl (by decide) (by omega) (by decide) fun g1 v2 hg3 hb4 e5 => ?_
  have ge6 : w.heap.size ≤ g1 := by rw [← hg3]; exact hw1.size
  clear hg3
  have hw2 : Ext w v2 := hw1.trans e5
  refine wl_assign rfl rfl (by decide) ?_
  refine wl_nil ?_
  refine eo_then ?_
  refine cw_seq ?_
  refine cw_seq ?_
  refine cw_region ?_
  refine wl_assign rfl rfl (by decide) ?_
  refine wl_nil ?_
  refine eo_then ?_
  refine cw_block ?_
  refine cw_loop (T := World × Nat)
    (fun ⟨wr, i⟩ => [(0, .pointer (some ⟨g, 0, none⟩)), (6, .slice (some ⟨g1, 0, none⟩) 0 0), (7, .int .i64 ((i : Nat) : Int))])
    (fun ⟨wr, i⟩ => wr)
    (fun ⟨wr, i⟩ => (Ext w wr) ∧ (Bk wr g 68 [.slice WA wn wc, .slice IA 0 ic, .slice NA 0 nc]))
    (fun ⟨wr, i⟩ => i)
    (⟨v2, 0⟩ : World × Nat) ⟨hw2, (hB.ext e5)⟩ rfl ⟨rfl, rfl, rfl, trivial⟩ ?_
  rintro ⟨wr, i⟩ ⟨hw1, hB⟩
  refine cw_re [(0, .pointer (some ⟨g, 0, none⟩)), (6, .slice (some ⟨g1, 0, none⟩) 0 0), (7, .int .i64 ((i : Nat) : Int))] wr rfl ⟨rfl, rfl, rfl, trivial⟩ ?_
  refine cw_seq ?_
  refine cw_seq ?_
  refine cw_region ?_
  refine wl_move rfl rfl (by decide) ?_
  refine wl_move rfl rfl (by decide) ?_
  refine wl_pure rfl rfl (v := .pointer (some ⟨g, 0, none⟩)) (by decide) (by kernel_rfl) ?_
  refine wl_pure rfl rfl (v := .pointer (some ⟨g, 1, none⟩)) (by decide) (by kernel_rfl) ?_
  refine wl_load rfl rfl (load_cell (fun _ => by kernel_rfl) hB rfl) (by decide) ?_
  refine wl_pure rfl rfl (v := .int .i64 0) (by decide) (by kernel_rfl) ?_
  refine wl_cmp rfl rfl rfl false (cb_lt_f (a := i) (b := 0) rfl rfl (by omega)) (by decide) ?_
  refine wl_nil ?_
  refine eo_then ?_
  refine cw_false rfl ?_
  refine cw_exit ?_
  refine eo_thenX ?_
  refine eo_loopX ?_
  refine eo_block_here ?_
  refine eo_then ?_
  refine cw_seq ?_
  refine cw_seq ?_
  refine cw_region ?_
  refine wl_assign rfl rfl (by decide) ?_
  refine wl_nil ?_
  refine eo_then ?_
  refine cw_block ?_
  refine cw_loop (T := World × Nat)
    (fun ⟨wr, i⟩ => [(0, .pointer (some ⟨g, 0, none⟩)), (6, .slice (some ⟨g1, 0, none⟩) 0 0), (10, .int .i64 ((i : Nat) : Int))])
    (fun ⟨wr, i⟩ => wr)
    (fun ⟨wr, i⟩ => (Ext w wr) ∧ (Bk wr g 68 [.slice WA wn wc, .slice IA 0 ic, .slice NA 0 nc]))
    (fun ⟨wr, i⟩ => i)
    (⟨wr, 0⟩ : World × Nat) ⟨hw1, hB⟩ rfl ⟨rfl, rfl, rfl, trivial⟩ ?_
  rintro ⟨wr, i⟩ ⟨hw1, hB⟩
  refine cw_re [(0, .pointer (some ⟨g, 0, none⟩)), (6, .slice (some ⟨g1, 0, none⟩) 0 0), (10, .int .i64 ((i : Nat) : Int))] wr rfl ⟨rfl, rfl, rfl, trivial⟩ ?_
  refine cw_seq ?_
  refine cw_seq ?_
  refine cw_region ?_
  refine wl_move rfl rfl (by decide) ?_
  refine wl_move rfl rfl (by decide) ?_
  refine wl_pure rfl rfl (v := .pointer (some ⟨g, 0, none⟩)) (by decide) (by kernel_rfl) ?_
  refine wl_pure rfl rfl (v := .pointer (some ⟨g, 1, none⟩)) (by decide) (by kernel_rfl) ?_
  refine wl_load rfl rfl (load_cell (fun _ => by kernel_rfl) hB rfl) (by decide) ?_
  refine wl_pure rfl rfl (v := .int .i64 0) (by decide) (by kernel_rfl) ?_
  refine wl_cmp rfl rfl rfl false (cb_lt_f (a := i) (b := 0) rfl rfl (by omega)) (by decide) ?_
  refine wl_nil ?_
  refine eo_then ?_
  refine cw_false rfl ?_
  refine cw_exit ?_
  refine eo_thenX ?_
  refine eo_loopX ?_
  refine eo_block_here ?_
  refine eo_then ?_
  refine cw_seq ?_
  refine cw_region ?_
  refine wl_assign rfl rfl (by decide) ?_
  refine wl_nil ?_
  refine eo_then ?_
  refine cw_ret ?_
  refine eo_ret [.bool true] rfl ⟨rfl, trivial⟩ ?_
  exact ⟨_, rfl, rfl, hw1⟩
set_option maxHeartbeats 4000000 in
theorem g_nums0 {w : World} {g wn wc ic nc : Nat} {WA IA NA : Option Addr} (hB : Bk w g 68 [.slice WA wn wc, .slice IA 0 ic, .slice NA 0 nc]) :
    Calls Tryd.prog 77 #[.pointer (some ⟨g, 0, none⟩)] w (Gv w (Is (.bool true))) := by
  refine sx_enter Tryd.func77 rfl (n := 133) rfl (Nat.le_of_ble_eq_true rfl) (args := [.pointer (some ⟨g, 0, none⟩)]) ?_
  refine cw_keep [(0, .pointer (some ⟨g, 0, none⟩))] ⟨rfl, trivial⟩ ?_
  refine cw_seq ?_
  refine cw_region ?_
  refine wl_assign rfl rfl (by decide) ?_
  refine wl_nil ?_
  refine eo_then ?_
  refine cw_seq ?_
  refine cw_seq ?_
  refine cw_region ?_
  refine wl_assign rfl rfl (by decide) ?_
  refine wl_nil ?_
  refine eo_then ?_
  refine cw_block ?_
  refine cw_loop (T := World × Nat)
    (fun ⟨wr, i⟩ => [(0, .pointer (some ⟨g, 0, none⟩)), (3, .int .i64 ((i : Nat) : Int))])
    (fun ⟨wr, i⟩ => wr)
    (fun ⟨wr, i⟩ => (Ext w wr) ∧ (Bk wr g 68 [.slice WA wn wc, .slice IA 0 ic, .slice NA 0 nc]))
    (fun ⟨wr, i⟩ => i)
    (⟨w, 0⟩ : World × Nat) ⟨(Ext.refl w), hB⟩ rfl ⟨rfl, rfl, trivial⟩ ?_
  rintro ⟨wr, i⟩ ⟨hw1, hB⟩
  refine cw_re [(0, .pointer (some ⟨g, 0, none⟩)), (3, .int .i64 ((i : Nat) : Int))] wr rfl ⟨rfl, rfl, trivial⟩ ?_
  refine cw_seq ?_
  refine cw_seq ?_
  refine cw_region ?_
  refine wl_move rfl rfl (by decide) ?_
  refine wl_move rfl rfl (by decide) ?_
  refine wl_pure rfl rfl (v := .pointer (some ⟨g, 0, none⟩)) (by decide) (by kernel_rfl) ?_
  refine wl_pure rfl rfl (v := .pointer (some ⟨g, 2, none⟩)) (by decide) (by kernel_rfl) ?_
  refine wl_load rfl rfl (load_cell (fun _ => by kernel_rfl) hB rfl) (by decide) ?_
  refine wl_pure rfl rfl (v := .int .i64 0) (by decide) (by kernel_rfl) ?_
  refine wl_cmp rfl rfl rfl false (cb_lt_f (a := i) (b := 0) rfl rfl (by omega)) (by decide) ?_
  refine wl_nil ?_
  refine eo_then ?_
  refine cw_false rfl ?_
  refine cw_exit ?_
  refine eo_thenX ?_
  refine eo_loopX ?_
  refine eo_block_here ?_
  refine eo_then ?_
  refine cw_seq ?_
  refine cw_region ?_
  refine wl_move rfl rfl (by decide) ?_
  refine wl_pure rfl rfl (v := .pointer (some ⟨g, 0, none⟩)) (by decide) (by kernel_rfl) ?_
  refine wl_pure rfl rfl (v := .pointer (some ⟨g, 2, none⟩)) (by decide) (by kernel_rfl) ?_
  refine wl_load rfl rfl (load_cell (fun _ => by kernel_rfl) hB rfl) (by decide) ?_
  refine wl_pure rfl rfl (v := .int .i64 0) (by decide) (by kernel_rfl) ?_
  refine wl_make rfl (k := 0) rfl rfl rfl Tryd.underlying66 info_nl2 rfl (by decide) (by omega) (by decide) fun g1 v2 hg3 hb4 e5 => ?_
  have ge6 : w.heap.size ≤ g1 := by rw [← hg3]; exact hw1.size
  clear hg3
  have hw2 : Ext w v2 := hw1.trans e5
  refine wl_assign rfl rfl (by decide) ?_
  refine wl_nil ?_
  refine eo_then ?_
  refine cw_seq ?_
  refine cw_seq ?_
  refine cw_region ?_
  refine wl_assign rfl rfl (by decide) ?_
  refine wl_nil ?_
  refine eo_then ?_
  refine cw_block ?_
  refine cw_loop (T := World × Nat)
    (fun ⟨wr, i⟩ => [(0, .pointer (some ⟨g, 0, none⟩)), (6, .slice (some ⟨g1, 0, none⟩) 0 0), (7, .int .i64 ((i : Nat) : Int))])
    (fun ⟨wr, i⟩ => wr)
    (fun ⟨wr, i⟩ => (Ext w wr) ∧ (Bk wr g 68 [.slice WA wn wc, .slice IA 0 ic, .slice NA 0 nc]))
    (fun ⟨wr, i⟩ => i)
    (⟨v2, 0⟩ : World × Nat) ⟨hw2, (hB.ext e5)⟩ rfl ⟨rfl, rfl, rfl, trivial⟩ ?_
  rintro ⟨wr, i⟩ ⟨hw1, hB⟩
  refine cw_re [(0, .pointer (some ⟨g, 0, none⟩)), (6, .slice (some ⟨g1, 0, none⟩) 0 0), (7, .int .i64 ((i : Nat) : Int))] wr rfl ⟨rfl, rfl, rfl, trivial⟩ ?_
  refine cw_seq ?_
  refine cw_seq ?_
  refine cw_region ?_
  refine wl_move rfl rfl (by decide) ?_
  refine wl_move rfl rfl (by decide) ?_
  refine wl_pure rfl rfl (v := .pointer (some ⟨g, 0, none⟩)) (by decide) (by kernel_rfl) ?_
  refine wl_pure rfl rfl (v := .pointer (some ⟨g, 2, none⟩)) (by decide) (by kernel_rfl) ?_
  refine wl_load rfl rfl (load_cell (fun _ => by kernel_rfl) hB rfl) (by decide) ?_
  refine wl_pure rfl rfl (v := .int .i64 0) (by decide) (by kernel_rfl) ?_
  refine wl_cmp rfl rfl rfl false (cb_lt_f (a := i) (b := 0) rfl rfl (by omega)) (by decide) ?_
  refine wl_nil ?_
  refine eo_then ?_
  refine cw_false rfl ?_
  refine cw_exit ?_
  refine eo_thenX ?_
  refine eo_loopX ?_
  refine eo_block_here ?_
  refine eo_then ?_
  refine cw_seq ?_
  refine cw_seq ?_
  refine cw_region ?_
  refine wl_assign rfl rfl (by decide) ?_
  refine wl_nil ?_
  refine eo_then ?_
  refine cw_block ?_
  refine cw_loop (T := World × Nat)
    (fun ⟨wr, i⟩ => [(0, .pointer (some ⟨g, 0, none⟩)), (6, .slice (some ⟨g1, 0, none⟩) 0 0), (10, .int .i64 ((i : Nat) : Int))])
    (fun ⟨wr, i⟩ => wr)
    (fun ⟨wr, i⟩ => (Ext w wr) ∧ (Bk wr g 68 [.slice WA wn wc, .slice IA 0 ic, .slice NA 0 nc]))
    (fun ⟨wr, i⟩ => i)
    (⟨wr, 0⟩ : World × Nat) ⟨hw1, hB⟩ rfl ⟨rfl, rfl, rfl, trivial⟩ ?_
  rintro ⟨wr, i⟩ ⟨hw1, hB⟩
  refine cw_re [(0, .pointer (some ⟨g, 0, none⟩)), (6, .slice (some ⟨g1, 0, none⟩) 0 0), (10, .int .i64 ((i : Nat) : Int))] wr rfl ⟨rfl, rfl, rfl, trivial⟩ ?_
  refine cw_seq ?_
  refine cw_seq ?_
  refine cw_region ?_
  refine wl_move rfl rfl (by decide) ?_
  refine wl_move rfl rfl (by decide) ?_
  refine wl_pure rfl rfl (v := .pointer (some ⟨g, 0, none⟩)) (by decide) (by kernel_rfl) ?_
  refine wl_pure rfl rfl (v := .pointer (some ⟨g, 2, none⟩)) (by decide) (by kernel_rfl) ?_
  refine wl_load rfl rfl (load_cell (fun _ => by kernel_rfl) hB rfl) (by decide) ?_
  refine wl_pure rfl rfl (v := .int .i64 0) (by decide) (by kernel_rfl) ?_
  refine wl_cmp rfl rfl rfl false (cb_lt_f (a := i) (b := 0) rfl rfl (by omega)) (by decide) ?_
  refine wl_nil ?_
  refine eo_then ?_
  refine cw_false rfl ?_
  refine cw_exit ?_
  refine eo_thenX ?_
  refine eo_loopX ?_
  refine eo_block_here ?_
  refine eo_then ?_
  refine cw_seq ?_
  refine cw_region ?_
  refine wl_assign rfl rfl (by decide) ?_
  refine wl_nil ?_
  refine eo_then ?_
  refine cw_ret ?_
  refine eo_ret [.bool true] rfl ⟨rfl, trivial⟩ ?_
  exact ⟨_, rfl, rfl, hw1⟩
set_option maxHeartbeats 4000000 in
theorem g_Apart {w : World} {g lb lw : Nat} {WA IA NA : Option Addr} {wc ic nc : Nat} {ls : List Lst} (hB : Bk w g 68 [.slice WA ls.length wc, .slice IA 0 ic, .slice NA 0 nc]) (hW : Own w lw 22 1 WA ls.length wc (ls.map Lst.v)) (hal : Al0 w lb ls) (hlb : lb ≤ w.heap.size) (hN : ls.length ≤ 1048576) (hln : ∀ a, (ls.getD a Lst.z).n ≤ 1099511620000) :
    Calls Tryd.prog 48 #[.pointer (some ⟨g, 0, none⟩)] w (fun e w' => e = .returned (.bool true) ∧ UpU lb w w') := by
  refine sx_enter Tryd.func48 rfl (n := 19) rfl (Nat.le_of_ble_eq_true rfl) (args := [.pointer (some ⟨g, 0, none⟩)]) ?_
  refine cw_keep [(0, .pointer (some ⟨g, 0, none⟩))] ⟨rfl, trivial⟩ ?_
  refine cw_seq ?_
  refine cw_region ?_
  refine wl_assign rfl rfl (by decide) ?_
  refine wl_nil ?_
  refine eo_then ?_
  refine cw_seq ?_
  refine cw_region ?_
  refine wl_move rfl rfl (by decide) ?_
  refine wl_call rfl rfl (vs := [.pointer (some ⟨g, 0, none⟩)]) (by kernel_rfl) (by decide) (g_words hB hW hal hlb hN hln) ?_
  rintro _ v1 ⟨rfl, uu2⟩
  refine ret_intro ?_
  have hw1 : UpU lb w v1 := (UpU.refl lb w).trans uu2
  refine wl_assign rfl rfl (by decide) ?_
  refine wl_nil ?_
  refine eo_then ?_
  refine cw_seq ?_
  refine cw_region ?_
  refine wl_move rfl rfl (by decide) ?_
  refine wl_call rfl rfl (vs := [.pointer (some ⟨g, 0, none⟩)]) (by kernel_rfl) (by decide) (g_ints0 (uu2.bk hB (by decide))) ?_
  rintro _ v3 ⟨xr5, rfl, r5, e4⟩
  refine ret_intro ?_
  have hw2 : UpU lb w v3 := hw1.then_ext e4
  obtain rfl := r5
  refine wl_assign rfl rfl (by decide) ?_
  refine wl_nil ?_
  refine eo_then ?_
  refine cw_seq ?_
  refine cw_region ?_
  refine wl_move rfl rfl (by decide) ?_
  refine wl_call rfl rfl (vs := [.pointer (some ⟨g, 0, none⟩)]) (by kernel_rfl) (by decide) (g_nums0 ((uu2.bk hB (by decide)).ext e4)) ?_
  rintro _ v6 ⟨xr8, rfl, r8, e7⟩
  refine ret_intro ?_
  have hw3 : UpU lb w v6 := hw2.then_ext e7
  obtain rfl := r8
  refine wl_assign rfl rfl (by decide) ?_
  refine wl_nil ?_
  refine eo_then ?_
  refine cw_seq ?_
  refine cw_region ?_
  refine wl_move rfl rfl (by decide) ?_
  refine wl_move rfl rfl (by decide) ?_
  refine wl_move rfl rfl (by decide) ?_
  refine wl_pure rfl rfl (v := .bool true) (by decide) (by kernel_rfl) ?_
  refine wl_move rfl rfl (by decide) ?_
  refine wl_move rfl rfl (by decide) ?_
  refine wl_pure rfl rfl (v := .bool true) (by decide) (by kernel_rfl) ?_
  refine wl_assign rfl rfl (by decide) ?_
  refine wl_nil ?_
  refine eo_then ?_
  refine cw_ret ?_
  refine eo_ret [.bool true] rfl ⟨rfl, trivial⟩ ?_
  exact ⟨rfl, hw3⟩
end Go.Proofs.YtmjdmjflgiicaaaDoor
