/- Parts Lg6, Upto, Frac, Law8, Zl, UptoZ, UptoA, Sxk, Bit, Pow6, Law6p, joined. -/
import Derived.Test.YtmaconeeonkdgaaP4
import Derived.Test.YtmaconeeonkdgaaRows
import Derived.WalkKit
import Derived.ProofKit
import Derived.OpenShut
import Derived.JoinedCond
import Derived.ChangeSame
import Derived.ChangeSlices
import Derived.Deep.Slices
import Derived.DataShut
import Derived.WalkSmall

namespace Go.Proofs.Ytmaconeeonkdgaa
open Go.RowKit
theorem ln_w64 {x : Nat} (h : x ≤ 18446744073709551615) : ln ((x : Nat) : Int) ≤ 1 := ln_w1 (by omega) (by omega)
theorem ZO.zr {b x : Nat} (hx : x ≤ 18446744073709551615) (h0 : x ≠ 0) (v : Value) (w : World) (h : ZO b x v w) : ZR b (x : Int) v w := by
  obtain ⟨A, rfl, ho⟩ := h
  exact ⟨_, _, _, _, rfl, Zr_nat (len1 hx h0) (own1_wd ho hx h0)⟩
theorem ZO.imp {b b' x : Nat} (hb : b ≤ b') (v : Value) (w : World) (h : ZO b' x v w) : ZO b x v w := by
  obtain ⟨A, rfl, ho⟩ := h
  exact ⟨A, rfl, ho.mono hb⟩
theorem g_same {w : World} {b b' : Nat} {A B : Option Addr} {n c m d k : Nat} (hx : Own w b 47 1 A n c ((wd k).map W64)) (hl : n ≤ 1099511627776) (hy : Own w b' 47 1 B m d ((wd k).map W64)) (hl' : m ≤ 1099511627776) :
    Calls Try.prog 58 #[.slice A n c, .slice B m d] w (Gv w (Is (.bool true))) := by
  have h := ref1_Same (hx.rd (Wf_wd _)) hl (hy.rd (Wf_wd _)) hl'
  rw [decide_eq_true rfl] at h
  exact h.mono gbool
theorem cmp3_lt_t {x y : Nat} (h : x < y) : cmpB .lss (cmp3 x y) 0 = some true := lt_t (cmp3_neg.2 h)
theorem wd_topI {x : Int} (h : x ≠ 0) : (wd x.natAbs).getD (ln x - 1) 0 ≠ 0 := by
  have h1 := db_top (b := WB) (by decide) x.natAbs
  rw [← wd_db] at h1
  have h2 : (wd x.natAbs).length ≠ 0 := fun e => h (ln_eq_zero e)
  rcases h1 with h1 | h1
  · exact absurd h1 h2
  · exact h1
theorem wakes_nums {u v : Int} (h : Bez 12 18 u v) : (Int.gcd 12 18 : Int) = 6 ∧ u = 2 ∧ v = -1 := by
  have h1 := h.eq
  have h2 := h.lo (by decide)
  have h3 := h.hi (by decide)
  have e : (Int.gcd 12 18 : Int) = 6 := by decide +kernel
  rw [e] at h1 h3
  have e2 : Int.natAbs 18 = 18 := rfl
  rw [e2] at h3
  refine ⟨e, ?_, ?_⟩ <;> omega
set_option maxHeartbeats 4000000 in
theorem g_law6_ofI {w : World} {x : Nat} (hx : x ≤ 18446744073709551615)  :
    Calls Try.prog 29 #[.int .u64 ((x : Nat) : Int)] w (Gv w (ZO w.heap.size (x))) := by
  refine sx_enter Try.func29 rfl (n := 6) rfl (Nat.le_of_ble_eq_true rfl) (args := [.int .u64 ((x : Nat) : Int)]) ?_
  refine cw_keep [(0, .int .u64 ((x : Nat) : Int))] ⟨rfl, trivial⟩ ?_
  refine cw_seq ?_
  refine cw_region ?_
  refine wl_alloc rfl (z := .agg #[.bool false, .slice none 0 0]) (vs := [.bool false, .slice none 0 0]) (fun _ => by kernel_rfl) rfl (by decide) fun g1 v2 nb => ?_
  have hb4 := nb.bk
  have ge5 : w.heap.size ≤ g1 := by rw [← nb.at_]; exact (Ext.refl w).size
  have e3 := nb.ext
  clear nb
  have hw1 : Ext w v2 := (Ext.refl w).trans e3
  refine wl_nil ?_
  refine eo_then ?_
  refine cw_seq ?_
  refine cw_region ?_
  refine wl_move rfl rfl (by decide) ?_
  refine wl_bslice rfl rfl (by decide) (k := 1) (e := 47) [.int .u64 ((x : Nat) : Int)] (fun _ => by kernel_rfl) fun g6 v7 nb8 => ?_
  have o9 := O1.mk_ (x := x) (b := w.heap.size) nb8 hw1.size
  have e10 := nb8.ext
  have hw2 : Ext w v7 := hw1.trans e10
  refine wl_pure rfl rfl (v := .agg #[.bool false, .slice (some ⟨g6, 0, none⟩) 1 1]) (by decide) (by kernel_rfl) ?_
  have hb14 := (hb4.ext e10)
  refine wl_stored rfl rfl rfl aggInt rfl hb14 (Nat.le_of_ble_eq_true rfl) rfl [.bool false, .slice (some ⟨g6, 0, none⟩) 1 1] rfl fun v13 hb15 u16 hs17 => ?_
  have hw3 : Ext w v13 := u16.ext hw2 ge5
  refine wl_nil ?_
  refine eo_then ?_
  refine cw_ret ?_
  refine eo_ret [.agg #[.bool false, .slice (some ⟨g6, 0, none⟩) 1 1]] rfl ⟨⟨_, rfl, load_agg aggInt hb15 [.bool false, .slice (some ⟨g6, 0, none⟩) 1 1] rfl (Nat.le_of_ble_eq_true rfl) rfl⟩, trivial⟩ ?_
  exact ⟨_, rfl, ⟨_, rfl, (o9.updT hb14 (by decide) u16)⟩, hw3⟩
theorem g_law6_of {w : World} {x : Nat} {b : Nat} (hb : b ≤ w.heap.size)  (hx : x ≤ 18446744073709551615)  :
    Calls Try.prog 29 #[.int .u64 ((x : Nat) : Int)] w (Gv w (ZO b (x))) := (g_law6_ofI hx).mono (Gv.imp (ZO.imp hb))
set_option maxHeartbeats 4000000 in
theorem g_law6_alike {w : World} {b1 b2 : Nat} {sa sb : Bool} {Aa Ab : Option Addr} {na ca nb cb : Nat} {x : Int} (ha : Zr w b1 sa Aa na ca x) (la : na ≤ 1099511627776) (hb : Zr w b2 sb Ab nb cb x) (lb : nb ≤ 1099511627776)  :
    Calls Try.prog 31 #[.agg #[.bool sa, .slice Aa na ca], .agg #[.bool sb, .slice Ab nb cb]] w (Gv w (Is (.bool true))) := by
  refine sx_enter Try.func31 rfl (n := 19) rfl (Nat.le_of_ble_eq_true rfl) (args := [.agg #[.bool sa, .slice Aa na ca], .agg #[.bool sb, .slice Ab nb cb]]) ?_
  refine cw_keep [(0, .agg #[.bool sa, .slice Aa na ca]), (1, .agg #[.bool sb, .slice Ab nb cb])] ⟨rfl, rfl, trivial⟩ ?_
  refine cw_seq ?_
  refine cw_region ?_
  refine wl_box rfl rfl (vs := [.bool sa, .slice Aa na ca]) rfl (by decide) fun g1 v2 nb => ?_
  have hb4 := nb.bk
  have ge5 : w.heap.size ≤ g1 := by rw [← nb.at_]; exact (Ext.refl w).size
  have e3 := nb.ext
  clear nb
  have hw1 : Ext w v2 := (Ext.refl w).trans e3
  refine wl_box rfl rfl (vs := [.bool sb, .slice Ab nb cb]) rfl (by decide) fun g6 v7 nb => ?_
  have hb9 := nb.bk
  have ge10 : w.heap.size ≤ g6 := by rw [← nb.at_]; exact hw1.size
  have q11 : g1 < g6 := by rw [← nb.at_]; exact hb4.lt
  have e8 := nb.ext
  clear nb
  have hw2 : Ext w v7 := hw1.trans e8
  refine wl_assign rfl rfl (by decide) ?_
  refine wl_nil ?_
  refine eo_then ?_
  refine cw_seq ?_
  refine cw_region ?_
  refine wl_pure rfl rfl (v := .pointer (some ⟨g1, 1, none⟩)) (by decide) (by kernel_rfl) ?_
  refine wl_load rfl rfl (load_cell cellWords (hb4.ext e8) rfl) (by decide) ?_
  refine wl_pure rfl rfl (v := .pointer (some ⟨g6, 1, none⟩)) (by decide) (by kernel_rfl) ?_
  refine wl_load rfl rfl (load_cell cellWords hb9 rfl) (by decide) ?_
  refine wl_call rfl rfl (vs := [.slice Aa na ca, .slice Ab nb cb]) (by kernel_rfl) (by decide) (g_same (ha.ext (e3.trans e8)).own la (hb.ext (e3.trans e8)).own lb) ?_
  rintro _ v12 ⟨xr14, rfl, r14, e13⟩
  refine ret_intro ?_
  have hw3 : Ext w v12 := hw2.trans e13
  obtain rfl := r14
  refine wl_assign rfl rfl (by decide) ?_
  refine wl_nil ?_
  refine eo_then ?_
  refine cw_seq ?_
  refine cw_region ?_
  refine wl_move rfl rfl (by decide) ?_
  refine wl_move rfl rfl (by decide) ?_
  refine wl_pure rfl rfl (v := .pointer (some ⟨g1, 0, none⟩)) (by decide) (by kernel_rfl) ?_
  refine wl_load rfl rfl (load_cell cellBool (hb4.ext (e8.trans e13)) rfl) (by decide) ?_
  refine wl_pure rfl rfl (v := .pointer (some ⟨g6, 0, none⟩)) (by decide) (by kernel_rfl) ?_
  refine wl_load rfl rfl (load_cell cellBool (hb9.ext e13) rfl) (by decide) ?_
  refine wl_pure rfl rfl (v := .bool (sa == sb)) (by decide) (by kernel_rfl) ?_
  refine wl_pure rfl rfl (v := .bool (sa == sb)) (by decide) (by kernel_rfl) ?_
  refine wl_assign rfl rfl (by decide) ?_
  refine wl_nil ?_
  refine eo_then ?_
  refine cw_ret ?_
  refine eo_ret [.bool (sa == sb)] rfl ⟨rfl, trivial⟩ ?_
  exact ⟨_, rfl, (show Value.bool (sa == sb) = .bool true by rw [ha.sgn, hb.sgn, beq_self_eq_true]), hw3⟩
set_option maxHeartbeats 4000000 in
theorem g_law6_least {w : World} {b1 : Nat} {sa : Bool} {Aa : Option Addr} {na ca : Nat} {x : Int} (ha : Zr w b1 sa Aa na ca x)  :
    Calls Try.prog 32 #[.agg #[.bool sa, .slice Aa na ca]] w (Gv w (Is (.bool true))) := by
  refine sx_enter Try.func32 rfl (n := 27) rfl (Nat.le_of_ble_eq_true rfl) (args := [.agg #[.bool sa, .slice Aa na ca]]) ?_
  refine cw_keep [(0, .agg #[.bool sa, .slice Aa na ca])] ⟨rfl, trivial⟩ ?_
  refine cw_seq ?_
  refine cw_region ?_
  refine wl_box rfl rfl (vs := [.bool sa, .slice Aa na ca]) rfl (by decide) fun g1 v2 nb => ?_
  have hb4 := nb.bk
  have ge5 : w.heap.size ≤ g1 := by rw [← nb.at_]; exact (Ext.refl w).size
  have e3 := nb.ext
  clear nb
  have hw1 : Ext w v2 := (Ext.refl w).trans e3
  refine wl_assign rfl rfl (by decide) ?_
  refine wl_nil ?_
  refine eo_then ?_
  refine cw_seq ?_
  have hn := ha.len
  have hle := ha.rd.rv.le
  by_cases hx0 : x = 0
  ·
    have hn0 : na = 0 := by rw [hn, hx0]; rfl
    obtain rfl : sa = false := by rw [ha.sgn, hx0]; rfl
    refine cw_region ?_
    refine wl_pure rfl rfl (v := .pointer (some ⟨g1, 1, none⟩)) (by decide) (by kernel_rfl) ?_
    refine wl_load rfl rfl (load_cell cellWords hb4 rfl) (by decide) ?_
    refine wl_pure rfl rfl (v := .int .i64 ((na : Nat) : Int)) (by decide) (by kernel_rfl) ?_
    refine wl_assign rfl rfl (by decide) ?_
    refine wl_nil ?_
    refine eo_then ?_
    refine cw_seq ?_
    refine cw_region ?_
    refine wl_move rfl rfl (by decide) ?_
    refine wl_cmp rfl rfl rfl true (eq_t (by omega)) (by decide) ?_
    refine wl_move rfl rfl (by decide) ?_
    refine wl_pure rfl rfl (v := .pointer (some ⟨g1, 0, none⟩)) (by decide) (by kernel_rfl) ?_
    refine wl_load rfl rfl (load_cell cellBool hb4 rfl) (by decide) ?_
    refine wl_pure rfl rfl (v := .bool true) (by decide) (by kernel_rfl) ?_
    refine wl_pure rfl rfl (v := .bool true) (by decide) (by kernel_rfl) ?_
    refine wl_move rfl rfl (by decide) ?_
    refine wl_off rfl (by decide) ?_
    refine wl_off rfl (by decide) ?_
    refine wl_off rfl (by decide) ?_
    refine wl_off rfl (by decide) ?_
    refine wl_off rfl (by decide) ?_
    refine wl_off rfl (by decide) ?_
    refine wl_off rfl (by decide) ?_
    refine wl_off rfl (by decide) ?_
    refine wl_off rfl (by decide) ?_
    refine wl_off rfl (by decide) ?_
    refine wl_off rfl (by decide) ?_
    refine wl_pure rfl rfl (v := .bool true) (by decide) (by kernel_rfl) ?_
    refine wl_assign rfl rfl (by decide) ?_
    refine wl_nil ?_
    refine eo_then ?_
    refine cw_ret ?_
    refine eo_ret [.bool true] rfl ⟨rfl, trivial⟩ ?_
    exact ⟨_, rfl, rfl, hw1⟩
  ·
    have hn0 : na ≠ 0 := fun e => hx0 (ln_eq_zero (by rw [← hn, e]))
    have htop := wd_topI hx0
    rw [← hn] at htop
    refine cw_region ?_
    refine wl_pure rfl rfl (v := .pointer (some ⟨g1, 1, none⟩)) (by decide) (by kernel_rfl) ?_
    refine wl_load rfl rfl (load_cell cellWords hb4 rfl) (by decide) ?_
    refine wl_pure rfl rfl (v := .int .i64 ((na : Nat) : Int)) (by decide) (by kernel_rfl) ?_
    refine wl_assign rfl rfl (by decide) ?_
    refine wl_nil ?_
    refine eo_then ?_
    refine cw_seq ?_
    refine cw_region ?_
    refine wl_move rfl rfl (by decide) ?_
    refine wl_cmp rfl rfl rfl false (eq_f (by omega)) (by decide) ?_
    refine wl_move rfl rfl (by decide) ?_
    refine wl_off rfl (by decide) ?_
    refine wl_off rfl (by decide) ?_
    refine wl_off rfl (by decide) ?_
    refine wl_pure rfl rfl (v := .bool false) (by decide) (by kernel_rfl) ?_
    refine wl_move rfl rfl (by decide) ?_
    refine wl_move rfl rfl (by decide) ?_
    refine wl_cmp rfl rfl rfl true (gt_t (by omega)) (by decide) ?_
    refine wl_move rfl rfl (by decide) ?_
    refine wl_pure rfl rfl (v := .pointer (some ⟨g1, 1, none⟩)) (by decide) (by kernel_rfl) ?_
    refine wl_load rfl rfl (load_cell cellWords hb4 rfl) (by decide) ?_
    refine wl_move rfl rfl (by decide) ?_
    refine wl_ar rfl rfl rfl ((na - 1 : Nat) : Int) (ar_i64s (by omega) (by omega) (by have := ha.rd.rv.max; rw [len_maxLen] at this; omega)) (by decide) ?_
    obtain ⟨p9, hp9, hc9, hv9⟩ := (ha.ext e3).rd.at (i := na - 1) (by omega)
    refine wl_idx rfl rfl rfl un_u64 sz_u64 (na - 1) rfl (by omega) p9 hp9 (by decide) ?_
    refine wl_load rfl rfl (load_cell1 ag_u64 hc9) (by decide) ?_
    refine wl_cmp rfl rfl rfl true (ne_t (by omega)) (by decide) ?_
    refine wl_pure rfl rfl (v := .bool true) (by decide) (by kernel_rfl) ?_
    refine wl_pure rfl rfl (v := .bool true) (by decide) (by kernel_rfl) ?_
    refine wl_assign rfl rfl (by decide) ?_
    refine wl_nil ?_
    refine eo_then ?_
    refine cw_ret ?_
    refine eo_ret [.bool true] rfl ⟨rfl, trivial⟩ ?_
    exact ⟨_, rfl, rfl, hw1⟩
set_option maxHeartbeats 4000000 in
theorem g_law6_within {w : World} {sa : Bool} {Aa : Option Addr} {na ca : Nat} {x : Int} {sb : Bool} {Ab : Option Addr} {nb cb : Nat} {y : Int} (hx : Zi w sa Aa na ca x) (la : na ≤ 17179869183) (hy : Zi w sb Ab nb cb y) (lb : nb ≤ 17179869183) (h0 : 0 ≤ x) (h1 : x < y.natAbs) :
    Calls Try.prog 33 #[.agg #[.bool sa, .slice Aa na ca], .agg #[.bool sb, .slice Ab nb cb]] w (Gv w (Is (.bool true))) := by
  have Lx : ln x ≤ 17179869183 := Nat.le_trans hx.ln la
  have Ly : ln y ≤ 17179869183 := Nat.le_trans hy.ln lb
  refine sx_enter Try.func33 rfl (n := 16) rfl (Nat.le_of_ble_eq_true rfl) (args := [.agg #[.bool sa, .slice Aa na ca], .agg #[.bool sb, .slice Ab nb cb]]) ?_
  refine cw_keep [(0, .agg #[.bool sa, .slice Aa na ca]), (1, .agg #[.bool sb, .slice Ab nb cb])] ⟨rfl, rfl, trivial⟩ ?_
  refine cw_seq ?_
  refine cw_region ?_
  refine wl_box rfl rfl (vs := [.bool sa, .slice Aa na ca]) rfl (by decide) fun g1 v2 nb => ?_
  have hb4 := nb.bk
  have ge5 : w.heap.size ≤ g1 := by rw [← nb.at_]; exact (Ext.refl w).size
  have e3 := nb.ext
  clear nb
  have hw1 : Ext w v2 := (Ext.refl w).trans e3
  refine wl_box rfl rfl (vs := [.bool sb, .slice Ab nb cb]) rfl (by decide) fun g6 v7 nb => ?_
  have hb9 := nb.bk
  have ge10 : w.heap.size ≤ g6 := by rw [← nb.at_]; exact hw1.size
  have q11 : g1 < g6 := by rw [← nb.at_]; exact hb4.lt
  have e8 := nb.ext
  clear nb
  have hw2 : Ext w v7 := hw1.trans e8
  refine wl_assign rfl rfl (by decide) ?_
  refine wl_nil ?_
  refine eo_then ?_
  refine cw_seq ?_
  refine cw_region ?_
  refine wl_load rfl rfl (load_agg aggInt (hb4.ext e8) [.bool sa, .slice Aa na ca] rfl (Nat.le_of_ble_eq_true rfl) rfl) (by decide) ?_
  refine wl_call rfl rfl (vs := [.agg #[.bool sa, .slice Aa na ca]]) (by kernel_rfl) (by decide) (g_ref5_Sign (hx.ext hw2) (Nat.le_trans la (by decide))) ?_
  rintro _ v12 ⟨xr14, rfl, r14, e13⟩
  refine ret_intro ?_
  have hw3 : Ext w v12 := hw2.trans e13
  obtain rfl := r14
  refine wl_assign rfl rfl (by decide) ?_
  refine wl_nil ?_
  refine eo_then ?_
  refine cw_seq ?_
  refine cw_region ?_
  refine wl_move rfl rfl (by decide) ?_
  refine wl_cmp rfl rfl rfl true (scmp_ge_t h0) (by decide) ?_
  refine wl_move rfl rfl (by decide) ?_
  refine wl_load rfl rfl (load_agg aggInt (hb4.ext (e8.trans e13)) [.bool sa, .slice Aa na ca] rfl (Nat.le_of_ble_eq_true rfl) rfl) (by decide) ?_
  refine wl_load rfl rfl (load_agg aggInt (hb9.ext e13) [.bool sb, .slice Ab nb cb] rfl (Nat.le_of_ble_eq_true rfl) rfl) (by decide) ?_
  refine wl_call rfl rfl (vs := [.agg #[.bool sa, .slice Aa na ca], .agg #[.bool sb, .slice Ab nb cb]]) (by kernel_rfl) (by decide) (g_ref5_CmpAbs (hx.ext hw3) (Nat.le_trans la (by decide)) (hy.ext hw3) (Nat.le_trans lb (by decide))) ?_
  rintro _ v15 ⟨xr17, rfl, r17, e16⟩
  refine ret_intro ?_
  have hw4 : Ext w v15 := hw3.trans e16
  obtain rfl := r17
  refine wl_cmp rfl rfl rfl true (cmp3_lt_t (by omega)) (by decide) ?_
  refine wl_pure rfl rfl (v := .bool true) (by decide) (by kernel_rfl) ?_
  refine wl_assign rfl rfl (by decide) ?_
  refine wl_nil ?_
  refine eo_then ?_
  refine cw_ret ?_
  refine eo_ret [.bool true] rfl ⟨rfl, trivial⟩ ?_
  exact ⟨_, rfl, rfl, hw4⟩
theorem dvd_mod {x y : Int} : x ∣ y ↔ y.natAbs % x.natAbs = 0 := by rw [← Int.natAbs_dvd_natAbs]; exact Nat.dvd_iff_mod_eq_zero
set_option maxHeartbeats 4000000 in
theorem g_law6_divides {w : World} {sa : Bool} {Aa : Option Addr} {na ca : Nat} {x : Int} {sb : Bool} {Ab : Option Addr} {nb cb : Nat} {y : Int} (hx : Zi w sa Aa na ca x) (la : na ≤ 17179869183) (hy : Zi w sb Ab nb cb y) (lb : nb ≤ 17179869183) (h : x ∣ y) :
    Calls Try.prog 36 #[.agg #[.bool sa, .slice Aa na ca], .agg #[.bool sb, .slice Ab nb cb]] w (Gv w (Is (.bool true))) := by
  have Lx : ln x ≤ 17179869183 := Nat.le_trans hx.ln la
  have Ly : ln y ≤ 17179869183 := Nat.le_trans hy.ln lb
  refine sx_enter Try.func36 rfl (n := 21) rfl (Nat.le_of_ble_eq_true rfl) (args := [.agg #[.bool sa, .slice Aa na ca], .agg #[.bool sb, .slice Ab nb cb]]) ?_
  refine cw_keep [(0, .agg #[.bool sa, .slice Aa na ca]), (1, .agg #[.bool sb, .slice Ab nb cb])] ⟨rfl, rfl, trivial⟩ ?_
  refine cw_seq ?_
  refine cw_region ?_
  refine wl_box rfl rfl (vs := [.bool sa, .slice Aa na ca]) rfl (by decide) fun g1 v2 nb => ?_
  have hb4 := nb.bk
  have ge5 : w.heap.size ≤ g1 := by rw [← nb.at_]; exact (Ext.refl w).size
  have e3 := nb.ext
  clear nb
  have hw1 : Ext w v2 := (Ext.refl w).trans e3
  refine wl_box rfl rfl (vs := [.bool sb, .slice Ab nb cb]) rfl (by decide) fun g6 v7 nb => ?_
  have hb9 := nb.bk
  have ge10 : w.heap.size ≤ g6 := by rw [← nb.at_]; exact hw1.size
  have q11 : g1 < g6 := by rw [← nb.at_]; exact hb4.lt
  have e8 := nb.ext
  clear nb
  have hw2 : Ext w v7 := hw1.trans e8
  refine wl_assign rfl rfl (by decide) ?_
  refine wl_nil ?_
  refine eo_then ?_
  refine cw_seq ?_
  refine cw_seq ?_
  by_cases hx0 : x = 0
  ·
    refine cw_region ?_
    refine wl_load rfl rfl (load_agg aggInt (hb4.ext e8) [.bool sa, .slice Aa na ca] rfl (Nat.le_of_ble_eq_true rfl) rfl) (by decide) ?_
    refine wl_call rfl rfl (vs := [.agg #[.bool sa, .slice Aa na ca]]) (by kernel_rfl) (by decide) (g_ref5_Sign (hx.ext hw2) (Nat.le_trans la (by decide))) ?_
    rintro _ v12 ⟨xr14, rfl, r14, e13⟩
    refine ret_intro ?_
    have hw3 : Ext w v12 := hw2.trans e13
    obtain rfl := r14
    refine wl_cmp rfl rfl rfl true (scmp_eq_t hx0) (by decide) ?_
    refine wl_nil ?_
    refine eo_then ?_
    refine cw_true rfl ?_
    refine cw_seq ?_
    refine cw_region ?_
    refine wl_load rfl rfl (load_agg aggInt (hb9.ext e13) [.bool sb, .slice Ab nb cb] rfl (Nat.le_of_ble_eq_true rfl) rfl) (by decide) ?_
    refine wl_call rfl rfl (vs := [.agg #[.bool sb, .slice Ab nb cb]]) (by kernel_rfl) (by decide) (g_ref5_Sign (hy.ext hw3) (Nat.le_trans lb (by decide))) ?_
    rintro _ v15 ⟨xr17, rfl, r17, e16⟩
    refine ret_intro ?_
    have hw4 : Ext w v15 := hw3.trans e16
    obtain rfl := r17
    refine wl_cmp rfl rfl rfl true (scmp_eq_t (Int.zero_dvd.1 (hx0 ▸ h))) (by decide) ?_
    refine wl_assign rfl rfl (by decide) ?_
    refine wl_nil ?_
    refine eo_then ?_
    refine cw_ret ?_
    refine eo_thenR ?_
    refine eo_ret [.bool true] rfl ⟨rfl, trivial⟩ ?_
    exact ⟨_, rfl, rfl, hw4⟩
  ·
    refine cw_region ?_
    refine wl_load rfl rfl (load_agg aggInt (hb4.ext e8) [.bool sa, .slice Aa na ca] rfl (Nat.le_of_ble_eq_true rfl) rfl) (by decide) ?_
    refine wl_call rfl rfl (vs := [.agg #[.bool sa, .slice Aa na ca]]) (by kernel_rfl) (by decide) (g_ref5_Sign (hx.ext hw2) (Nat.le_trans la (by decide))) ?_
    rintro _ v18 ⟨xr20, rfl, r20, e19⟩
    refine ret_intro ?_
    have hw3 : Ext w v18 := hw2.trans e19
    obtain rfl := r20
    refine wl_cmp rfl rfl rfl false (scmp_eq_f hx0) (by decide) ?_
    refine wl_nil ?_
    refine eo_then ?_
    refine cw_false rfl ?_
    refine cw_skip ?_
    refine eo_then ?_
    refine cw_seq ?_
    refine cw_region ?_
    refine wl_load rfl rfl (load_agg aggInt (hb9.ext e19) [.bool sb, .slice Ab nb cb] rfl (Nat.le_of_ble_eq_true rfl) rfl) (by decide) ?_
    refine wl_load rfl rfl (load_agg aggInt (hb4.ext (e8.trans e19)) [.bool sa, .slice Aa na ca] rfl (Nat.le_of_ble_eq_true rfl) rfl) (by decide) ?_
    have L21 : ln (y.tdiv x) ≤ 17179869183 := Nat.le_trans (ln_tdiv _ _) Ly
    refine wl_call rfl rfl (vs := [.agg #[.bool sb, .slice Ab nb cb], .agg #[.bool sa, .slice Aa na ca]]) (by kernel_rfl) (by decide) (g_ref5_Exact_ok hw3.size (hy.ext hw3) (Nat.le_trans lb (by decide)) (hx.ext hw3) (Nat.le_trans la (by decide)) hx0 (dvd_mod.1 h)) ?_
    rintro _ v22 ⟨xr24, rfl, r24, e23⟩
    refine ret_intro ?_
    have hw4 : Ext w v22 := hw3.trans e23
    obtain ⟨a25_0, a25_1, rfl, r25_0, r25_1⟩ := r24
    obtain ⟨s26, A26, n26, c26, rfl, z26⟩ := r25_0
    obtain rfl := r25_1
    refine wl_move rfl rfl (by decide) ?_
    refine wl_pure rfl rfl (v := .agg #[.bool s26, .slice A26 n26 c26]) (by decide) (by kernel_rfl) ?_
    refine wl_pure rfl rfl (v := .int .i64 0) (by decide) (by kernel_rfl) ?_
    refine wl_alloc rfl (z := .agg #[.bool false, .slice none 0 0]) (vs := [.bool false, .slice none 0 0]) (fun _ => by kernel_rfl) rfl (by decide) fun g27 v28 nb => ?_
    have hb30 := nb.bk
    have ge31 : w.heap.size ≤ g27 := by rw [← nb.at_]; exact hw4.size
    have q32 : g6 < g27 := by rw [← nb.at_]; exact (hb9.ext (e19.trans e23)).lt
    have e29 := nb.ext
    clear nb
    have hw5 : Ext w v28 := hw4.trans e29
    have hb34 := hb30
    refine wl_stored rfl rfl rfl aggInt rfl hb34 (Nat.le_of_ble_eq_true rfl) rfl [.bool s26, .slice A26 n26 c26] rfl fun v33 hb35 u36 hs37 => ?_
    have hw6 : Ext w v33 := u36.ext hw5 ge31
    refine wl_assign rfl rfl (by decide) ?_
    refine wl_nil ?_
    refine eo_then ?_
    refine cw_seq ?_
    refine cw_region ?_
    refine wl_move rfl rfl (by decide) ?_
    refine wl_pure rfl rfl (v := .bool true) (by decide) (by kernel_rfl) ?_
    refine wl_assign rfl rfl (by decide) ?_
    refine wl_nil ?_
    refine eo_then ?_
    refine cw_ret ?_
    refine eo_ret [.bool true] rfl ⟨rfl, trivial⟩ ?_
    exact ⟨_, rfl, rfl, hw6⟩
set_option maxHeartbeats 4000000 in
theorem g_law6_wakes (w : World)  :
    Calls Try.prog 27 #[] w (Gv w (Is (.bool true))) := by
  refine sx_enter Try.func27 rfl (n := 25) rfl (Nat.le_of_ble_eq_true rfl) (args := []) ?_
  refine cw_keep [] trivial ?_
  refine cw_seq ?_
  refine cw_region ?_
  refine wl_assign rfl rfl (by decide) ?_
  refine wl_nil ?_
  refine eo_then ?_
  refine cw_seq ?_
  refine cw_region ?_
  refine wl_call rfl rfl (vs := [.int .u64 12]) (by kernel_rfl) (by decide) ((g_law6_of (Ext.refl w).size (by decide : 12 ≤ 18446744073709551615)).mono (Gv.imp (ZO.zr (by decide : 12 ≤ 18446744073709551615) (by decide : 12 ≠ 0)))) ?_
  rintro _ v1 ⟨xr3, rfl, r3, e2⟩
  refine ret_intro ?_
  have hw1 : Ext w v1 := (Ext.refl w).trans e2
  obtain ⟨s4, A4, n4, c4, rfl, z4⟩ := r3
  refine wl_call rfl rfl (vs := [.int .u64 18]) (by kernel_rfl) (by decide) ((g_law6_of hw1.size (by decide : 18 ≤ 18446744073709551615)).mono (Gv.imp (ZO.zr (by decide : 18 ≤ 18446744073709551615) (by decide : 18 ≠ 0)))) ?_
  rintro _ v5 ⟨xr7, rfl, r7, e6⟩
  refine ret_intro ?_
  have hw2 : Ext w v5 := hw1.trans e6
  obtain ⟨s8, A8, n8, c8, rfl, z8⟩ := r7
  refine wl_call rfl rfl (vs := [.agg #[.bool s4, .slice A4 n4 c4], .agg #[.bool s8, .slice A8 n8 c8]]) (by kernel_rfl) (by decide) (g_bezout_Ext hw2.size (z4.ext e6).zi (z4.le (Nat.le_trans (ln_w64 (by decide : 12 ≤ 18446744073709551615)) (by decide))) z8.zi (z8.le (Nat.le_trans (ln_w64 (by decide : 18 ≤ 18446744073709551615)) (by decide)))) ?_
  rintro _ v9 ⟨u12, v13, p14, xr11, rfl, r11, e10⟩
  have L15 : ln ((Int.gcd ((12 : Nat) : Int) ((18 : Nat) : Int) : Int)) ≤ 1 := Nat.le_trans (ln_gcd _ _) (Nat.max_le.2 ⟨Nat.le_trans (ln_w64 (by decide : 12 ≤ 18446744073709551615)) (by decide), Nat.le_trans (ln_w64 (by decide : 18 ≤ 18446744073709551615)) (by decide)⟩)
  have L16 : ln (u12) ≤ 2 := (p14.ln_u (ln_w64 (by decide : 12 ≤ 18446744073709551615)) (ln_w64 (by decide : 18 ≤ 18446744073709551615)))
  have L17 : ln (v13) ≤ 2 := (p14.ln_v (ln_w64 (by decide : 12 ≤ 18446744073709551615)) (ln_w64 (by decide : 18 ≤ 18446744073709551615)))
  refine ret_intro ?_
  have hw3 : Ext w v9 := hw2.trans e10
  obtain ⟨a18_0, a18_1, a18_2, rfl, r18_0, r18_1, r18_2⟩ := r11
  obtain ⟨s19, A19, n19, c19, rfl, z19⟩ := r18_0
  obtain ⟨s20, A20, n20, c20, rfl, z20⟩ := r18_1
  obtain ⟨s21, A21, n21, c21, rfl, z21⟩ := r18_2
  refine wl_move rfl rfl (by decide) ?_
  refine wl_pure rfl rfl (v := .agg #[.bool s19, .slice A19 n19 c19]) (by decide) (by kernel_rfl) ?_
  refine wl_pure rfl rfl (v := .agg #[.bool s20, .slice A20 n20 c20]) (by decide) (by kernel_rfl) ?_
  refine wl_pure rfl rfl (v := .agg #[.bool s21, .slice A21 n21 c21]) (by decide) (by kernel_rfl) ?_
  refine wl_alloc rfl (z := .agg #[.bool false, .slice none 0 0]) (vs := [.bool false, .slice none 0 0]) (fun _ => by kernel_rfl) rfl (by decide) fun g22 v23 nb => ?_
  have hb25 := nb.bk
  have ge26 : w.heap.size ≤ g22 := by rw [← nb.at_]; exact hw3.size
  have e24 := nb.ext
  clear nb
  have hw4 : Ext w v23 := hw3.trans e24
  refine wl_alloc rfl (z := .agg #[.bool false, .slice none 0 0]) (vs := [.bool false, .slice none 0 0]) (fun _ => by kernel_rfl) rfl (by decide) fun g27 v28 nb => ?_
  have hb30 := nb.bk
  have ge31 : w.heap.size ≤ g27 := by rw [← nb.at_]; exact hw4.size
  have q32 : g22 < g27 := by rw [← nb.at_]; exact hb25.lt
  have e29 := nb.ext
  clear nb
  have hw5 : Ext w v28 := hw4.trans e29
  refine wl_alloc rfl (z := .agg #[.bool false, .slice none 0 0]) (vs := [.bool false, .slice none 0 0]) (fun _ => by kernel_rfl) rfl (by decide) fun g33 v34 nb => ?_
  have hb36 := nb.bk
  have ge37 : w.heap.size ≤ g33 := by rw [← nb.at_]; exact hw5.size
  have q38 : g27 < g33 := by rw [← nb.at_]; exact hb30.lt
  have e35 := nb.ext
  clear nb
  have hw6 : Ext w v34 := hw5.trans e35
  have hb40 := (hb25.ext (e29.trans e35))
  refine wl_stored rfl rfl rfl aggInt rfl hb40 (Nat.le_of_ble_eq_true rfl) rfl [.bool s19, .slice A19 n19 c19] rfl fun v39 hb41 u42 hs43 => ?_
  have hw7 : Ext w v39 := u42.ext hw6 ge26
  have hb45 := ((hb30.ext e35).updN u42 (by omega))
  refine wl_stored rfl rfl rfl aggInt rfl hb45 (Nat.le_of_ble_eq_true rfl) rfl [.bool s20, .slice A20 n20 c20] rfl fun v44 hb46 u47 hs48 => ?_
  have hw8 : Ext w v44 := u47.ext hw7 ge31
  have hb50 := ((hb36.updN u42 (by omega)).updN u47 (by omega))
  refine wl_stored rfl rfl rfl aggInt rfl hb50 (Nat.le_of_ble_eq_true rfl) rfl [.bool s21, .slice A21 n21 c21] rfl fun v49 hb51 u52 hs53 => ?_
  have hw9 : Ext w v49 := u52.ext hw8 ge37
  refine wl_nil ?_
  refine eo_then ?_
  refine cw_seq ?_
  obtain ⟨wk1, wk2, wk3⟩ := wakes_nums p14
  refine cw_draw mix 14 [] [Is (.agg #[.bool s19, .slice A19 n19 c19]), ZR w.heap.size (((6 : Nat) : Int)), Is (.bool true), Is (.bool true), Is (.agg #[.bool s20, .slice A20 n20 c20]), ZR w.heap.size (((2 : Nat) : Int)), Is (.bool true), Is (.bool true), Is (.bool true), Is (.agg #[.bool s21, .slice A21 n21 c21]), WR w.heap.size (1), ZR w.heap.size (-((1 : Nat) : Int)), Is (.bool true), Is (.bool true)] [[], [], [0, 1], [2], [3], [3], [3, 4, 5], [3, 6], [7], [8], [8], [8, 10], [8, 9, 11], [8, 12]] [[], [], [0, 1], [0, 1, 2], [0, 1, 2, 3], [0, 1, 2, 3], [0, 1, 2, 3, 4, 5], [0, 1, 2, 3, 4, 5, 6], [0, 1, 2, 3, 4, 5, 6, 7], [0, 1, 2, 3, 4, 5, 6, 7, 8], [0, 1, 2, 3, 4, 5, 6, 7, 8], [0, 1, 2, 3, 4, 5, 6, 7, 8, 10], [0, 1, 2, 3, 4, 5, 6, 7, 8, 9, 10, 11], [0, 1, 2, 3, 4, 5, 6, 7, 8, 9, 10, 11, 12], [0, 1, 2, 3, 4, 5, 6, 7, 8, 9, 10, 11, 12, 13]] rfl
    (obs_cons rfl rfl (hob rfl rfl ?_) (obs_cons rfl rfl (hob rfl rfl ?_) (obs_cons rfl rfl (hob rfl rfl ?_) (obs_cons rfl rfl (hob rfl rfl ?_) (obs_cons rfl rfl (hob rfl rfl ?_) (obs_cons rfl rfl (hob rfl rfl ?_) (obs_cons rfl rfl (hob rfl rfl ?_) (obs_cons rfl rfl (hob rfl rfl ?_) (obs_cons rfl rfl (hob rfl rfl ?_) (obs_cons rfl rfl (hob rfl rfl ?_) (obs_cons rfl rfl (hob rfl rfl ?_) (obs_cons rfl rfl (hob rfl rfl ?_) (obs_cons rfl rfl (hob rfl rfl ?_) (obs_cons rfl rfl (hob rfl rfl ?_) obs_nil)))))))))))))) ?_
  · -- 0
    intro v58 e59
    have hw10 : Ext w v58 := hw9.trans e59
    refine deps_nil ?_
    refine wl_load rfl rfl (load_agg aggInt (((hb41.updN u47 (by omega)).updN u52 (by omega)).ext e59) [.bool s19, .slice A19 n19 c19] rfl (Nat.le_of_ble_eq_true rfl) rfl) (by decide) ?_
    exact pi_done rfl (Ext.refl _) rfl
  · -- 1
    intro v60 e61
    have hw10 : Ext w v60 := hw9.trans e61
    refine deps_nil ?_
    refine wl_call rfl rfl (vs := [.int .u64 6]) (by kernel_rfl) (by decide) ((g_law6_of hw10.size (by decide : 6 ≤ 18446744073709551615)).mono (Gv.imp (ZO.zr (by decide : 6 ≤ 18446744073709551615) (by decide : 6 ≠ 0)))) ?_
    rintro _ v62 ⟨xr64, rfl, r64, e63⟩
    refine ret_intro ?_
    have hw11 : Ext w v62 := hw10.trans e63
    obtain ⟨s65, A65, n65, c65, rfl, z65⟩ := r64
    exact pi_done rfl e63 ⟨_, _, _, _, rfl, z65⟩
  · -- 2
    intro v66 e67
    have hw10 : Ext w v66 := hw9.trans e67
    refine deps_cons rfl rfl fun x68 y69 h70 e71 f72 => ?_
    obtain rfl := h70
    refine deps_cons rfl rfl fun x73 y74 h75 e76 f77 => ?_
    obtain ⟨s78, A78, n78, c78, rfl, z78⟩ := h75
    have z78 := z78.ext f77
    refine deps_nil ?_
    refine wl_call rfl rfl (vs := [.agg #[.bool s19, .slice A19 n19 c19], .agg #[.bool s78, .slice A78 n78 c78]]) (by kernel_rfl) (by decide) (g_law6_alike (((((z19.ext (e24.trans (e29.trans e35))).updT hb40 u42).updT hb45 u47).updT hb50 u52).ext e67) (z19.le (Nat.le_trans L15 (by decide))) (z78.cast (by first | exact wk1.symm | exact wk2.symm | exact wk3.symm)) (z78.le (Nat.le_trans (ln_w64 (by decide : 6 ≤ 18446744073709551615)) (by decide)))) ?_
    rintro _ v79 ⟨xr81, rfl, r81, e80⟩
    refine ret_intro ?_
    have hw11 : Ext w v79 := hw10.trans e80
    obtain rfl := r81
    exact pi_done rfl e80 rfl
  · -- 3
    intro v82 e83
    have hw10 : Ext w v82 := hw9.trans e83
    refine deps_cons rfl rfl fun x84 y85 h86 e87 f88 => ?_
    obtain rfl := h86
    refine deps_nil ?_
    refine wl_move rfl rfl (by decide) ?_
    exact pi_done rfl (Ext.refl _) rfl
  · -- 4
    intro v89 e90
    have hw10 : Ext w v89 := hw9.trans e90
    refine deps_cons rfl rfl fun x91 y92 h93 e94 f95 => ?_
    obtain rfl := h93
    refine deps_nil ?_
    refine wl_load rfl rfl (load_agg aggInt ((hb46.updN u52 (by omega)).ext e90) [.bool s20, .slice A20 n20 c20] rfl (Nat.le_of_ble_eq_true rfl) rfl) (by decide) ?_
    exact pi_done rfl (Ext.refl _) rfl
  · -- 5
    intro v96 e97
    have hw10 : Ext w v96 := hw9.trans e97
    refine deps_cons rfl rfl fun x98 y99 h100 e101 f102 => ?_
    obtain rfl := h100
    refine deps_nil ?_
    refine wl_call rfl rfl (vs := [.int .u64 2]) (by kernel_rfl) (by decide) ((g_law6_of hw10.size (by decide : 2 ≤ 18446744073709551615)).mono (Gv.imp (ZO.zr (by decide : 2 ≤ 18446744073709551615) (by decide : 2 ≠ 0)))) ?_
    rintro _ v103 ⟨xr105, rfl, r105, e104⟩
    refine ret_intro ?_
    have hw11 : Ext w v103 := hw10.trans e104
    obtain ⟨s106, A106, n106, c106, rfl, z106⟩ := r105
    exact pi_done rfl e104 ⟨_, _, _, _, rfl, z106⟩
  · -- 6
    intro v107 e108
    have hw10 : Ext w v107 := hw9.trans e108
    refine deps_cons rfl rfl fun x109 y110 h111 e112 f113 => ?_
    obtain rfl := h111
    refine deps_cons rfl rfl fun x114 y115 h116 e117 f118 => ?_
    obtain rfl := h116
    refine deps_cons rfl rfl fun x119 y120 h121 e122 f123 => ?_
    obtain ⟨s124, A124, n124, c124, rfl, z124⟩ := h121
    have z124 := z124.ext f123
    refine deps_nil ?_
    refine wl_call rfl rfl (vs := [.agg #[.bool s20, .slice A20 n20 c20], .agg #[.bool s124, .slice A124 n124 c124]]) (by kernel_rfl) (by decide) (g_law6_alike (((((z20.ext (e24.trans (e29.trans e35))).updT hb40 u42).updT hb45 u47).updT hb50 u52).ext e108) (z20.le (Nat.le_trans L16 (by decide))) (z124.cast (by first | exact wk1.symm | exact wk2.symm | exact wk3.symm)) (z124.le (Nat.le_trans (ln_w64 (by decide : 2 ≤ 18446744073709551615)) (by decide)))) ?_
    rintro _ v125 ⟨xr127, rfl, r127, e126⟩
    refine ret_intro ?_
    have hw11 : Ext w v125 := hw10.trans e126
    obtain rfl := r127
    exact pi_done rfl e126 rfl
  · -- 7
    intro v128 e129
    have hw10 : Ext w v128 := hw9.trans e129
    refine deps_cons rfl rfl fun x130 y131 h132 e133 f134 => ?_
    obtain rfl := h132
    refine deps_cons rfl rfl fun x135 y136 h137 e138 f139 => ?_
    obtain rfl := h137
    refine deps_nil ?_
    refine wl_pure rfl rfl (v := .bool true) (by decide) (by kernel_rfl) ?_
    exact pi_done rfl (Ext.refl _) rfl
  · -- 8
    intro v140 e141
    have hw10 : Ext w v140 := hw9.trans e141
    refine deps_cons rfl rfl fun x142 y143 h144 e145 f146 => ?_
    obtain rfl := h144
    refine deps_nil ?_
    refine wl_move rfl rfl (by decide) ?_
    exact pi_done rfl (Ext.refl _) rfl
  · -- 9
    intro v147 e148
    have hw10 : Ext w v147 := hw9.trans e148
    refine deps_cons rfl rfl fun x149 y150 h151 e152 f153 => ?_
    obtain rfl := h151
    refine deps_nil ?_
    refine wl_load rfl rfl (load_agg aggInt (hb51.ext e148) [.bool s21, .slice A21 n21 c21] rfl (Nat.le_of_ble_eq_true rfl) rfl) (by decide) ?_
    exact pi_done rfl (Ext.refl _) rfl
  · -- 10
    intro v154 e155
    have hw10 : Ext w v154 := hw9.trans e155
    refine deps_cons rfl rfl fun x156 y157 h158 e159 f160 => ?_
    obtain rfl := h158
    refine deps_nil ?_
    refine wl_bslice rfl rfl (by decide) (k := 1) (e := 47) [.int .u64 1] (fun _ => by kernel_rfl) fun g161 v162 nb163 => ?_
    have o164 := O1.mk_ (x := 1) (b := w.heap.size) nb163 hw10.size
    have e165 := nb163.ext
    have hw11 : Ext w v162 := hw10.trans e165
    have o167 := own1_wd o164 (by decide : 1 ≤ 18446744073709551615) (by decide : 1 ≠ 0)
    have j166 := len1 (by decide : 1 ≤ 18446744073709551615) (by decide : 1 ≠ 0)
    exact pi_done rfl e165 ⟨_, _, _, rfl, j166, o167⟩
  · -- 11
    intro v168 e169
    have hw10 : Ext w v168 := hw9.trans e169
    refine deps_cons rfl rfl fun x170 y171 h172 e173 f174 => ?_
    obtain rfl := h172
    refine deps_cons rfl rfl fun x175 y176 h177 e178 f179 => ?_
    obtain ⟨A180, n180, c180, rfl, j180, o180⟩ := h177
    have o180 := o180.ext f179
    refine deps_nil ?_
    refine wl_pure rfl rfl (v := .agg #[.bool true, .slice A180 n180 c180]) (by decide) (by kernel_rfl) ?_
    exact pi_done rfl (Ext.refl _) ⟨_, _, _, _, rfl, (Zr_neg (by decide : 1 ≠ 0) j180 o180)⟩
  · -- 12
    intro v181 e182
    have hw10 : Ext w v181 := hw9.trans e182
    refine deps_cons rfl rfl fun x183 y184 h185 e186 f187 => ?_
    obtain rfl := h185
    refine deps_cons rfl rfl fun x188 y189 h190 e191 f192 => ?_
    obtain rfl := h190
    refine deps_cons rfl rfl fun x193 y194 h195 e196 f197 => ?_
    obtain ⟨s198, A198, n198, c198, rfl, z198⟩ := h195
    have z198 := z198.ext f197
    refine deps_nil ?_
    refine wl_call rfl rfl (vs := [.agg #[.bool s21, .slice A21 n21 c21], .agg #[.bool s198, .slice A198 n198 c198]]) (by kernel_rfl) (by decide) (g_law6_alike (((((z21.ext (e24.trans (e29.trans e35))).updT hb40 u42).updT hb45 u47).updT hb50 u52).ext e182) (z21.le (Nat.le_trans L17 (by decide))) (z198.cast (by first | exact wk1.symm | exact wk2.symm | exact wk3.symm)) (z198.le (Nat.le_trans (show ln (-((1 : Nat) : Int)) ≤ 1 by rw [ln_neg, ln_nat]; exact (Nat.le_of_eq (len1 (by decide : 1 ≤ 18446744073709551615) (by decide : 1 ≠ 0)).symm)) (by decide)))) ?_
    rintro _ v199 ⟨xr201, rfl, r201, e200⟩
    refine ret_intro ?_
    have hw11 : Ext w v199 := hw10.trans e200
    obtain rfl := r201
    exact pi_done rfl e200 rfl
  · -- 13
    intro v202 e203
    have hw10 : Ext w v202 := hw9.trans e203
    refine deps_cons rfl rfl fun x204 y205 h206 e207 f208 => ?_
    obtain rfl := h206
    refine deps_cons rfl rfl fun x209 y210 h211 e212 f213 => ?_
    obtain rfl := h211
    refine deps_nil ?_
    refine wl_pure rfl rfl (v := .bool true) (by decide) (by kernel_rfl) ?_
    exact pi_done rfl (Ext.refl _) rfl
  · -- all
    intro v214 e215
    have hw10 : Ext w v214 := hw9.trans e215
    refine deps_cons rfl rfl fun x216 y217 h218 e219 f220 => ?_
    obtain rfl := h218
    refine deps_cons rfl rfl fun x221 y222 h223 e224 f225 => ?_
    obtain ⟨s226, A226, n226, c226, rfl, z226⟩ := h223
    have z226 := z226.ext f225
    refine deps_cons rfl rfl fun x227 y228 h229 e230 f231 => ?_
    obtain rfl := h229
    refine deps_cons rfl rfl fun x232 y233 h234 e235 f236 => ?_
    obtain rfl := h234
    refine deps_cons rfl rfl fun x237 y238 h239 e240 f241 => ?_
    obtain rfl := h239
    refine deps_cons rfl rfl fun x242 y243 h244 e245 f246 => ?_
    obtain ⟨s247, A247, n247, c247, rfl, z247⟩ := h244
    have z247 := z247.ext f246
    refine deps_cons rfl rfl fun x248 y249 h250 e251 f252 => ?_
    obtain rfl := h250
    refine deps_cons rfl rfl fun x253 y254 h255 e256 f257 => ?_
    obtain rfl := h255
    refine deps_cons rfl rfl fun x258 y259 h260 e261 f262 => ?_
    obtain rfl := h260
    refine deps_cons rfl rfl fun x263 y264 h265 e266 f267 => ?_
    obtain rfl := h265
    refine deps_cons rfl rfl fun x268 y269 h270 e271 f272 => ?_
    obtain ⟨A273, n273, c273, rfl, j273, o273⟩ := h270
    have o273 := o273.ext f272
    refine deps_cons rfl rfl fun x274 y275 h276 e277 f278 => ?_
    obtain ⟨s279, A279, n279, c279, rfl, z279⟩ := h276
    have z279 := z279.ext f278
    refine deps_cons rfl rfl fun x280 y281 h282 e283 f284 => ?_
    obtain rfl := h282
    refine deps_cons rfl rfl fun x285 y286 h287 e288 f289 => ?_
    obtain rfl := h287
    refine deps_nil ?_
    refine wl_assign rfl rfl (by decide) ?_
    refine wl_nil ?_
    refine eo_np ?_
    refine eo_then ?_
    refine cw_ret ?_
    refine eo_ret [.bool true] rfl ⟨rfl, trivial⟩ ?_
    exact ⟨_, rfl, rfl, hw10⟩
end Go.Proofs.Ytmaconeeonkdgaa

namespace Go.Proofs.Ytmaconeeonkdgaa
open Go.ChangeShapes Go.WideShapes Go.ChangeAt Go.RowKit
theorem own_knob : ownKnob Try.prog.godebug = none := by kernel_rfl
theorem cells_word : Try.prog.cellsOf 47 = 1 := by kernel_rfl
theorem bulk_one {H : Type} (d : DataW H) : 1 ≤ Rows.uptoBulk d := by
  cases d with
  | lit l => cases l <;> simp [Rows.uptoBulk]
  | nil => simp [Rows.uptoBulk]
  | ptr d => simp [Rows.uptoBulk]
  | slice elems spare => simp [Rows.uptoBulk]
  | agg parts => simp [Rows.uptoBulk]
  | iface t d => simp [Rows.uptoBulk]
  | map entries => simp [Rows.uptoBulk]
  | held h => simp [Rows.uptoBulk]
theorem bulk_len {H : Type} (l : List (DataW H)) : l.length ≤ Rows.uptoBulkAll l := by
  induction l with
  | nil => simp [Rows.uptoBulkAll]
  | cons x r ih => have := bulk_one x; simp only [Rows.uptoBulkAll, List.length_cons]; omega
theorem bulk_slice {H : Type} (elems spare : List (DataW H)) : elems.length + spare.length ≤ Rows.uptoBulk (.slice elems spare) := by
  have h1 := bulk_len elems
  have h2 := bulk_len spare
  simp only [Rows.uptoBulk]
  omega
theorem bulk_bound {H : Type} {l : List (DataW H)} (hk : Rows.uptoSmall H l = true) : Rows.uptoBulkAll l ≤ 1048576 := of_decide_eq_true hk
theorem wf_nat {n : Int} (h : (Lit.int .u64 n).wf = true) : 0 ≤ n ∧ n ≤ 18446744073709551615 := by
  simpa [Lit.wf, IntKind.min, IntKind.max, IntKind.signed, IntKind.bits] using h
theorem post_of_below {H : Type} {enc : TypeId × Value → H} {P : Program} {f : Func} {s : ChangeSpec} {apart fresh handsOn again : Bool} {W W' : World} {args : Array Value} {v : Value} {ds gs : List (DataW H)} {before pa pv : List MemPlace}
    (hW : DataW.Whole enc P f.params.toList s.vars apart W args.toList ds gs before)
    (hres : ∀ (b : Nat) (sp : Nat → Bool) (hd : Bool), DataW.TrodAll enc P W' b sp hd f.resultTypes.toList (v.resultList f.resultTypes.size) (s.fn H (ds ++ gs)).results [])
    (hargs : ∀ sp : Nat → Bool, (∀ p ∈ before, sp p.block = true) → DataW.TrodAll enc P W' 0 sp true f.params.toList args.toList (s.fn H (ds ++ gs)).args pa)
    (hvars : ∀ sp : Nat → Bool, (∀ p ∈ before, sp p.block = true) → DataW.TrodVars enc P W' sp s.vars (s.fn H (ds ++ gs)).vars pv)
    (hps : before = pa ++ pv) (hb : Below W.heap.size W W')
    (hok : ∀ (j : Nat) (t : TypeId) (r : Value), f.resultTypes[j]? = some t → (v.resultList f.resultTypes.size)[j]? = some r → Value.okWide P W' .any 0 t r) :
    s.post enc P f apart fresh handsOn again W args v W' := by
  have hlt : ∀ p ∈ before, p.block < W.heap.size := fun p hp => hW.lt p hp
  have hold : ∀ p ∈ before, (fun b => decide (b < W.heap.size)) p.block = true := fun p hp => by simpa using hlt p hp
  refine ⟨ds, gs, before, [], pa, pv, hW, hres _ _ _, hargs _ hold, hvars _ hold, World.keptBut_mono (fun p hp => ⟨hp, ?_⟩) (hb.frame (· ∈ before)), fun _ => ?_⟩
  · rw [hps, List.mem_append] at hp
    exact Or.inr hp
  · obtain ⟨_, _, _, _, _, hz, hn⟩ := hW
    refine ⟨hok, _, _, ([] ++ pa) ++ pv, ⟨[] ++ pa, pv, trodAll_append (hargs _ (fun _ _ => rfl)) (hres _ _ _), hvars _ (fun _ _ => rfl), rfl, ?_, ?_⟩, ?_⟩
    · intro b off hp
      have hin : MemPlace.cell b off ∈ before := by rw [hps]; simpa using hp
      rw [hb.frozen (hlt _ hin)]
      exact hz b off hin
    · intro ha
      have := hn ha
      rw [hps] at this
      simpa using this
    · intro p hp _
      rw [hps]
      simpa using hp
end Go.Proofs.Ytmaconeeonkdgaa

namespace Go.Proofs.Ytmaconeeonkdgaa
open Go.RowKit
/-- p/q stands for x/y in lowest terms -/
structure Low (p q x y : Int) : Prop where
  pos : 0 < q
  co : Int.gcd p q = 1
  eq : p * y = x * q
  np : p.natAbs ≤ x.natAbs
  nq : q.natAbs ≤ y.natAbs
end Go.Proofs.Ytmaconeeonkdgaa

namespace Go.Proofs.Ytmaconeeonkdgaa
open Go.RowKit
/-- a literal integer of one word -/
theorem Zr.lit (w : World) {s : Bool} {v : Nat} {z : Int} (hv : v ≤ 18446744073709551615) (h0 : v ≠ 0) (hz : z = sg s v) : Zr (w.alloc (.cells #[.int .u64 (v : Int)] 47)) w.heap.size s (some ⟨w.heap.size, 0, none⟩) 1 1 z := by
  have e : z.natAbs = v := by rw [hz, sg_abs]
  have e2 : wd v = [v] := wd_small (by rw [WB_def]; omega) h0
  refine ⟨?_, ?_, ?_⟩
  · rw [hz]
    cases s
    · rw [sg_false]; exact (decide_eq_false (by omega)).symm
    · rw [sg_true]; exact (decide_eq_true (by omega)).symm
  · unfold ln; rw [e, e2]; rfl
  · rw [e, e2]
    exact Own.mk_ (Nat.le_refl _) (Bk.new w 47 [.int .u64 (v : Int)]) (Nat.le_refl _) (by rw [len_maxLen]; omega) rfl rfl
end Go.Proofs.Ytmaconeeonkdgaa

namespace Go.Proofs.Ytmaconeeonkdgaa
open Go.RowKit
/-- a slice of integers: what they are, and how many words each has -/
structure Zl (w : World) (A : Option Addr) (n cap : Nat) (zs : List Int) (ms : List Nat) : Prop where
  len : zs.length = n
  mlen : ms.length = n
  le : n ≤ cap
  max : cap ≤ maxLen
  get : ∀ i, i < n → ∃ a s B c, A = some a ∧ w.cell? (a.add (i * 2)) = some (.bool s) ∧ w.cell? (a.add (i * 2 + 1)) = some (.slice B (ms.getD i 0) c) ∧ Zi w s B (ms.getD i 0) c (zs.getD i 0)
theorem Zl.ext {w w' : World} {A : Option Addr} {n cap : Nat} {zs : List Int} {ms : List Nat} (h : Zl w A n cap zs ms) (e : Ext w w') : Zl w' A n cap zs ms :=
  ⟨h.len, h.mlen, h.le, h.max, fun i hi => by
    obtain ⟨a, s, B, c, h1, h2, h3, h4⟩ := h.get i hi
    exact ⟨a, s, B, c, h1, e.cell h2, e.cell h3, h4.ext e⟩⟩
theorem Zl.take {w : World} {A : Option Addr} {n cap k : Nat} {zs : List Int} {ms : List Nat} (h : Zl w A n cap zs ms) (hk : k ≤ n) : Zl w A k cap (zs.take k) (ms.take k) :=
  ⟨by rw [List.length_take, h.len]; omega, by rw [List.length_take, h.mlen]; omega, Nat.le_trans hk h.le, h.max, fun i hi => by
    obtain ⟨a, s, B, c, h1, h2, h3, h4⟩ := h.get i (by omega)
    have e1 : (ms.take k).getD i 0 = ms.getD i 0 := by simp [List.getD_eq_getElem?_getD, List.getElem?_take, hi]
    have e2 : (zs.take k).getD i 0 = zs.getD i 0 := by simp [List.getD_eq_getElem?_getD, List.getElem?_take, hi]
    rw [e1, e2]
    exact ⟨a, s, B, c, h1, h2, h3, h4⟩⟩
end Go.Proofs.Ytmaconeeonkdgaa

namespace Go.Proofs.Ytmaconeeonkdgaa
open Go.ChangeShapes Go.WideShapes Go.ChangeAt Go.RowKit
theorem cells_int : Try.prog.cellsOf 27 = 2 := by kernel_rfl
theorem cells_words : Try.prog.cellsOf 25 = 1 := by kernel_rfl
theorem cells_bool : Try.prog.cellsOf 4 = 1 := by kernel_rfl
theorem fields_int : ∃ f0 f1 : Field, Try.prog.underlying 27 = some (.struct #[f0, f1]) ∧ f0.type = 4 ∧ f0.offset = 0 ∧ f1.type = 25 ∧ f1.offset = 1 := ⟨_, _, Try.underlying27, rfl, rfl, rfl, rfl⟩
theorem types_int : Try.prog.cellTypes Try.prog.depth 27 = some [4, 25] := by kernel_rfl
set_option maxRecDepth 20000 in
/-- THE CELL OF A LIST OF WORDS, OPENED -/
theorem open_wcell {H : Type} {enc : TypeId × Value → H} {W : World} {v : Value} {d : DataW H} {p : List MemPlace} {fuel : Nat}
    (hf : DataW.trod enc Try.prog W 0 (fun _ => true) true fuel 25 [v] = some (d, p)) :
    ∃ A n cap xs, v = .slice A n cap ∧ Rd W A n cap xs ∧ n ≤ Rows.uptoBulk d ∧
      ∀ W', Ext W W' → ∀ sp : Nat → Bool, (∀ q ∈ p, sp q.block = true) → ∃ fuel', DataW.trod enc Try.prog W' 0 sp true fuel' 25 [v] = some (d, p) := by
  rcases open_ints Try.underlying25 Try.underlying47 cells_word hf with ⟨hcs, hx⟩ | ⟨a, n', cap', zs, hcs, _, hl, hm, hz, hx, hcell, hwf⟩
  · obtain rfl := List.singleton_inj.1 hcs
    simp only [Prod.mk.injEq] at hx
    obtain ⟨rfl, rfl⟩ := hx
    exact ⟨none, 0, 0, [], rfl, Rd.nil W, Nat.zero_le _, fun W' _ sp _ => by obtain ⟨fu, h⟩ := shut_slice_nil (enc := enc) (w := W') (base := 0) (spare := sp) (held := true) Try.underlying25; exact ⟨fu, h⟩⟩
  · obtain rfl := List.singleton_inj.1 hcs
    simp only [Prod.mk.injEq] at hx
    obtain ⟨rfl, rfl⟩ := hx
    simp only [if_true] at hz
    have hblk : 0 < cap' → a.block < W.heap.size := fun hc => World.block_lt_of_cell? W (a.add 0) (hcell 0 (by omega)) |> fun h => by rwa [block_of_add] at h
    have hnn : ∀ z ∈ zs, ((z.toNat : Nat) : Int) = z := fun z hz' => Int.toNat_of_nonneg (wf_nat (hwf z hz')).1
    have hlen : (zs.take n').length = n' := by rw [List.length_take]; omega
    refine ⟨some a, n', cap', (zs.take n').map Int.toNat, rfl, ⟨⟨by simp; omega, hl, hm, fun i hi => ⟨a, rfl, ?_⟩, fun b hb hc => by cases hb; exact hblk hc⟩, ?_⟩, ?_, ?_⟩
    · rw [hcell i (by omega)]
      have hi2 : i < zs.length := by omega
      have hmem : zs[i] ∈ zs := List.getElem_mem hi2
      have e : (((zs.take n').map Int.toNat).map W64).getD i undef = .int .u64 ((zs[i].toNat : Nat) : Int) := by
        simp [List.getD_eq_getElem?_getD, List.getElem?_map, show i < n' by omega, List.getElem?_eq_getElem hi2]
      rw [e, hnn _ hmem]
      simp [List.getD_eq_getElem?_getD, List.getElem?_eq_getElem hi2]
    · intro x hx
      obtain ⟨z, hz1, rfl⟩ := List.mem_map.1 hx
      have := wf_nat (hwf z (List.mem_of_mem_take hz1))
      rw [WB_def]; omega
    · have := bulk_slice (H := H) (lits .u64 (zs.take n')) (lits .u64 (zs.drop n'))
      have e : (lits (H := H) .u64 (zs.take n')).length = n' := by simp [lits]; omega
      omega
    · intro W' he sp hsp
      have hcell' : ∀ i, i < zs.length → W'.cell? (a.add i) = some (.int .u64 (zs.getD i 0)) := fun i hi => he.cell (hcell i hi)
      by_cases hz0 : zs.length = 0
      · have hc0 : cap' = 0 := by omega
        have hl0 : n' = 0 := by omega
        subst hc0; subst hl0
        have t0 := shut_ints (enc := enc) (w := W') (base := 0) (spare := sp) (held := true) (a := a) (len := 0) (cap := 0) (zs := zs) 0 Try.underlying25 Try.underlying47 cells_word (Nat.zero_le _) (Nat.le_refl _) hm (by simp [hz0]) hcell' hwf
        exact ⟨2, t0⟩
      · have hspb : sp a.block = true := hsp (.cell a.block a.off) (MemPlace.mem_row.2 ⟨0, by omega, by simp⟩)
        have t0 := shut_ints (enc := enc) (w := W') (base := 0) (spare := sp) (held := true) (a := a) (len := n') (cap := cap') (zs := zs) 0 Try.underlying25 Try.underlying47 cells_word (Nat.zero_le _) hl hm (by simp [hspb, hz]) hcell' hwf
        exact ⟨2, t0⟩
set_option maxRecDepth 20000 in
/-- THE TWO CELLS OF AN INTEGER, OPENED -/
theorem open_zcells {H : Type} {enc : TypeId × Value → H} {W : World} {c0 c1 : Value} {x : DataW H × List MemPlace} {fuel : Nat}
    (h : DataW.trod enc Try.prog W 0 (fun _ => true) true fuel 27 [c0, c1] = some x) :
    ∃ s A n cap z, c0 = .bool s ∧ c1 = .slice A n cap ∧ Zi W s A n cap z ∧ n + 1 ≤ Rows.uptoBulk x.1 ∧
      ∀ W', Ext W W' → ∀ sp : Nat → Bool, (∀ q ∈ x.2, sp q.block = true) → ∃ fuel', DataW.trod enc Try.prog W' 0 sp true fuel' 27 [c0, c1] = some x := by
  obtain ⟨f0, f1, hu, t0, o0, t1, o1⟩ := fields_int
  obtain ⟨y0, y1, n, rfl, hl, h0, h1⟩ := trod_struct2 hu h
  rw [t0, o0, cells_bool] at h0
  rw [t1, o1, cells_words] at h1
  have e0 : (([c0, c1] : List Value).drop 0).take 1 = [c0] := rfl
  have e1 : (([c0, c1] : List Value).drop 1).take 1 = [c1] := rfl
  rw [e0] at h0
  rw [e1] at h1
  obtain ⟨s, hs, rfl⟩ := DataW.trod_bool Try.underlying4 h0
  obtain rfl : c0 = .bool s := by simpa using hs
  obtain ⟨A, k, cap, xs, rfl, hx, hb, rx⟩ := open_wcell (d := y1.1) (p := y1.2) h1
  refine ⟨s, A, k, cap, _, rfl, rfl, ⟨xs, hx, rfl⟩, ?_, ?_⟩
  · simp only [Rows.uptoBulk, Rows.uptoBulkAll]; omega
  · intro W' he sp hsp
    obtain ⟨fu, hfu⟩ := rx W' he sp (fun q hq => hsp q (by simp [hq]))
    refine ⟨fu + 1 + 1, trod_struct2_mk (y0 := (.lit (.bool s), [])) (y1 := y1) hu hl ?_ ?_⟩
    · rw [t0, o0, cells_bool, e0]
      simp [DataW.trod, Try.underlying4]
    · rw [t1, o1, cells_words, e1]
      exact DataW.trod_le (Nat.le_succ _) hfu
set_option maxRecDepth 20000 in
/-- AN INTEGER, OPENED -/
theorem open_zi {H : Type} {enc : TypeId × Value → H} {W : World} {base : Nat} {v : Value} {d : DataW H} {p : List MemPlace}
    (hval : Value.okWide Try.prog W .any base 27 v) (h : DataW.Trod enc Try.prog W 0 (fun _ => true) true 27 v d p) :
    ∃ s A n cap z, v = .agg #[.bool s, .slice A n cap] ∧ Zi W s A n cap z ∧ n ≤ Rows.uptoBulk d ∧
      ∀ W', Ext W W' → ∀ sp : Nat → Bool, (∀ q ∈ p, sp q.block = true) → DataW.Trod enc Try.prog W' 0 sp true 27 v d p := by
  simp only [Value.okWide, Try.underlying27] at hval
  obtain ⟨cs, rfl, hsz, ts, hts, _, hrow⟩ := hval
  rw [types_int] at hts
  obtain rfl := (Option.some.inj hts).symm
  rw [cells_int] at hsz
  obtain ⟨c0, c1, rfl⟩ : ∃ c0 c1, cs = #[c0, c1] := by
    rcases cs with ⟨l⟩
    match l, hsz with
    | [c0, c1], _ => exact ⟨c0, c1, rfl⟩
  obtain ⟨u, hu, hok⟩ := hrow 1 c1 rfl
  obtain rfl : u = 25 := by simpa using hu.symm
  obtain ⟨fuel, hf⟩ := h
  obtain ⟨s, A, n, cap, z, rfl, rfl, hz, hb, rx⟩ := open_zcells (show DataW.trod enc Try.prog W 0 (fun _ => true) true fuel 27 [c0, c1] = some (d, p) from hf)
  exact ⟨s, A, n, cap, z, rfl, hz, Nat.le_of_succ_le hb, fun W' he sp hsp => rx W' he sp hsp⟩
end Go.Proofs.Ytmaconeeonkdgaa

namespace Go.Proofs.Ytmaconeeonkdgaa
open Go.ChangeShapes Go.WideShapes Go.ChangeAt Go.RowKit
theorem trod_array_mk {H : Type} {enc : TypeId × Value → H} {P : Program} {w : World} {base : Nat} {spare : Nat → Bool} {held : Bool} {t e : TypeId} {k n : Nat} {cs : List Value} {xs : List (DataW H × List MemPlace)} (ht : P.underlying t = some (.array k e)) (hl : cs.length = P.cellsOf t)
    (hp : ((List.range k).mapM fun i => DataW.trod enc P w base spare held n e ((cs.drop (i * P.cellsOf e)).take (P.cellsOf e))) = some xs) :
    DataW.trod enc P w base spare held (n + 1) t cs = some (.agg (xs.map (·.1)), xs.flatMap (·.2)) := by
  unfold DataW.trod
  rw [ht]
  split <;> simp_all
theorem cells_u8 : Try.prog.cellsOf 5 = 1 := by kernel_rfl
theorem cells_u8x2 : Try.prog.cellsOf 44 = 2 := by kernel_rfl
theorem wf_u8 {n : Int} (h : (Lit.int .u8 n).wf = true) : 0 ≤ n ∧ n ≤ 255 := by
  simpa [Lit.wf, IntKind.min, IntKind.max, IntKind.signed, IntKind.bits] using h
set_option maxRecDepth 20000 in
/-- TWO BYTES, OPENED -/
theorem open_u8x2 {H : Type} {enc : TypeId × Value → H} {W : World} {base : Nat} {v : Value} {d : DataW H} {p : List MemPlace}
    (hval : Value.okWide Try.prog W .any base 44 v) (h : DataW.Trod enc Try.prog W 0 (fun _ => true) true 44 v d p) :
    ∃ e f : Nat, v = .agg #[.int .u8 (e : Int), .int .u8 (f : Int)] ∧ e ≤ 255 ∧ f ≤ 255 ∧ p = [] ∧
      ∀ W', ∀ sp : Nat → Bool, DataW.Trod enc Try.prog W' 0 sp true 44 v d p := by
  simp only [Value.okWide, Try.underlying44] at hval
  obtain ⟨cs, rfl, hsz, _⟩ := hval
  rw [cells_u8x2] at hsz
  obtain ⟨c0, c1, rfl⟩ : ∃ c0 c1, cs = #[c0, c1] := by
    rcases cs with ⟨l⟩
    match l, hsz with
    | [c0, c1], _ => exact ⟨c0, c1, rfl⟩
  obtain ⟨fuel, hf⟩ := h
  have hf' : DataW.trod enc Try.prog W 0 (fun _ => true) true fuel 44 [c0, c1] = some (d, p) := hf
  obtain ⟨xs, m, rfl, hx, hl, hlen, hel⟩ := DataW.trod_array Try.underlying44 hf'
  match xs, hlen with
  | [y0, y1], _ =>
    have h0 := hel 0 (by decide)
    have h1 := hel 1 (by decide)
    rw [cells_u8] at h0 h1
    obtain ⟨a, ha, hy0, wa⟩ := DataW.trod_int Try.underlying5 h0
    obtain ⟨b, hb, hy1, wb⟩ := DataW.trod_int Try.underlying5 h1
    obtain rfl : c0 = .int .u8 a := by simpa using ha
    obtain rfl : c1 = .int .u8 b := by simpa using hb
    subst hy0; subst hy1
    obtain ⟨ea, rfl⟩ := Int.eq_ofNat_of_zero_le (wf_u8 wa).1
    obtain ⟨eb, rfl⟩ := Int.eq_ofNat_of_zero_le (wf_u8 wb).1
    simp only [Prod.mk.injEq] at hx
    obtain ⟨rfl, rfl⟩ := hx
    refine ⟨ea, eb, rfl, by have := (wf_u8 wa).2; omega, by have := (wf_u8 wb).2; omega, rfl, fun W' sp => ⟨2, ?_⟩⟩
    refine trod_array_mk (n := 1) (xs := [(.lit (.int .u8 (ea : Int)), []), (.lit (.int .u8 (eb : Int)), [])]) Try.underlying44 hl ?_
    rw [cells_u8]
    simp [List.range_succ, Value.cells, DataW.trod, Try.underlying5, wa, wb]
end Go.Proofs.Ytmaconeeonkdgaa

namespace Go.Proofs.Ytmaconeeonkdgaa
open Go.RowKit
section
variable {P : Program} {Q : Exit → Act → World → Prop} {n : Nat} {l : Fr} {w : World} {ops : Array Oper} {rest : List Oper} {d : Nat} {op : Op} {ty : TypeId} {pos : String} {af : Array Edge} {gd : Option (Nat × Bool)}
def notEq : BinOp → Bool
  | .eql => false
  | .neq => false
  | _ => true
theorem run_op {o : BinOp} {t : TypeId} {x y : Operand} {u v r : Value} (ho : notEq o = true) (hb : (binOp o t u v).run P w = .ok r w) : ((do eqGuard o t x y u v; binOp o t u v) : Sem Value).run P w = .ok r w := by
  cases o <;> first | (cases ho; done) | (simp only [eqGuard, Sem.run_bind, Sem.run_pure, Result.andThen_ok]; exact hb) | (simp [eqGuard, Sem.run_bind, hb])
theorem wl_op {o : BinOp} {t t' : TypeId} {x y : Operand} {u v r : Value} (hw : guardB ops l gd = some true) (hx : evo l x = some u) (hy : evo l y = some v) (ho : notEq o = true) (hb : ∀ w, (binOp o t u v).run P w = .ok r w) (hn : d < n)
    (h : wl P ops Q n rest ((d, r) :: l) w) : wl P ops Q n (⟨some d, .binOp o t x y t', ty, pos, af, gd⟩ :: rest) l w :=
  wl_val hw hn (fun a' ha => by
    have e : ((do eqGuard o t x y (a'.eval x) (a'.eval y); binOp o t (a'.eval x) (a'.eval y)) : Sem Value).run P w = .ok r w := by
      rw [ha.ev hx, ha.ev hy]; exact run_op ho (hb w)
    show ((((do eqGuard o t x y (a'.eval x) (a'.eval y); binOp o t (a'.eval x) (a'.eval y)) : Sem Value) >>= fun r => pure (Next.value r)) : Sem Next).run P w = _
    rw [Sem.run_bind, e]; rfl) h
theorem wl_pureE {v v' : Value} (hw : guardB ops l gd = some true) (hk : known l op = true) (hn : d < n) (hr : (execOp (rho l) ⟨some d, op, ty, pos, af, gd⟩).run P w = .ok (.value v) w) (e : v = v')
    (h : wl P ops Q n rest ((d, v') :: l) w) : wl P ops Q n (⟨some d, op, ty, pos, af, gd⟩ :: rest) l w := wl_pure hw hk hn hr (by rw [e]; exact h)
end
theorem u64_and1 {x : Nat} (hx : x ≤ 18446744073709551615) (P : Program) (t : TypeId) (w : World) : (binOp .and t (.int .u64 (x : Int)) (.int .u64 1)).run P w = .ok (.int .u64 ((x % 2 : Nat) : Int)) w := by
  have e := and_one_u64 (x : Int) (by omega) (by omega)
  have e2 : (binOp .and t (.int .u64 (x : Int)) (.int .u64 1)).run P w = .ok (.int .u64 (bits BinOp.and IntKind.u64 (x : Int) 1)) w := rfl
  rw [e2, e, Int.natCast_emod]; rfl
theorem cv_u64 {x : Nat} (h : x ≤ 18446744073709551615) : Value.int .u64 (IntKind.u64.wrap (x : Int)) = .int .u64 (x : Int) := by rw [IntWalk.u64_in _ ⟨by omega, by omega⟩]
theorem cv_i64 {x : Nat} (h : x ≤ 9223372036854775807) : Value.int .i64 (IntKind.i64.wrap (x : Int)) = .int .i64 (x : Int) := by rw [IntWalk.i64_in _ ⟨by omega, by omega⟩]
end Go.Proofs.Ytmaconeeonkdgaa

namespace Go.Proofs.Ytmaconeeonkdgaa
open Go.RowKit
theorem bit_high {xs : List Nat} (hw : Wf xs) {n i : Nat} (hl : xs.length = n) (h : n ≤ i / 64) : nv xs / 2 ^ i % 2 = 0 := by
  have h1 := nv_lt hw
  rw [hl, WB_pow, ← Nat.pow_mul] at h1
  have h2 : 2 ^ (64 * n) ≤ 2 ^ i := Nat.pow_le_pow_right (by omega) (by omega)
  rw [Nat.div_eq_of_lt (by omega)]
theorem bit_low {xs : List Nat} (hw : Wf xs) {n i : Nat} (hl : xs.length = n) (h : i / 64 < n) : nv xs / 2 ^ i % 2 = xs.getD (i / 64) 0 / 2 ^ (i % 64) % 2 := by
  have h1 := nv_split xs (i / 64) (by omega)
  have h2 : nv (xs.drop (i / 64)) = xs.getD (i / 64) 0 + WB * nv (xs.drop (i / 64 + 1)) := by
    rw [nv_nb, nv_nb, List.drop_eq_getElem_cons (by omega), nb_cons, List.getD_eq_getElem?_getD, List.getElem?_eq_getElem (by omega)]; rfl
  have h3 : 2 ^ i = WB ^ (i / 64) * 2 ^ (i % 64) := by
    rw [WB_pow, ← Nat.pow_mul, ← Nat.pow_add]; congr 1; omega
  have h4 : nv (xs.take (i / 64)) < WB ^ (i / 64) := nv_take_lt hw _
  rw [h1, h3, ← Nat.div_div_eq_div_mul, Nat.add_mul_div_left _ _ (Nat.pow_pos (by decide)), Nat.div_eq_of_lt h4, Nat.zero_add, h2]
  have h5 : WB = 2 ^ (i % 64) * (2 * 2 ^ (63 - i % 64)) := by
    rw [WB_pow, ← Nat.pow_succ', ← Nat.pow_add]; congr 1; omega
  conv => lhs; rw [h5]
  rw [Nat.mul_assoc, Nat.add_mul_div_left _ _ (Nat.pow_pos (by decide)), Nat.mul_assoc, Nat.add_mul_mod_self_left]
set_option maxHeartbeats 4000000 in
theorem g_nat_Bit {w : World} {A : Option Addr} {n cap i : Nat} {xs : List Nat} (hx : Rd w A n cap xs) (hi : i ≤ 9223372036854775807) :
    Calls Try.prog 71 #[.slice A n cap, .int .i64 ((i : Nat) : Int)] w (Gv w (Is (.int .i64 ((nv xs / 2 ^ i % 2 : Nat) : Int)))) := by
  have hle := hx.rv.le
  have hmx := hx.rv.max
  rw [len_maxLen] at hmx
  refine sx_enter Try.func71 rfl (n := 25) rfl (Nat.le_of_ble_eq_true rfl) (args := [.slice A n cap, .int .i64 ((i : Nat) : Int)]) ?_
  refine cw_keep [(0, .slice A n cap), (1, .int .i64 ((i : Nat) : Int))] ⟨rfl, rfl, trivial⟩ ?_
  refine cw_seq ?_
  refine cw_region ?_
  refine wl_assign rfl rfl (by decide) ?_
  refine wl_nil ?_
  refine eo_then ?_
  refine cw_seq ?_
  refine cw_seq ?_
  by_cases hin : i / 64 ≥ n
  ·
    refine cw_region ?_
    refine wl_move rfl rfl (by decide) ?_
    refine wl_cmp rfl rfl rfl false (cb_lt_f (a := i) (b := 0) rfl rfl (by omega)) (by decide) ?_
    refine wl_move rfl rfl (by decide) ?_
    refine wl_move rfl rfl (by decide) ?_
    refine wl_ar rfl rfl rfl ((i / 64 : Nat) : Int) (ai_quo (a := i) (b := 64) rfl rfl (by omega) (by omega)) (by decide) ?_
    refine wl_move rfl rfl (by decide) ?_
    refine wl_pure rfl rfl (v := .int .i64 ((n : Nat) : Int)) (by decide) (by kernel_rfl) ?_
    refine wl_cmp rfl rfl rfl true (cb_ge_t (a := i / 64) (b := n) rfl rfl (by omega)) (by decide) ?_
    refine wl_pure rfl rfl (v := .bool true) (by decide) (by kernel_rfl) ?_
    refine wl_nil ?_
    refine eo_then ?_
    refine cw_true rfl ?_
    refine cw_seq ?_
    refine cw_region ?_
    refine wl_assign rfl rfl (by decide) ?_
    refine wl_nil ?_
    refine eo_then ?_
    refine cw_ret ?_
    refine eo_thenR ?_
    refine eo_ret [.int .i64 0] rfl ⟨rfl, trivial⟩ ?_
    exact ⟨_, rfl, (show (.int .i64 0 : Value) = Value.int .i64 ((nv xs / 2 ^ i % 2 : Nat) : Int) by rw [bit_high hx.wf hx.len (by omega)]; rfl), (Ext.refl w)⟩
  ·
    have hxb : xs.getD (i / 64) 0 ≤ 18446744073709551615 := by have := Wf_getD hx.wf (i / 64); rw [WB_def] at this; omega
    have hsh : xs.getD (i / 64) 0 / 2 ^ (i % 64) ≤ 18446744073709551615 := Nat.le_trans (Nat.div_le_self _ _) hxb
    refine cw_region ?_
    refine wl_move rfl rfl (by decide) ?_
    refine wl_cmp rfl rfl rfl false (cb_lt_f (a := i) (b := 0) rfl rfl (by omega)) (by decide) ?_
    refine wl_move rfl rfl (by decide) ?_
    refine wl_move rfl rfl (by decide) ?_
    refine wl_ar rfl rfl rfl ((i / 64 : Nat) : Int) (ai_quo (a := i) (b := 64) rfl rfl (by omega) (by omega)) (by decide) ?_
    refine wl_move rfl rfl (by decide) ?_
    refine wl_pure rfl rfl (v := .int .i64 ((n : Nat) : Int)) (by decide) (by kernel_rfl) ?_
    refine wl_cmp rfl rfl rfl false (cb_ge_f (a := i / 64) (b := n) rfl rfl (by omega)) (by decide) ?_
    refine wl_pure rfl rfl (v := .bool false) (by decide) (by kernel_rfl) ?_
    refine wl_nil ?_
    refine eo_then ?_
    refine cw_false rfl ?_
    refine cw_skip ?_
    refine eo_then ?_
    refine cw_seq ?_
    refine cw_region ?_
    refine wl_move rfl rfl (by decide) ?_
    refine wl_move rfl rfl (by decide) ?_
    refine wl_ar rfl rfl rfl ((i / 64 : Nat) : Int) (ai_quo (a := i) (b := 64) rfl rfl (by omega) (by omega)) (by decide) ?_
    obtain ⟨p1, hp1, hc1, hv1⟩ := (hx).at (i := i / 64) (by omega)
    refine wl_idx rfl rfl rfl un_u64 sz_u64 (i / 64) rfl (by omega) p1 hp1 (by decide) ?_
    refine wl_load rfl rfl (load_cell1 ag_u64 hc1) (by decide) ?_
    refine wl_move rfl rfl (by decide) ?_
    refine wl_ar rfl rfl rfl ((i % 64 : Nat) : Int) (au_rem (a := i) (b := 64) rfl rfl (by omega)) (by decide) ?_
    refine wl_pureE rfl rfl (v := .int .u64 (IntKind.u64.wrap ((i % 64 : Nat) : Int))) (v' := .int .u64 ((i % 64 : Nat) : Int)) (by decide) (by kernel_rfl) (cv_u64 (by first | omega | exact hsh)) ?_
    refine wl_op rfl rfl rfl (r := .int .u64 (((xs.getD (i / 64) 0) / 2 ^ (i % 64) : Nat) : Int)) rfl (fun w => u64_shr (x := xs.getD (i / 64) 0) (s := i % 64) (by omega) _ _ w) (by decide) ?_
    refine wl_op rfl rfl rfl (r := .int .u64 ((((xs.getD (i / 64) 0) / 2 ^ (i % 64)) % 2 : Nat) : Int)) rfl (fun w => u64_and1 (x := (xs.getD (i / 64) 0) / 2 ^ (i % 64)) (by first | omega | exact hsh) _ _ w) (by decide) ?_
    refine wl_pureE rfl rfl (v := .int .i64 (IntKind.i64.wrap ((((xs.getD (i / 64) 0) / 2 ^ (i % 64)) % 2 : Nat) : Int))) (v' := .int .i64 ((((xs.getD (i / 64) 0) / 2 ^ (i % 64)) % 2 : Nat) : Int)) (by decide) (by kernel_rfl) (cv_i64 (by first | omega | exact hsh)) ?_
    refine wl_assign rfl rfl (by decide) ?_
    refine wl_nil ?_
    refine eo_then ?_
    refine cw_ret ?_
    refine eo_ret [.int .i64 ((((xs.getD (i / 64) 0) / 2 ^ (i % 64)) % 2 : Nat) : Int)] rfl ⟨rfl, trivial⟩ ?_
    exact ⟨_, rfl, (show (.int .i64 ((((xs.getD (i / 64) 0) / 2 ^ (i % 64)) % 2 : Nat) : Int) : Value) = Value.int .i64 ((nv xs / 2 ^ i % 2 : Nat) : Int) by rw [bit_low hx.wf hx.len (by omega)]), (Ext.refl w)⟩
end Go.Proofs.Ytmaconeeonkdgaa

namespace Go.Proofs.Ytmaconeeonkdgaa
open Go.RowKit
theorem g_nat_BitLen {w : World} {A : Option Addr} {n c m : Nat} (hx : Wi w A n c m) (hl : n ≤ 1099511627775) : Calls Try.prog 70 #[.slice A n c] w (Gv w (Is (.int .i64 ((blen m : Nat) : Int)))) := by
  obtain ⟨xs, h1, rfl⟩ := hx
  refine (nat_BitLen h1 hl).mono fun e w' h => ?_
  obtain ⟨k, h2, rfl, h3⟩ := h
  exact ⟨_, rfl, (show Value.int .i64 (k : Int) = _ by rw [h2.out]), h3⟩
theorem g_nat_BitI {w : World} {A : Option Addr} {n c m i : Nat} (hx : Wi w A n c m) (hi : i ≤ 9223372036854775807) : Calls Try.prog 71 #[.slice A n c, .int .i64 (i : Int)] w (Gv w (Is (.int .i64 ((m / 2 ^ i % 2 : Nat) : Int)))) := by
  obtain ⟨xs, h1, rfl⟩ := hx
  exact g_nat_Bit h1 hi
theorem pow_halve {E j : Nat} : E / 2 ^ (j + 1) = E / 2 ^ j / 2 := by rw [Nat.div_div_eq_div_mul, Nat.pow_succ]
theorem pow_even {x z : Int} {E j : Nat} (h : ¬ E / 2 ^ j % 2 = 1) : ((x ^ (E / 2 ^ (j + 1)) % z) * (x ^ (E / 2 ^ (j + 1)) % z)) % z = x ^ (E / 2 ^ j) % z := by
  rw [← Int.mul_emod, ← Int.pow_add, pow_halve]
  congr 2
  omega
theorem pow_odd {x z : Int} {E j : Nat} (h : E / 2 ^ j % 2 = 1) : ((((x ^ (E / 2 ^ (j + 1)) % z) * (x ^ (E / 2 ^ (j + 1)) % z)) % z) * (x % z)) % z = x ^ (E / 2 ^ j) % z := by
  rw [← Int.mul_emod (x ^ (E / 2 ^ (j + 1))), ← Int.pow_add, ← Int.mul_emod, ← Int.pow_succ, pow_halve]
  congr 2
  omega
theorem blen_bd {m n : Nat} (h : (wd m).length ≤ n) : blen m ≤ 64 * n := by
  refine blen_le ?_
  have h1 := lt_pow_len m
  rw [WB_pow, ← Nat.pow_mul] at h1
  exact Nat.lt_of_lt_of_le h1 (Nat.pow_le_pow_right (by decide) (Nat.mul_le_mul_left _ h))
theorem blen_div {m : Nat} : m / 2 ^ blen m = 0 := Nat.div_eq_of_lt (lt_blen m)
set_option maxHeartbeats 4000000 in
theorem g_bezout_PowMod_negI {w : World} {sa : Bool} {Aa : Option Addr} {na ca : Nat} {x : Int} {sf : Bool} {Af : Option Addr} {nf cf : Nat} {y : Int} {sb : Bool} {Ab : Option Addr} {nb cb : Nat} {z : Int} (hx : Zi w sa Aa na ca x) (la : na ≤ 8589934592) (hy : Zi w sf Af nf cf y) (lf : nf ≤ 8589934592) (hz : Zi w sb Ab nb cb z) (lb : nb ≤ 8589934592) (h0 : y < 0) :
    Calls Try.prog 28 #[.agg #[.bool sa, .slice Aa na ca], .agg #[.bool sf, .slice Af nf cf], .agg #[.bool sb, .slice Ab nb cb]] w (Gv w (T2 (ZR w.heap.size (0)) (Is (.int .i64 3)))) := by
  have Lx : ln x ≤ 8589934592 := Nat.le_trans hx.ln la
  have Ly : ln y ≤ 8589934592 := Nat.le_trans hy.ln lf
  have Lz : ln z ≤ 8589934592 := Nat.le_trans hz.ln lb
  refine sx_enter Try.func28 rfl (n := 65) rfl (Nat.le_of_ble_eq_true rfl) (args := [.agg #[.bool sa, .slice Aa na ca], .agg #[.bool sf, .slice Af nf cf], .agg #[.bool sb, .slice Ab nb cb]]) ?_
  refine cw_keep [(0, .agg #[.bool sa, .slice Aa na ca]), (1, .agg #[.bool sf, .slice Af nf cf]), (2, .agg #[.bool sb, .slice Ab nb cb])] ⟨rfl, rfl, rfl, trivial⟩ ?_
  refine cw_seq ?_
  refine cw_region ?_
  refine wl_box rfl rfl (vs := [.bool sa, .slice Aa na ca]) rfl (by decide) fun g1 v2 nb => ?_
  have hb4 := nb.bk
  have ge5 : w.heap.size ≤ g1 := by rw [← nb.at_]; exact (Ext.refl w).size
  have e3 := nb.ext
  clear nb
  have hw1 : Ext w v2 := (Ext.refl w).trans e3
  refine wl_box rfl rfl (vs := [.bool sf, .slice Af nf cf]) rfl (by decide) fun g6 v7 nb => ?_
  have hb9 := nb.bk
  have ge10 : w.heap.size ≤ g6 := by rw [← nb.at_]; exact hw1.size
  have q11 : g1 < g6 := by rw [← nb.at_]; exact hb4.lt
  have e8 := nb.ext
  clear nb
  have hw2 : Ext w v7 := hw1.trans e8
  refine wl_box rfl rfl (vs := [.bool sb, .slice Ab nb cb]) rfl (by decide) fun g12 v13 nb => ?_
  have hb15 := nb.bk
  have ge16 : w.heap.size ≤ g12 := by rw [← nb.at_]; exact hw2.size
  have q17 : g6 < g12 := by rw [← nb.at_]; exact hb9.lt
  have e14 := nb.ext
  clear nb
  have hw3 : Ext w v13 := hw2.trans e14
  refine wl_alloc rfl (z := .agg #[.bool false, .slice none 0 0]) (vs := [.bool false, .slice none 0 0]) (fun _ => by kernel_rfl) rfl (by decide) fun g18 v19 nb => ?_
  have hb21 := nb.bk
  have ge22 : w.heap.size ≤ g18 := by rw [← nb.at_]; exact hw3.size
  have q23 : g12 < g18 := by rw [← nb.at_]; exact hb15.lt
  have e20 := nb.ext
  clear nb
  have hw4 : Ext w v19 := hw3.trans e20
  refine wl_assign rfl rfl (by decide) ?_
  refine wl_nil ?_
  refine eo_then ?_
  refine cw_seq ?_
  refine cw_block ?_
  refine cw_seq ?_
  refine cw_region ?_
  refine wl_load rfl rfl (load_agg aggInt (hb9.ext (e14.trans e20)) [.bool sf, .slice Af nf cf] rfl (Nat.le_of_ble_eq_true rfl) rfl) (by decide) ?_
  refine wl_call rfl rfl (vs := [.agg #[.bool sf, .slice Af nf cf]]) (by kernel_rfl) (by decide) (g_zint_Sign (hy.ext hw4) (Nat.le_trans lf (by decide))) ?_
  rintro _ v24 ⟨xr26, rfl, r26, e25⟩
  refine ret_intro ?_
  have hw5 : Ext w v24 := hw4.trans e25
  obtain rfl := r26
  refine wl_cmp rfl rfl rfl true (scmp_lt_t h0) (by decide) ?_
  refine wl_assign rfl rfl (by decide) ?_
  refine wl_nil ?_
  refine eo_then ?_
  refine cw_true rfl ?_
  refine cw_seq ?_
  refine cw_region ?_
  refine wl_pure rfl rfl (v := .agg #[.bool false, .slice none 0 0]) (by decide) (by kernel_rfl) ?_
  have hb28 := (hb21.ext e25)
  refine wl_stored rfl rfl rfl aggInt rfl hb28 (Nat.le_of_ble_eq_true rfl) rfl [.bool false, .slice none 0 0] rfl fun v27 hb29 u30 hs31 => ?_
  have hw6 : Ext w v27 := u30.ext hw5 ge22
  refine wl_assign rfl rfl (by decide) ?_
  refine wl_nil ?_
  refine eo_then ?_
  refine cw_ret ?_
  refine eo_block_ret ?_
  refine eo_thenR ?_
  refine eo_ret [.agg #[.bool false, .slice none 0 0], .int .i64 3] rfl ⟨⟨_, rfl, load_agg aggInt hb29 [.bool false, .slice none 0 0] rfl (Nat.le_of_ble_eq_true rfl) rfl⟩, rfl, trivial⟩ ?_
  exact ⟨_, rfl, ⟨_, _, rfl, ⟨_, _, _, _, rfl, ((Zr.zero (w := v24) (base := w.heap.size)).updT hb28 u30)⟩, rfl⟩, hw6⟩
theorem g_bezout_PowMod_neg {w : World} {sa : Bool} {Aa : Option Addr} {na ca : Nat} {x : Int} {sf : Bool} {Af : Option Addr} {nf cf : Nat} {y : Int} {sb : Bool} {Ab : Option Addr} {nb cb : Nat} {z : Int} {b : Nat} (hb : b ≤ w.heap.size)  (hx : Zi w sa Aa na ca x) (la : na ≤ 8589934592) (hy : Zi w sf Af nf cf y) (lf : nf ≤ 8589934592) (hz : Zi w sb Ab nb cb z) (lb : nb ≤ 8589934592) (h0 : y < 0) :
    Calls Try.prog 28 #[.agg #[.bool sa, .slice Aa na ca], .agg #[.bool sf, .slice Af nf cf], .agg #[.bool sb, .slice Ab nb cb]] w (Gv w (T2 (ZR b (0)) (Is (.int .i64 3)))) := (g_bezout_PowMod_negI hx la hy lf hz lb h0).mono (Gv.imp (T2.imp (ZR.imp hb) Is.imp))
set_option maxHeartbeats 4000000 in
theorem g_bezout_PowMod_zeroI {w : World} {sa : Bool} {Aa : Option Addr} {na ca : Nat} {x : Int} {sf : Bool} {Af : Option Addr} {nf cf : Nat} {y : Int} {sb : Bool} {Ab : Option Addr} {nb cb : Nat} {z : Int} (hx : Zi w sa Aa na ca x) (la : na ≤ 8589934592) (hy : Zi w sf Af nf cf y) (lf : nf ≤ 8589934592) (hz : Zi w sb Ab nb cb z) (lb : nb ≤ 8589934592) (h0 : 0 ≤ y) (hm0 : z = 0) :
    Calls Try.prog 28 #[.agg #[.bool sa, .slice Aa na ca], .agg #[.bool sf, .slice Af nf cf], .agg #[.bool sb, .slice Ab nb cb]] w (Gv w (T2 (ZR w.heap.size (0)) (Is (.int .i64 4)))) := by
  have Lx : ln x ≤ 8589934592 := Nat.le_trans hx.ln la
  have Ly : ln y ≤ 8589934592 := Nat.le_trans hy.ln lf
  have Lz : ln z ≤ 8589934592 := Nat.le_trans hz.ln lb
  refine sx_enter Try.func28 rfl (n := 65) rfl (Nat.le_of_ble_eq_true rfl) (args := [.agg #[.bool sa, .slice Aa na ca], .agg #[.bool sf, .slice Af nf cf], .agg #[.bool sb, .slice Ab nb cb]]) ?_
  refine cw_keep [(0, .agg #[.bool sa, .slice Aa na ca]), (1, .agg #[.bool sf, .slice Af nf cf]), (2, .agg #[.bool sb, .slice Ab nb cb])] ⟨rfl, rfl, rfl, trivial⟩ ?_
  refine cw_seq ?_
  refine cw_region ?_
  refine wl_box rfl rfl (vs := [.bool sa, .slice Aa na ca]) rfl (by decide) fun g1 v2 nb => ?_
  have hb4 := nb.bk
  have ge5 : w.heap.size ≤ g1 := by rw [← nb.at_]; exact (Ext.refl w).size
  have e3 := nb.ext
  clear nb
  have hw1 : Ext w v2 := (Ext.refl w).trans e3
  refine wl_box rfl rfl (vs := [.bool sf, .slice Af nf cf]) rfl (by decide) fun g6 v7 nb => ?_
  have hb9 := nb.bk
  have ge10 : w.heap.size ≤ g6 := by rw [← nb.at_]; exact hw1.size
  have q11 : g1 < g6 := by rw [← nb.at_]; exact hb4.lt
  have e8 := nb.ext
  clear nb
  have hw2 : Ext w v7 := hw1.trans e8
  refine wl_box rfl rfl (vs := [.bool sb, .slice Ab nb cb]) rfl (by decide) fun g12 v13 nb => ?_
  have hb15 := nb.bk
  have ge16 : w.heap.size ≤ g12 := by rw [← nb.at_]; exact hw2.size
  have q17 : g6 < g12 := by rw [← nb.at_]; exact hb9.lt
  have e14 := nb.ext
  clear nb
  have hw3 : Ext w v13 := hw2.trans e14
  refine wl_alloc rfl (z := .agg #[.bool false, .slice none 0 0]) (vs := [.bool false, .slice none 0 0]) (fun _ => by kernel_rfl) rfl (by decide) fun g18 v19 nb => ?_
  have hb21 := nb.bk
  have ge22 : w.heap.size ≤ g18 := by rw [← nb.at_]; exact hw3.size
  have q23 : g12 < g18 := by rw [← nb.at_]; exact hb15.lt
  have e20 := nb.ext
  clear nb
  have hw4 : Ext w v19 := hw3.trans e20
  refine wl_assign rfl rfl (by decide) ?_
  refine wl_nil ?_
  refine eo_then ?_
  refine cw_seq ?_
  refine cw_block ?_
  refine cw_seq ?_
  refine cw_region ?_
  refine wl_load rfl rfl (load_agg aggInt (hb9.ext (e14.trans e20)) [.bool sf, .slice Af nf cf] rfl (Nat.le_of_ble_eq_true rfl) rfl) (by decide) ?_
  refine wl_call rfl rfl (vs := [.agg #[.bool sf, .slice Af nf cf]]) (by kernel_rfl) (by decide) (g_zint_Sign (hy.ext hw4) (Nat.le_trans lf (by decide))) ?_
  rintro _ v24 ⟨xr26, rfl, r26, e25⟩
  refine ret_intro ?_
  have hw5 : Ext w v24 := hw4.trans e25
  obtain rfl := r26
  refine wl_cmp rfl rfl rfl false (scmp_lt_f h0) (by decide) ?_
  refine wl_assign rfl rfl (by decide) ?_
  refine wl_nil ?_
  refine eo_then ?_
  refine cw_false rfl ?_
  refine cw_seq ?_
  refine cw_region ?_
  refine wl_load rfl rfl (load_agg aggInt (hb15.ext (e20.trans e25)) [.bool sb, .slice Ab nb cb] rfl (Nat.le_of_ble_eq_true rfl) rfl) (by decide) ?_
  refine wl_call rfl rfl (vs := [.agg #[.bool sb, .slice Ab nb cb]]) (by kernel_rfl) (by decide) (g_zint_Sign (hz.ext hw5) (Nat.le_trans lb (by decide))) ?_
  rintro _ v27 ⟨xr29, rfl, r29, e28⟩
  refine ret_intro ?_
  have hw6 : Ext w v27 := hw5.trans e28
  obtain rfl := r29
  refine wl_cmp rfl rfl rfl true (scmp_eq_t hm0) (by decide) ?_
  refine wl_assign rfl rfl (by decide) ?_
  refine wl_nil ?_
  refine eo_then ?_
  refine cw_true rfl ?_
  refine cw_seq ?_
  refine cw_region ?_
  refine wl_pure rfl rfl (v := .agg #[.bool false, .slice none 0 0]) (by decide) (by kernel_rfl) ?_
  have hb31 := (hb21.ext (e25.trans e28))
  refine wl_stored rfl rfl rfl aggInt rfl hb31 (Nat.le_of_ble_eq_true rfl) rfl [.bool false, .slice none 0 0] rfl fun v30 hb32 u33 hs34 => ?_
  have hw7 : Ext w v30 := u33.ext hw6 ge22
  refine wl_assign rfl rfl (by decide) ?_
  refine wl_nil ?_
  refine eo_then ?_
  refine cw_ret ?_
  refine eo_block_ret ?_
  refine eo_thenR ?_
  refine eo_ret [.agg #[.bool false, .slice none 0 0], .int .i64 4] rfl ⟨⟨_, rfl, load_agg aggInt hb32 [.bool false, .slice none 0 0] rfl (Nat.le_of_ble_eq_true rfl) rfl⟩, rfl, trivial⟩ ?_
  exact ⟨_, rfl, ⟨_, _, rfl, ⟨_, _, _, _, rfl, ((Zr.zero (w := v27) (base := w.heap.size)).updT hb31 u33)⟩, rfl⟩, hw7⟩
theorem g_bezout_PowMod_zero {w : World} {sa : Bool} {Aa : Option Addr} {na ca : Nat} {x : Int} {sf : Bool} {Af : Option Addr} {nf cf : Nat} {y : Int} {sb : Bool} {Ab : Option Addr} {nb cb : Nat} {z : Int} {b : Nat} (hb : b ≤ w.heap.size)  (hx : Zi w sa Aa na ca x) (la : na ≤ 8589934592) (hy : Zi w sf Af nf cf y) (lf : nf ≤ 8589934592) (hz : Zi w sb Ab nb cb z) (lb : nb ≤ 8589934592) (h0 : 0 ≤ y) (hm0 : z = 0) :
    Calls Try.prog 28 #[.agg #[.bool sa, .slice Aa na ca], .agg #[.bool sf, .slice Af nf cf], .agg #[.bool sb, .slice Ab nb cb]] w (Gv w (T2 (ZR b (0)) (Is (.int .i64 4)))) := (g_bezout_PowMod_zeroI hx la hy lf hz lb h0 hm0).mono (Gv.imp (T2.imp (ZR.imp hb) Is.imp))
set_option maxHeartbeats 4000000 in
theorem g_bezout_PowMod_okI {w : World} {sa : Bool} {Aa : Option Addr} {na ca : Nat} {x : Int} {sf : Bool} {Af : Option Addr} {nf cf : Nat} {y : Int} {sb : Bool} {Ab : Option Addr} {nb cb : Nat} {z : Int} (hx : Zi w sa Aa na ca x) (la : na ≤ 8589934592) (hy : Zi w sf Af nf cf y) (lf : nf ≤ 8589934592) (hz : Zi w sb Ab nb cb z) (lb : nb ≤ 8589934592) (h0 : 0 ≤ y) (hm0 : z ≠ 0) :
    Calls Try.prog 28 #[.agg #[.bool sa, .slice Aa na ca], .agg #[.bool sf, .slice Af nf cf], .agg #[.bool sb, .slice Ab nb cb]] w (Gv w (T2 (ZR w.heap.size (x ^ Int.natAbs y % z)) (Is (.int .i64 0)))) := by
  have Lx : ln x ≤ 8589934592 := Nat.le_trans hx.ln la
  have Ly : ln y ≤ 8589934592 := Nat.le_trans hy.ln lf
  have Lz : ln z ≤ 8589934592 := Nat.le_trans hz.ln lb
  refine sx_enter Try.func28 rfl (n := 65) rfl (Nat.le_of_ble_eq_true rfl) (args := [.agg #[.bool sa, .slice Aa na ca], .agg #[.bool sf, .slice Af nf cf], .agg #[.bool sb, .slice Ab nb cb]]) ?_
  refine cw_keep [(0, .agg #[.bool sa, .slice Aa na ca]), (1, .agg #[.bool sf, .slice Af nf cf]), (2, .agg #[.bool sb, .slice Ab nb cb])] ⟨rfl, rfl, rfl, trivial⟩ ?_
  refine cw_seq ?_
  refine cw_region ?_
  refine wl_box rfl rfl (vs := [.bool sa, .slice Aa na ca]) rfl (by decide) fun g1 v2 nb => ?_
  have hb4 := nb.bk
  have ge5 : w.heap.size ≤ g1 := by rw [← nb.at_]; exact (Ext.refl w).size
  have e3 := nb.ext
  clear nb
  have hw1 : Ext w v2 := (Ext.refl w).trans e3
  refine wl_box rfl rfl (vs := [.bool sf, .slice Af nf cf]) rfl (by decide) fun g6 v7 nb => ?_
  have hb9 := nb.bk
  have ge10 : w.heap.size ≤ g6 := by rw [← nb.at_]; exact hw1.size
  have q11 : g1 < g6 := by rw [← nb.at_]; exact hb4.lt
  have e8 := nb.ext
  clear nb
  have hw2 : Ext w v7 := hw1.trans e8
  refine wl_box rfl rfl (vs := [.bool sb, .slice Ab nb cb]) rfl (by decide) fun g12 v13 nb => ?_
  have hb15 := nb.bk
  have ge16 : w.heap.size ≤ g12 := by rw [← nb.at_]; exact hw2.size
  have q17 : g6 < g12 := by rw [← nb.at_]; exact hb9.lt
  have e14 := nb.ext
  clear nb
  have hw3 : Ext w v13 := hw2.trans e14
  refine wl_alloc rfl (z := .agg #[.bool false, .slice none 0 0]) (vs := [.bool false, .slice none 0 0]) (fun _ => by kernel_rfl) rfl (by decide) fun g18 v19 nb => ?_
  have hb21 := nb.bk
  have ge22 : w.heap.size ≤ g18 := by rw [← nb.at_]; exact hw3.size
  have q23 : g12 < g18 := by rw [← nb.at_]; exact hb15.lt
  have e20 := nb.ext
  clear nb
  have hw4 : Ext w v19 := hw3.trans e20
  refine wl_assign rfl rfl (by decide) ?_
  refine wl_nil ?_
  refine eo_then ?_
  refine cw_seq ?_
  refine cw_block ?_
  refine cw_seq ?_
  refine cw_region ?_
  refine wl_load rfl rfl (load_agg aggInt (hb9.ext (e14.trans e20)) [.bool sf, .slice Af nf cf] rfl (Nat.le_of_ble_eq_true rfl) rfl) (by decide) ?_
  refine wl_call rfl rfl (vs := [.agg #[.bool sf, .slice Af nf cf]]) (by kernel_rfl) (by decide) (g_zint_Sign (hy.ext hw4) (Nat.le_trans lf (by decide))) ?_
  rintro _ v24 ⟨xr26, rfl, r26, e25⟩
  refine ret_intro ?_
  have hw5 : Ext w v24 := hw4.trans e25
  obtain rfl := r26
  refine wl_cmp rfl rfl rfl false (scmp_lt_f h0) (by decide) ?_
  refine wl_assign rfl rfl (by decide) ?_
  refine wl_nil ?_
  refine eo_then ?_
  refine cw_false rfl ?_
  refine cw_seq ?_
  refine cw_region ?_
  refine wl_load rfl rfl (load_agg aggInt (hb15.ext (e20.trans e25)) [.bool sb, .slice Ab nb cb] rfl (Nat.le_of_ble_eq_true rfl) rfl) (by decide) ?_
  refine wl_call rfl rfl (vs := [.agg #[.bool sb, .slice Ab nb cb]]) (by kernel_rfl) (by decide) (g_zint_Sign (hz.ext hw5) (Nat.le_trans lb (by decide))) ?_
  rintro _ v27 ⟨xr29, rfl, r29, e28⟩
  refine ret_intro ?_
  have hw6 : Ext w v27 := hw5.trans e28
  obtain rfl := r29
  refine wl_cmp rfl rfl rfl false (scmp_eq_f hm0) (by decide) ?_
  refine wl_assign rfl rfl (by decide) ?_
  refine wl_nil ?_
  refine eo_then ?_
  refine cw_false rfl ?_
  refine cw_skip ?_
  refine eo_block_normal ?_
  refine eo_then ?_
  refine cw_seq ?_
  have L31 : ln (1 % z) ≤ 8589934592 := Nat.le_trans (ln_emod hm0) Lz
  refine cw_draw mix 7 [4, 5] [ZR w.heap.size (1), Is (.agg #[.bool sb, .slice Ab nb cb]), T2 (ZR w.heap.size (1 % z)) (Is (.int .i64 0)), T2 (ZR w.heap.size (1 % z)) (Is (.int .i64 0)), ZR w.heap.size (1 % z), Is (.int .i64 0), PR v27.heap.size 27 [.bool false, .slice none 0 0]] [[], [], [0, 1], [2], [3], [3], []] [[], [], [0, 1], [0, 1, 2], [0, 1, 2, 3], [0, 1, 2, 3], [], [0, 1, 2, 3, 4, 6], [0, 1, 2, 3, 4, 5, 6, 7]] rfl
    (obs_cons rfl rfl (hob rfl rfl ?_) (obs_cons rfl rfl (hob rfl rfl ?_) (obs_cons rfl rfl (hob rfl rfl ?_) (obs_cons rfl rfl (hob rfl rfl ?_) (obs_float rfl rfl (fob rfl ?_) (obs_float rfl rfl (fob rfl ?_) (obs_cons rfl rfl (hob rfl rfl ?_) obs_nil))))))) ?_
  · -- 0
    intro v37 e38
    have hw7 : Ext w v37 := hw6.trans e38
    refine deps_nil ?_
    refine wl_call rfl rfl (vs := [.int .i64 1]) (by kernel_rfl) (by decide) (g_zint_Of hw7.size (by decide) (by decide)) ?_
    rintro _ v39 ⟨xr41, rfl, r41, e40⟩
    refine ret_intro ?_
    have hw8 : Ext w v39 := hw7.trans e40
    obtain ⟨s42, A42, n42, c42, rfl, z42⟩ := r41
    exact pi_done rfl e40 ⟨_, _, _, _, rfl, z42⟩
  · -- 1
    intro v43 e44
    have hw7 : Ext w v43 := hw6.trans e44
    refine deps_nil ?_
    refine wl_load rfl rfl (load_agg aggInt (hb15.ext (e20.trans (e25.trans (e28.trans e44)))) [.bool sb, .slice Ab nb cb] rfl (Nat.le_of_ble_eq_true rfl) rfl) (by decide) ?_
    exact pi_done rfl (Ext.refl _) rfl
  · -- 2
    intro v45 e46
    have hw7 : Ext w v45 := hw6.trans e46
    refine deps_cons rfl rfl fun x47 y48 h49 e50 f51 => ?_
    obtain ⟨s52, A52, n52, c52, rfl, z52⟩ := h49
    have z52 := z52.ext f51
    refine deps_cons rfl rfl fun x53 y54 h55 e56 f57 => ?_
    obtain rfl := h55
    refine deps_nil ?_
    have L58 : ln (1 % z) ≤ 8589934592 := Nat.le_trans (ln_emod hm0) Lz
    refine wl_call rfl rfl (vs := [.agg #[.bool s52, .slice A52 n52 c52], .agg #[.bool sb, .slice Ab nb cb]]) (by kernel_rfl) (by decide) (g_zint_Mod hw7.size z52.zi (z52.le (Nat.le_trans (show ln (1) ≤ 1 by decide +kernel) (by decide))) (hz.ext hw7) (Nat.le_trans lb (by decide)) hm0) ?_
    rintro _ v59 ⟨xr61, rfl, r61, e60⟩
    refine ret_intro ?_
    have hw8 : Ext w v59 := hw7.trans e60
    obtain ⟨a62_0, a62_1, rfl, r62_0, r62_1⟩ := r61
    obtain ⟨s63, A63, n63, c63, rfl, z63⟩ := r62_0
    obtain rfl := r62_1
    exact pi_done rfl e60 ⟨_, _, rfl, ⟨_, _, _, _, rfl, z63⟩, rfl⟩
  · -- 3
    intro v64 e65
    have hw7 : Ext w v64 := hw6.trans e65
    refine deps_cons rfl rfl fun x66 y67 h68 e69 f70 => ?_
    obtain ⟨a71_0, a71_1, rfl, r71_0, r71_1⟩ := h68
    obtain ⟨s72, A72, n72, c72, rfl, z72⟩ := r71_0
    obtain rfl := r71_1
    have z72 := z72.ext f70
    refine deps_nil ?_
    refine wl_move rfl rfl (by decide) ?_
    exact pi_done rfl (Ext.refl _) ⟨_, _, rfl, ⟨_, _, _, _, rfl, z72⟩, rfl⟩
  · -- 4
    intro v73 e74
    have hw7 : Ext w v73 := hw6.trans e74
    refine deps_cons rfl rfl fun x75 y76 h77 e78 f79 => ?_
    obtain ⟨a80_0, a80_1, rfl, r80_0, r80_1⟩ := h77
    obtain ⟨s81, A81, n81, c81, rfl, z81⟩ := r80_0
    obtain rfl := r80_1
    have z81 := z81.ext f79
    refine deps_nil ?_
    exact ⟨.agg #[.bool s81, .slice A81 n81 c81], rfl, rfl, fun _ => by kernel_rfl, ⟨_, _, _, _, rfl, z81⟩⟩
  · -- 5
    intro v82 e83
    have hw7 : Ext w v82 := hw6.trans e83
    refine deps_cons rfl rfl fun x84 y85 h86 e87 f88 => ?_
    obtain ⟨a89_0, a89_1, rfl, r89_0, r89_1⟩ := h86
    obtain ⟨s90, A90, n90, c90, rfl, z90⟩ := r89_0
    obtain rfl := r89_1
    have z90 := z90.ext f88
    refine deps_nil ?_
    exact ⟨.int .i64 0, rfl, rfl, fun _ => by kernel_rfl, rfl⟩
  · -- 6
    intro v91 e92
    have hw7 : Ext w v91 := hw6.trans e92
    refine deps_nil ?_
    refine wl_alloc rfl (z := .agg #[.bool false, .slice none 0 0]) (vs := [.bool false, .slice none 0 0]) (fun _ => by kernel_rfl) rfl (by decide) fun g93 v94 nb => ?_
    exact pi_done rfl nb.ext ⟨_, rfl, by rw [← nb.at_]; exact e92.size, nb.bk⟩
  · -- all
    intro v95 e96
    have hw7 : Ext w v95 := hw6.trans e96
    refine deps_cons rfl rfl fun x97 y98 h99 e100 f101 => ?_
    obtain ⟨s102, A102, n102, c102, rfl, z102⟩ := h99
    have z102 := z102.ext f101
    refine deps_cons rfl rfl fun x103 y104 h105 e106 f107 => ?_
    obtain rfl := h105
    refine deps_cons rfl rfl fun x108 y109 h110 e111 f112 => ?_
    obtain ⟨a113_0, a113_1, rfl, r113_0, r113_1⟩ := h110
    obtain ⟨s114, A114, n114, c114, rfl, z114⟩ := r113_0
    obtain rfl := r113_1
    have z114 := z114.ext f112
    refine deps_cons rfl rfl fun x115 y116 h117 e118 f119 => ?_
    obtain ⟨a120_0, a120_1, rfl, r120_0, r120_1⟩ := h117
    obtain ⟨s121, A121, n121, c121, rfl, z121⟩ := r120_0
    obtain rfl := r120_1
    have z121 := z121.ext f119
    refine deps_cons rfl rfl fun x122 y123 h124 e125 f126 => ?_
    obtain ⟨s127, A127, n127, c127, rfl, z127⟩ := h124
    have z127 := z127.ext f126
    refine deps_cons rfl rfl fun x128 y129 h130 e131 f132 => ?_
    obtain rfl := h130
    refine deps_cons rfl rfl fun x133 y134 h135 e136 f137 => ?_
    obtain ⟨g138, rfl, ge140, hb139⟩ := h135
    have hb139 := hb139.ext f137
    have q141 : g18 < g138 := Nat.lt_of_lt_of_le (hb21.ext (e25.trans e28)).lt ge140
    have ge140 : w.heap.size ≤ g138 := Nat.le_trans hw6.size ge140
    refine deps_nil ?_
    have hb143 := hb139
    refine wl_stored rfl rfl rfl aggInt rfl hb143 (Nat.le_of_ble_eq_true rfl) rfl [.bool s127, .slice A127 n127 c127] rfl fun v142 hb144 u145 hs146 => ?_
    have hw8 : Ext w v142 := u145.ext hw7 ge140
    refine wl_assign rfl rfl (by decide) ?_
    refine wl_nil ?_
    refine eo_np ?_
    refine eo_then ?_
    refine cw_seq ?_
    refine cw_region ?_
    refine wl_load rfl rfl (load_agg aggInt ((hb4.ext (e8.trans (e14.trans (e20.trans (e25.trans (e28.trans e96)))))).updN u145 (by omega)) [.bool sa, .slice Aa na ca] rfl (Nat.le_of_ble_eq_true rfl) rfl) (by decide) ?_
    refine wl_load rfl rfl (load_agg aggInt ((hb15.ext (e20.trans (e25.trans (e28.trans e96)))).updN u145 (by omega)) [.bool sb, .slice Ab nb cb] rfl (Nat.le_of_ble_eq_true rfl) rfl) (by decide) ?_
    have L147 : ln (x % z) ≤ 8589934592 := Nat.le_trans (ln_emod hm0) Lz
    refine wl_call rfl rfl (vs := [.agg #[.bool sa, .slice Aa na ca], .agg #[.bool sb, .slice Ab nb cb]]) (by kernel_rfl) (by decide) (g_zint_Mod hw8.size (hx.ext hw8) (Nat.le_trans la (by decide)) (hz.ext hw8) (Nat.le_trans lb (by decide)) hm0) ?_
    rintro _ v148 ⟨xr150, rfl, r150, e149⟩
    refine ret_intro ?_
    have hw9 : Ext w v148 := hw8.trans e149
    obtain ⟨a151_0, a151_1, rfl, r151_0, r151_1⟩ := r150
    obtain ⟨s152, A152, n152, c152, rfl, z152⟩ := r151_0
    obtain rfl := r151_1
    refine wl_move rfl rfl (by decide) ?_
    refine wl_pure rfl rfl (v := .agg #[.bool s152, .slice A152 n152 c152]) (by decide) (by kernel_rfl) ?_
    refine wl_pure rfl rfl (v := .int .i64 0) (by decide) (by kernel_rfl) ?_
    refine wl_alloc rfl (z := .agg #[.bool false, .slice none 0 0]) (vs := [.bool false, .slice none 0 0]) (fun _ => by kernel_rfl) rfl (by decide) fun g153 v154 nb => ?_
    have hb156 := nb.bk
    have ge157 : w.heap.size ≤ g153 := by rw [← nb.at_]; exact hw9.size
    have q158 : g138 < g153 := by rw [← nb.at_]; exact (hb144.ext e149).lt
    have e155 := nb.ext
    clear nb
    have hw10 : Ext w v154 := hw9.trans e155
    have hb160 := hb156
    refine wl_stored rfl rfl rfl aggInt rfl hb160 (Nat.le_of_ble_eq_true rfl) rfl [.bool s152, .slice A152 n152 c152] rfl fun v159 hb161 u162 hs163 => ?_
    have hw11 : Ext w v159 := u162.ext hw10 ge157
    refine wl_assign rfl rfl (by decide) ?_
    refine wl_nil ?_
    refine eo_then ?_
    refine cw_seq ?_
    refine cw_seq ?_
    have hbl : blen (Int.natAbs y) ≤ 64 * 8589934592 := blen_bd (show (wd (Int.natAbs y)).length ≤ 8589934592 from Ly)
    refine cw_region ?_
    refine wl_pure rfl rfl (v := .pointer (some ⟨g6, 1, none⟩)) (by decide) (by kernel_rfl) ?_
    refine wl_load rfl rfl (load_cell cellWords ((((hb9.ext (e14.trans (e20.trans (e25.trans (e28.trans e96))))).updN u145 (by omega)).ext (e149.trans e155)).updN u162 (by omega)) rfl) (by decide) ?_
    refine wl_call rfl rfl (vs := [.slice Af nf cf]) (by kernel_rfl) (by decide) (g_nat_BitLen (hy.ext hw11).wi (Nat.le_trans lf (by decide))) ?_
    rintro _ v164 ⟨xr166, rfl, r166, e165⟩
    refine ret_intro ?_
    have hw12 : Ext w v164 := hw11.trans e165
    obtain rfl := r166
    refine wl_ar rfl rfl rfl (((blen (Int.natAbs y) : Nat) : Int) - 1) (ar_i64s rfl (by omega) (by omega)) (by decide) ?_
    refine wl_assign rfl rfl (by decide) ?_
    refine wl_nil ?_
    refine eo_then ?_
    refine cw_block ?_
    refine cw_loop (T := World × Nat × Int × ZC)
      (fun ⟨wr, k, ii, kp⟩ => [(3, .pointer (some ⟨g1, 0, none⟩)), (4, .pointer (some ⟨g6, 0, none⟩)), (5, .pointer (some ⟨g12, 0, none⟩)), (6, .pointer (some ⟨g18, 0, none⟩)), (7, .int .i64 0), (8, .pointer (some ⟨g138, 0, none⟩)), (10, .pointer (some ⟨g153, 0, none⟩)), (12, .int .i64 ii)])
      (fun ⟨wr, k, ii, kp⟩ => wr)
      (fun ⟨wr, k, ii, kp⟩ => (Ext w wr) ∧ (k ≤ blen (Int.natAbs y)) ∧ (ii = (k : Int) - 1) ∧ (Bk wr g1 27 [.bool sa, .slice Aa na ca]) ∧ (Bk wr g6 27 [.bool sf, .slice Af nf cf]) ∧ (Bk wr g12 27 [.bool sb, .slice Ab nb cb]) ∧ (Bk wr g18 27 [.bool false, .slice none 0 0]) ∧ (Bk wr g138 27 [.bool kp.s, .slice kp.A kp.n kp.c]) ∧ (Bk wr g153 27 [.bool s152, .slice A152 n152 c152]) ∧ (Zr wr w.heap.size kp.s kp.A kp.n kp.c (x ^ (Int.natAbs y / 2 ^ k) % z)) ∧ (Zr wr w.heap.size s152 A152 n152 c152 (x % z)))
      (fun ⟨wr, k, ii, kp⟩ => k)
      (⟨v164, blen (Int.natAbs y), _, ⟨s127, A127, n127, c127⟩⟩ : World × Nat × Int × ZC) ⟨hw12, Nat.le_refl _, rfl, (((((hb4.ext (e8.trans (e14.trans (e20.trans (e25.trans (e28.trans e96)))))).updN u145 (by omega)).ext (e149.trans e155)).updN u162 (by omega)).ext e165), (((((hb9.ext (e14.trans (e20.trans (e25.trans (e28.trans e96))))).updN u145 (by omega)).ext (e149.trans e155)).updN u162 (by omega)).ext e165), (((((hb15.ext (e20.trans (e25.trans (e28.trans e96)))).updN u145 (by omega)).ext (e149.trans e155)).updN u162 (by omega)).ext e165), (((((hb21.ext (e25.trans (e28.trans e96))).updN u145 (by omega)).ext (e149.trans e155)).updN u162 (by omega)).ext e165), (((hb144.ext (e149.trans e155)).updN u162 (by omega)).ext e165), (hb161.ext e165), (((((z127.updT hb143 u145).ext (e149.trans e155)).updT hb160 u162).ext e165)).cast (by rw [blen_div, Int.pow_zero]), (((z152.ext e155).updT hb160 u162).ext e165)⟩ rfl ⟨rfl, rfl, rfl, rfl, rfl, rfl, rfl, rfl, trivial⟩ ?_
    rintro ⟨wr, k, ii, kp⟩ ⟨hw1, hk, hii, b_3, b_4, b_5, b_6, b_8, b_10, zp, zb⟩
    refine cw_re [(3, .pointer (some ⟨g1, 0, none⟩)), (4, .pointer (some ⟨g6, 0, none⟩)), (5, .pointer (some ⟨g12, 0, none⟩)), (6, .pointer (some ⟨g18, 0, none⟩)), (7, .int .i64 0), (8, .pointer (some ⟨g138, 0, none⟩)), (10, .pointer (some ⟨g153, 0, none⟩)), (12, .int .i64 ii)] wr rfl ⟨rfl, rfl, rfl, rfl, rfl, rfl, rfl, rfl, trivial⟩ ?_
    refine cw_seq ?_
    refine cw_seq ?_
    by_cases hkp : 0 < k
    ·
      obtain ⟨j, rfl⟩ : ∃ j, k = j + 1 := ⟨k - 1, by omega⟩
      obtain rfl : ii = (j : Int) := by omega
      refine cw_region ?_
      refine wl_move rfl rfl (by decide) ?_
      refine wl_cmp rfl rfl rfl true (ge_t (by omega)) (by decide) ?_
      refine wl_nil ?_
      refine eo_then ?_
      refine cw_true rfl ?_
      refine cw_skip ?_
      refine eo_then ?_
      refine cw_seq ?_
      refine cw_block ?_
      refine cw_seq ?_
      have L167 : ln ((x ^ (Int.natAbs y / 2 ^ (j + 1)) % z) * (x ^ (Int.natAbs y / 2 ^ (j + 1)) % z)) ≤ 17179869184 := Nat.le_trans (ln_mul (Nat.le_trans (ln_emod hm0) Lz) (Nat.le_trans (ln_emod hm0) Lz)) (by decide)
      have L169 : ln (((x ^ (Int.natAbs y / 2 ^ (j + 1)) % z) * (x ^ (Int.natAbs y / 2 ^ (j + 1)) % z)) % z) ≤ 8589934592 := Nat.le_trans (ln_emod hm0) Lz
      refine cw_draw mix 8 [6, 7] [Is (.agg #[.bool kp.s, .slice kp.A kp.n kp.c]), Is (.agg #[.bool kp.s, .slice kp.A kp.n kp.c]), ZR w.heap.size ((x ^ (Int.natAbs y / 2 ^ (j + 1)) % z) * (x ^ (Int.natAbs y / 2 ^ (j + 1)) % z)), Is (.agg #[.bool sb, .slice Ab nb cb]), T2 (ZR w.heap.size (((x ^ (Int.natAbs y / 2 ^ (j + 1)) % z) * (x ^ (Int.natAbs y / 2 ^ (j + 1)) % z)) % z)) (Is (.int .i64 0)), T2 (ZR w.heap.size (((x ^ (Int.natAbs y / 2 ^ (j + 1)) % z) * (x ^ (Int.natAbs y / 2 ^ (j + 1)) % z)) % z)) (Is (.int .i64 0)), ZR w.heap.size (((x ^ (Int.natAbs y / 2 ^ (j + 1)) % z) * (x ^ (Int.natAbs y / 2 ^ (j + 1)) % z)) % z), Is (.int .i64 0)] [[], [], [0, 1], [], [2, 3], [4], [5], [5]] [[], [], [0, 1], [], [0, 1, 2, 3], [0, 1, 2, 3, 4], [0, 1, 2, 3, 4, 5], [0, 1, 2, 3, 4, 5], [0, 1, 2, 3, 4, 5, 6]] rfl
        (obs_cons rfl rfl (hob rfl rfl ?_) (obs_cons rfl rfl (hob rfl rfl ?_) (obs_cons rfl rfl (hob rfl rfl ?_) (obs_cons rfl rfl (hob rfl rfl ?_) (obs_cons rfl rfl (hob rfl rfl ?_) (obs_cons rfl rfl (hob rfl rfl ?_) (obs_float rfl rfl (fob rfl ?_) (obs_float rfl rfl (fob rfl ?_) obs_nil)))))))) ?_
      · -- 0
        intro v175 e176
        have hw2 : Ext w v175 := hw1.trans e176
        refine deps_nil ?_
        refine wl_load rfl rfl (load_agg aggInt (b_8.ext e176) [.bool kp.s, .slice kp.A kp.n kp.c] rfl (Nat.le_of_ble_eq_true rfl) rfl) (by decide) ?_
        exact pi_done rfl (Ext.refl _) rfl
      · -- 1
        intro v177 e178
        have hw2 : Ext w v177 := hw1.trans e178
        refine deps_nil ?_
        refine wl_load rfl rfl (load_agg aggInt (b_8.ext e178) [.bool kp.s, .slice kp.A kp.n kp.c] rfl (Nat.le_of_ble_eq_true rfl) rfl) (by decide) ?_
        exact pi_done rfl (Ext.refl _) rfl
      · -- 2
        intro v179 e180
        have hw2 : Ext w v179 := hw1.trans e180
        refine deps_cons rfl rfl fun x181 y182 h183 e184 f185 => ?_
        obtain rfl := h183
        refine deps_cons rfl rfl fun x186 y187 h188 e189 f190 => ?_
        obtain rfl := h188
        refine deps_nil ?_
        have L191 : ln ((x ^ (Int.natAbs y / 2 ^ (j + 1)) % z) * (x ^ (Int.natAbs y / 2 ^ (j + 1)) % z)) ≤ 17179869184 := Nat.le_trans (ln_mul (Nat.le_trans (ln_emod hm0) Lz) (Nat.le_trans (ln_emod hm0) Lz)) (by decide)
        refine wl_call rfl rfl (vs := [.agg #[.bool kp.s, .slice kp.A kp.n kp.c], .agg #[.bool kp.s, .slice kp.A kp.n kp.c]]) (by kernel_rfl) (by decide) (g_zint_Mul hw2.size (zp.ext e180).zi (zp.le (Nat.le_trans (Nat.le_trans (ln_emod hm0) Lz) (by decide))) (zp.ext e180).zi (zp.le (Nat.le_trans (Nat.le_trans (ln_emod hm0) Lz) (by decide)))) ?_
        rintro _ v192 ⟨xr194, rfl, r194, e193⟩
        refine ret_intro ?_
        have hw3 : Ext w v192 := hw2.trans e193
        obtain ⟨s195, A195, n195, c195, rfl, z195⟩ := r194
        exact pi_done rfl e193 ⟨_, _, _, _, rfl, z195⟩
      · -- 3
        intro v196 e197
        have hw2 : Ext w v196 := hw1.trans e197
        refine deps_nil ?_
        refine wl_load rfl rfl (load_agg aggInt (b_5.ext e197) [.bool sb, .slice Ab nb cb] rfl (Nat.le_of_ble_eq_true rfl) rfl) (by decide) ?_
        exact pi_done rfl (Ext.refl _) rfl
      · -- 4
        intro v198 e199
        have hw2 : Ext w v198 := hw1.trans e199
        refine deps_cons rfl rfl fun x200 y201 h202 e203 f204 => ?_
        obtain ⟨s205, A205, n205, c205, rfl, z205⟩ := h202
        have z205 := z205.ext f204
        refine deps_cons rfl rfl fun x206 y207 h208 e209 f210 => ?_
        obtain rfl := h208
        refine deps_nil ?_
        have L211 : ln (((x ^ (Int.natAbs y / 2 ^ (j + 1)) % z) * (x ^ (Int.natAbs y / 2 ^ (j + 1)) % z)) % z) ≤ 8589934592 := Nat.le_trans (ln_emod hm0) Lz
        refine wl_call rfl rfl (vs := [.agg #[.bool s205, .slice A205 n205 c205], .agg #[.bool sb, .slice Ab nb cb]]) (by kernel_rfl) (by decide) (g_zint_Mod hw2.size z205.zi (z205.le (Nat.le_trans L167 (by decide))) (hz.ext hw2) (Nat.le_trans lb (by decide)) hm0) ?_
        rintro _ v212 ⟨xr214, rfl, r214, e213⟩
        refine ret_intro ?_
        have hw3 : Ext w v212 := hw2.trans e213
        obtain ⟨a215_0, a215_1, rfl, r215_0, r215_1⟩ := r214
        obtain ⟨s216, A216, n216, c216, rfl, z216⟩ := r215_0
        obtain rfl := r215_1
        exact pi_done rfl e213 ⟨_, _, rfl, ⟨_, _, _, _, rfl, z216⟩, rfl⟩
      · -- 5
        intro v217 e218
        have hw2 : Ext w v217 := hw1.trans e218
        refine deps_cons rfl rfl fun x219 y220 h221 e222 f223 => ?_
        obtain ⟨a224_0, a224_1, rfl, r224_0, r224_1⟩ := h221
        obtain ⟨s225, A225, n225, c225, rfl, z225⟩ := r224_0
        obtain rfl := r224_1
        have z225 := z225.ext f223
        refine deps_nil ?_
        refine wl_move rfl rfl (by decide) ?_
        exact pi_done rfl (Ext.refl _) ⟨_, _, rfl, ⟨_, _, _, _, rfl, z225⟩, rfl⟩
      · -- 6
        intro v226 e227
        have hw2 : Ext w v226 := hw1.trans e227
        refine deps_cons rfl rfl fun x228 y229 h230 e231 f232 => ?_
        obtain ⟨a233_0, a233_1, rfl, r233_0, r233_1⟩ := h230
        obtain ⟨s234, A234, n234, c234, rfl, z234⟩ := r233_0
        obtain rfl := r233_1
        have z234 := z234.ext f232
        refine deps_nil ?_
        exact ⟨.agg #[.bool s234, .slice A234 n234 c234], rfl, rfl, fun _ => by kernel_rfl, ⟨_, _, _, _, rfl, z234⟩⟩
      · -- 7
        intro v235 e236
        have hw2 : Ext w v235 := hw1.trans e236
        refine deps_cons rfl rfl fun x237 y238 h239 e240 f241 => ?_
        obtain ⟨a242_0, a242_1, rfl, r242_0, r242_1⟩ := h239
        obtain ⟨s243, A243, n243, c243, rfl, z243⟩ := r242_0
        obtain rfl := r242_1
        have z243 := z243.ext f241
        refine deps_nil ?_
        exact ⟨.int .i64 0, rfl, rfl, fun _ => by kernel_rfl, rfl⟩
      · -- all
        intro v244 e245
        have hw2 : Ext w v244 := hw1.trans e245
        refine deps_cons rfl rfl fun x246 y247 h248 e249 f250 => ?_
        obtain rfl := h248
        refine deps_cons rfl rfl fun x251 y252 h253 e254 f255 => ?_
        obtain rfl := h253
        refine deps_cons rfl rfl fun x256 y257 h258 e259 f260 => ?_
        obtain ⟨s261, A261, n261, c261, rfl, z261⟩ := h258
        have z261 := z261.ext f260
        refine deps_cons rfl rfl fun x262 y263 h264 e265 f266 => ?_
        obtain rfl := h264
        refine deps_cons rfl rfl fun x267 y268 h269 e270 f271 => ?_
        obtain ⟨a272_0, a272_1, rfl, r272_0, r272_1⟩ := h269
        obtain ⟨s273, A273, n273, c273, rfl, z273⟩ := r272_0
        obtain rfl := r272_1
        have z273 := z273.ext f271
        refine deps_cons rfl rfl fun x274 y275 h276 e277 f278 => ?_
        obtain ⟨a279_0, a279_1, rfl, r279_0, r279_1⟩ := h276
        obtain ⟨s280, A280, n280, c280, rfl, z280⟩ := r279_0
        obtain rfl := r279_1
        have z280 := z280.ext f278
        refine deps_cons rfl rfl fun x281 y282 h283 e284 f285 => ?_
        obtain ⟨s286, A286, n286, c286, rfl, z286⟩ := h283
        have z286 := z286.ext f285
        refine deps_cons rfl rfl fun x287 y288 h289 e290 f291 => ?_
        obtain rfl := h289
        refine deps_nil ?_
        have hb293 := (b_8.ext e245)
        refine wl_stored rfl rfl rfl aggInt rfl hb293 (Nat.le_of_ble_eq_true rfl) rfl [.bool s286, .slice A286 n286 c286] rfl fun v292 hb294 u295 hs296 => ?_
        have hw3 : Ext w v292 := u295.ext hw2 ge140
        refine wl_nil ?_
        refine eo_np ?_
        refine eo_then ?_
        refine cw_seq ?_
        by_cases hbit : Int.natAbs y / 2 ^ j % 2 = 1
        ·
          refine cw_region ?_
          refine wl_pure rfl rfl (v := .pointer (some ⟨g6, 1, none⟩)) (by decide) (by kernel_rfl) ?_
          refine wl_load rfl rfl (load_cell cellWords ((b_4.ext e245).updN u295 (by omega)) rfl) (by decide) ?_
          refine wl_move rfl rfl (by decide) ?_
          refine wl_call rfl rfl (vs := [.slice Af nf cf, .int .i64 (j : Int)]) (by kernel_rfl) (by decide) (g_nat_BitI (hy.ext hw3).wi (by omega)) ?_
          rintro _ v297 ⟨xr299, rfl, r299, e298⟩
          refine ret_intro ?_
          have hw4 : Ext w v297 := hw3.trans e298
          obtain rfl := r299
          refine wl_cmp rfl rfl rfl true (eq_t (by omega)) (by decide) ?_
          refine wl_nil ?_
          refine eo_then ?_
          refine cw_true rfl ?_
          have L300 : ln ((((x ^ (Int.natAbs y / 2 ^ (j + 1)) % z) * (x ^ (Int.natAbs y / 2 ^ (j + 1)) % z)) % z) * (x % z)) ≤ 17179869184 := Nat.le_trans (ln_mul L169 L147) (by decide)
          have L302 : ln (((((x ^ (Int.natAbs y / 2 ^ (j + 1)) % z) * (x ^ (Int.natAbs y / 2 ^ (j + 1)) % z)) % z) * (x % z)) % z) ≤ 8589934592 := Nat.le_trans (ln_emod hm0) Lz
          refine cw_draw mix 8 [6, 7] [Is (.agg #[.bool s286, .slice A286 n286 c286]), Is (.agg #[.bool s152, .slice A152 n152 c152]), ZR w.heap.size ((((x ^ (Int.natAbs y / 2 ^ (j + 1)) % z) * (x ^ (Int.natAbs y / 2 ^ (j + 1)) % z)) % z) * (x % z)), Is (.agg #[.bool sb, .slice Ab nb cb]), T2 (ZR w.heap.size (((((x ^ (Int.natAbs y / 2 ^ (j + 1)) % z) * (x ^ (Int.natAbs y / 2 ^ (j + 1)) % z)) % z) * (x % z)) % z)) (Is (.int .i64 0)), T2 (ZR w.heap.size (((((x ^ (Int.natAbs y / 2 ^ (j + 1)) % z) * (x ^ (Int.natAbs y / 2 ^ (j + 1)) % z)) % z) * (x % z)) % z)) (Is (.int .i64 0)), ZR w.heap.size (((((x ^ (Int.natAbs y / 2 ^ (j + 1)) % z) * (x ^ (Int.natAbs y / 2 ^ (j + 1)) % z)) % z) * (x % z)) % z), Is (.int .i64 0)] [[], [], [0, 1], [], [2, 3], [4], [5], [5]] [[], [], [0, 1], [], [0, 1, 2, 3], [0, 1, 2, 3, 4], [0, 1, 2, 3, 4, 5], [0, 1, 2, 3, 4, 5], [0, 1, 2, 3, 4, 5, 6]] rfl
            (obs_cons rfl rfl (hob rfl rfl ?_) (obs_cons rfl rfl (hob rfl rfl ?_) (obs_cons rfl rfl (hob rfl rfl ?_) (obs_cons rfl rfl (hob rfl rfl ?_) (obs_cons rfl rfl (hob rfl rfl ?_) (obs_cons rfl rfl (hob rfl rfl ?_) (obs_float rfl rfl (fob rfl ?_) (obs_float rfl rfl (fob rfl ?_) obs_nil)))))))) ?_
          · -- 0
            intro v308 e309
            have hw5 : Ext w v308 := hw4.trans e309
            refine deps_nil ?_
            refine wl_load rfl rfl (load_agg aggInt (hb294.ext (e298.trans e309)) [.bool s286, .slice A286 n286 c286] rfl (Nat.le_of_ble_eq_true rfl) rfl) (by decide) ?_
            exact pi_done rfl (Ext.refl _) rfl
          · -- 1
            intro v310 e311
            have hw5 : Ext w v310 := hw4.trans e311
            refine deps_nil ?_
            refine wl_load rfl rfl (load_agg aggInt (((b_10.ext e245).updN u295 (by omega)).ext (e298.trans e311)) [.bool s152, .slice A152 n152 c152] rfl (Nat.le_of_ble_eq_true rfl) rfl) (by decide) ?_
            exact pi_done rfl (Ext.refl _) rfl
          · -- 2
            intro v312 e313
            have hw5 : Ext w v312 := hw4.trans e313
            refine deps_cons rfl rfl fun x314 y315 h316 e317 f318 => ?_
            obtain rfl := h316
            refine deps_cons rfl rfl fun x319 y320 h321 e322 f323 => ?_
            obtain rfl := h321
            refine deps_nil ?_
            have L324 : ln ((((x ^ (Int.natAbs y / 2 ^ (j + 1)) % z) * (x ^ (Int.natAbs y / 2 ^ (j + 1)) % z)) % z) * (x % z)) ≤ 17179869184 := Nat.le_trans (ln_mul L169 L147) (by decide)
            refine wl_call rfl rfl (vs := [.agg #[.bool s286, .slice A286 n286 c286], .agg #[.bool s152, .slice A152 n152 c152]]) (by kernel_rfl) (by decide) (g_zint_Mul hw5.size ((z286.updT hb293 u295).ext (e298.trans e313)).zi (z286.le (Nat.le_trans L169 (by decide))) (((zb.ext e245).updT hb293 u295).ext (e298.trans e313)).zi (zb.le (Nat.le_trans L147 (by decide)))) ?_
            rintro _ v325 ⟨xr327, rfl, r327, e326⟩
            refine ret_intro ?_
            have hw6 : Ext w v325 := hw5.trans e326
            obtain ⟨s328, A328, n328, c328, rfl, z328⟩ := r327
            exact pi_done rfl e326 ⟨_, _, _, _, rfl, z328⟩
          · -- 3
            intro v329 e330
            have hw5 : Ext w v329 := hw4.trans e330
            refine deps_nil ?_
            refine wl_load rfl rfl (load_agg aggInt (((b_5.ext e245).updN u295 (by omega)).ext (e298.trans e330)) [.bool sb, .slice Ab nb cb] rfl (Nat.le_of_ble_eq_true rfl) rfl) (by decide) ?_
            exact pi_done rfl (Ext.refl _) rfl
          · -- 4
            intro v331 e332
            have hw5 : Ext w v331 := hw4.trans e332
            refine deps_cons rfl rfl fun x333 y334 h335 e336 f337 => ?_
            obtain ⟨s338, A338, n338, c338, rfl, z338⟩ := h335
            have z338 := z338.ext f337
            refine deps_cons rfl rfl fun x339 y340 h341 e342 f343 => ?_
            obtain rfl := h341
            refine deps_nil ?_
            have L344 : ln (((((x ^ (Int.natAbs y / 2 ^ (j + 1)) % z) * (x ^ (Int.natAbs y / 2 ^ (j + 1)) % z)) % z) * (x % z)) % z) ≤ 8589934592 := Nat.le_trans (ln_emod hm0) Lz
            refine wl_call rfl rfl (vs := [.agg #[.bool s338, .slice A338 n338 c338], .agg #[.bool sb, .slice Ab nb cb]]) (by kernel_rfl) (by decide) (g_zint_Mod hw5.size z338.zi (z338.le (Nat.le_trans L300 (by decide))) (hz.ext hw5) (Nat.le_trans lb (by decide)) hm0) ?_
            rintro _ v345 ⟨xr347, rfl, r347, e346⟩
            refine ret_intro ?_
            have hw6 : Ext w v345 := hw5.trans e346
            obtain ⟨a348_0, a348_1, rfl, r348_0, r348_1⟩ := r347
            obtain ⟨s349, A349, n349, c349, rfl, z349⟩ := r348_0
            obtain rfl := r348_1
            exact pi_done rfl e346 ⟨_, _, rfl, ⟨_, _, _, _, rfl, z349⟩, rfl⟩
          · -- 5
            intro v350 e351
            have hw5 : Ext w v350 := hw4.trans e351
            refine deps_cons rfl rfl fun x352 y353 h354 e355 f356 => ?_
            obtain ⟨a357_0, a357_1, rfl, r357_0, r357_1⟩ := h354
            obtain ⟨s358, A358, n358, c358, rfl, z358⟩ := r357_0
            obtain rfl := r357_1
            have z358 := z358.ext f356
            refine deps_nil ?_
            refine wl_move rfl rfl (by decide) ?_
            exact pi_done rfl (Ext.refl _) ⟨_, _, rfl, ⟨_, _, _, _, rfl, z358⟩, rfl⟩
          · -- 6
            intro v359 e360
            have hw5 : Ext w v359 := hw4.trans e360
            refine deps_cons rfl rfl fun x361 y362 h363 e364 f365 => ?_
            obtain ⟨a366_0, a366_1, rfl, r366_0, r366_1⟩ := h363
            obtain ⟨s367, A367, n367, c367, rfl, z367⟩ := r366_0
            obtain rfl := r366_1
            have z367 := z367.ext f365
            refine deps_nil ?_
            exact ⟨.agg #[.bool s367, .slice A367 n367 c367], rfl, rfl, fun _ => by kernel_rfl, ⟨_, _, _, _, rfl, z367⟩⟩
          · -- 7
            intro v368 e369
            have hw5 : Ext w v368 := hw4.trans e369
            refine deps_cons rfl rfl fun x370 y371 h372 e373 f374 => ?_
            obtain ⟨a375_0, a375_1, rfl, r375_0, r375_1⟩ := h372
            obtain ⟨s376, A376, n376, c376, rfl, z376⟩ := r375_0
            obtain rfl := r375_1
            have z376 := z376.ext f374
            refine deps_nil ?_
            exact ⟨.int .i64 0, rfl, rfl, fun _ => by kernel_rfl, rfl⟩
          · -- all
            intro v377 e378
            have hw5 : Ext w v377 := hw4.trans e378
            refine deps_cons rfl rfl fun x379 y380 h381 e382 f383 => ?_
            obtain rfl := h381
            refine deps_cons rfl rfl fun x384 y385 h386 e387 f388 => ?_
            obtain rfl := h386
            refine deps_cons rfl rfl fun x389 y390 h391 e392 f393 => ?_
            obtain ⟨s394, A394, n394, c394, rfl, z394⟩ := h391
            have z394 := z394.ext f393
            refine deps_cons rfl rfl fun x395 y396 h397 e398 f399 => ?_
            obtain rfl := h397
            refine deps_cons rfl rfl fun x400 y401 h402 e403 f404 => ?_
            obtain ⟨a405_0, a405_1, rfl, r405_0, r405_1⟩ := h402
            obtain ⟨s406, A406, n406, c406, rfl, z406⟩ := r405_0
            obtain rfl := r405_1
            have z406 := z406.ext f404
            refine deps_cons rfl rfl fun x407 y408 h409 e410 f411 => ?_
            obtain ⟨a412_0, a412_1, rfl, r412_0, r412_1⟩ := h409
            obtain ⟨s413, A413, n413, c413, rfl, z413⟩ := r412_0
            obtain rfl := r412_1
            have z413 := z413.ext f411
            refine deps_cons rfl rfl fun x414 y415 h416 e417 f418 => ?_
            obtain ⟨s419, A419, n419, c419, rfl, z419⟩ := h416
            have z419 := z419.ext f418
            refine deps_cons rfl rfl fun x420 y421 h422 e423 f424 => ?_
            obtain rfl := h422
            refine deps_nil ?_
            have hb426 := (hb294.ext (e298.trans e378))
            refine wl_stored rfl rfl rfl aggInt rfl hb426 (Nat.le_of_ble_eq_true rfl) rfl [.bool s419, .slice A419 n419 c419] rfl fun v425 hb427 u428 hs429 => ?_
            have hw6 : Ext w v425 := u428.ext hw5 ge140
            refine wl_nil ?_
            refine eo_np ?_
            refine eo_block_normal ?_
            refine eo_then ?_
            refine cw_region ?_
            refine wl_move rfl rfl (by decide) ?_
            refine wl_ar rfl rfl rfl ((j : Int) - 1) (ar_i64s rfl (by omega) (by omega)) (by decide) ?_
            refine wl_assign rfl rfl (by decide) ?_
            refine wl_nil ?_
            refine eo_round (⟨v425, j, (j : Int) - 1, ⟨s419, A419, n419, c419⟩⟩ : World × Nat × Int × ZC) ⟨hw6, (by omega), rfl, ((((b_3.ext e245).updN u295 (by omega)).ext (e298.trans e378)).updN u428 (by omega)), ((((b_4.ext e245).updN u295 (by omega)).ext (e298.trans e378)).updN u428 (by omega)), ((((b_5.ext e245).updN u295 (by omega)).ext (e298.trans e378)).updN u428 (by omega)), ((((b_6.ext e245).updN u295 (by omega)).ext (e298.trans e378)).updN u428 (by omega)), hb427, ((((b_10.ext e245).updN u295 (by omega)).ext (e298.trans e378)).updN u428 (by omega)), ((z419.updT hb426 u428)).cast (pow_odd hbit), ((((zb.ext e245).updT hb293 u295).ext (e298.trans e378)).updT hb426 u428)⟩ (show j < j + 1 by omega) rfl ⟨rfl, rfl, rfl, rfl, rfl, rfl, rfl, rfl, trivial⟩
        ·
          refine cw_region ?_
          refine wl_pure rfl rfl (v := .pointer (some ⟨g6, 1, none⟩)) (by decide) (by kernel_rfl) ?_
          refine wl_load rfl rfl (load_cell cellWords ((b_4.ext e245).updN u295 (by omega)) rfl) (by decide) ?_
          refine wl_move rfl rfl (by decide) ?_
          refine wl_call rfl rfl (vs := [.slice Af nf cf, .int .i64 (j : Int)]) (by kernel_rfl) (by decide) (g_nat_BitI (hy.ext hw3).wi (by omega)) ?_
          rintro _ v430 ⟨xr432, rfl, r432, e431⟩
          refine ret_intro ?_
          have hw4 : Ext w v430 := hw3.trans e431
          obtain rfl := r432
          refine wl_cmp rfl rfl rfl false (eq_f (by omega)) (by decide) ?_
          refine wl_nil ?_
          refine eo_then ?_
          refine cw_false rfl ?_
          refine cw_skip ?_
          refine eo_block_normal ?_
          refine eo_then ?_
          refine cw_region ?_
          refine wl_move rfl rfl (by decide) ?_
          refine wl_ar rfl rfl rfl ((j : Int) - 1) (ar_i64s rfl (by omega) (by omega)) (by decide) ?_
          refine wl_assign rfl rfl (by decide) ?_
          refine wl_nil ?_
          refine eo_round (⟨v430, j, (j : Int) - 1, ⟨s286, A286, n286, c286⟩⟩ : World × Nat × Int × ZC) ⟨hw4, (by omega), rfl, (((b_3.ext e245).updN u295 (by omega)).ext e431), (((b_4.ext e245).updN u295 (by omega)).ext e431), (((b_5.ext e245).updN u295 (by omega)).ext e431), (((b_6.ext e245).updN u295 (by omega)).ext e431), (hb294.ext e431), (((b_10.ext e245).updN u295 (by omega)).ext e431), (((z286.updT hb293 u295).ext e431)).cast (pow_even hbit), (((zb.ext e245).updT hb293 u295).ext e431)⟩ (show j < j + 1 by omega) rfl ⟨rfl, rfl, rfl, rfl, rfl, rfl, rfl, rfl, trivial⟩
    ·
      obtain rfl : k = 0 := by omega
      refine cw_region ?_
      refine wl_move rfl rfl (by decide) ?_
      refine wl_cmp rfl rfl rfl false (ge_f (by omega)) (by decide) ?_
      refine wl_nil ?_
      refine eo_then ?_
      refine cw_false rfl ?_
      refine cw_exit ?_
      refine eo_thenX ?_
      refine eo_loopX ?_
      refine eo_block_here ?_
      refine eo_then ?_
      refine cw_seq ?_
      refine cw_region ?_
      refine wl_load rfl rfl (load_agg aggInt b_8 [.bool kp.s, .slice kp.A kp.n kp.c] rfl (Nat.le_of_ble_eq_true rfl) rfl) (by decide) ?_
      have hb434 := b_6
      refine wl_stored rfl rfl rfl aggInt rfl hb434 (Nat.le_of_ble_eq_true rfl) rfl [.bool kp.s, .slice kp.A kp.n kp.c] rfl fun v433 hb435 u436 hs437 => ?_
      have hw2 : Ext w v433 := u436.ext hw1 ge22
      refine wl_assign rfl rfl (by decide) ?_
      refine wl_nil ?_
      refine eo_then ?_
      refine cw_ret ?_
      refine eo_ret [.agg #[.bool kp.s, .slice kp.A kp.n kp.c], .int .i64 0] rfl ⟨⟨_, rfl, load_agg aggInt hb435 [.bool kp.s, .slice kp.A kp.n kp.c] rfl (Nat.le_of_ble_eq_true rfl) rfl⟩, rfl, trivial⟩ ?_
      exact ⟨_, rfl, ⟨_, _, rfl, ⟨_, _, _, _, rfl, ((zp.updT hb434 u436)).cast (by rw [Nat.pow_zero, Nat.div_one])⟩, rfl⟩, hw2⟩
theorem g_bezout_PowMod_ok {w : World} {sa : Bool} {Aa : Option Addr} {na ca : Nat} {x : Int} {sf : Bool} {Af : Option Addr} {nf cf : Nat} {y : Int} {sb : Bool} {Ab : Option Addr} {nb cb : Nat} {z : Int} {b : Nat} (hb : b ≤ w.heap.size)  (hx : Zi w sa Aa na ca x) (la : na ≤ 8589934592) (hy : Zi w sf Af nf cf y) (lf : nf ≤ 8589934592) (hz : Zi w sb Ab nb cb z) (lb : nb ≤ 8589934592) (h0 : 0 ≤ y) (hm0 : z ≠ 0) :
    Calls Try.prog 28 #[.agg #[.bool sa, .slice Aa na ca], .agg #[.bool sf, .slice Af nf cf], .agg #[.bool sb, .slice Ab nb cb]] w (Gv w (T2 (ZR b (x ^ Int.natAbs y % z)) (Is (.int .i64 0)))) := (g_bezout_PowMod_okI hx la hy lf hz lb h0 hm0).mono (Gv.imp (T2.imp (ZR.imp hb) Is.imp))
end Go.Proofs.Ytmaconeeonkdgaa

namespace Go.Proofs.Ytmaconeeonkdgaa
open Go.RowKit
theorem cellU8 : ∀ w, (isAgg 5).run Try.prog w = .ok false w := fun _ => by kernel_rfl
theorem cv_u8 {x : Nat} (h : x ≤ 255) : Value.int .u64 (IntKind.u64.wrap (x : Int)) = .int .u64 (x : Int) := by rw [IntWalk.u64_in _ ⟨by omega, by omega⟩]
theorem emod_in {a z : Int} (h : z ≠ 0) : 0 ≤ a % z ∧ a % z < z.natAbs := ⟨Int.emod_nonneg _ h, by have := Int.emod_lt a h; omega⟩
theorem pw_in {p a z : Int} (hp : p = a % z) (h : z ≠ 0) : 0 ≤ p ∧ p < z.natAbs := by rw [hp]; exact emod_in h
theorem pw_add {p q s x z : Int} {e f : Nat} (hp : p = x ^ e % z) (hq : q = x ^ f % z) (hs : s = x ^ (e + f) % z) : z ∣ p * q - s := by
  rw [hp, hq, hs]
  refine Int.dvd_of_emod_eq_zero ?_
  rw [Int.sub_emod, ← Int.mul_emod, Int.emod_emod, ← Int.pow_add, Int.sub_self, Int.zero_emod]
theorem pw_pow {a z : Int} (f : Nat) : (a % z) ^ f % z = a ^ f % z := by
  induction f with
  | zero => rw [Int.pow_zero, Int.pow_zero]
  | succ f ih => rw [Int.pow_succ, Int.pow_succ, Int.mul_emod, ih, Int.emod_emod, ← Int.mul_emod]
theorem pw_mul {p u v x z : Int} {e f : Nat} (hp : p = x ^ e % z) (hu : u = p ^ f % z) (hv : v = x ^ (e * f) % z) : v = u := by rw [hu, hv, hp, pw_pow, Int.pow_mul]
theorem pw_zero {p x z : Int} (hp : p = x ^ 0 % z) : z ∣ p - ((1 : Nat) : Int) := by
  rw [hp]
  refine Int.dvd_of_emod_eq_zero ?_
  rw [Int.pow_zero, Int.sub_emod, Int.emod_emod]
  show (1 % z - 1 % z) % z = 0
  rw [Int.sub_self, Int.zero_emod]
theorem pw_one {p x z : Int} (hp : p = x ^ 1 % z) : z ∣ p - x := by
  rw [hp]
  refine Int.dvd_of_emod_eq_zero ?_
  rw [Int.pow_succ, Int.pow_zero, Int.one_mul, Int.sub_emod, Int.emod_emod, Int.sub_self, Int.zero_emod]
theorem pw_ln {p a z : Int} {k : Nat} (hp : p = a % z) (h : z ≠ 0) (hl : ln z ≤ k) : ln p ≤ k := by rw [hp]; exact Nat.le_trans (ln_emod h) hl
section
variable {w : World} {b : Nat} (hb : b ≤ w.heap.size) {s t u : Bool} {A B C : Option Addr} {n cap m cap' k cap'' e : Nat} {x z : Int}
include hb
theorem g_pow_nat (hx : Zi w s A n cap x) (hl : n ≤ 8589934592) (he : Zi w t B m cap' ((e : Nat) : Int)) (hl' : m ≤ 8589934592) (hz : Zi w u C k cap'' z) (hl'' : k ≤ 8589934592) (h0 : z ≠ 0) {p : Int} (hp : p = x ^ e % z) :
    Calls Try.prog 28 #[.agg #[.bool s, .slice A n cap], .agg #[.bool t, .slice B m cap'], .agg #[.bool u, .slice C k cap'']] w (Gv w (T2 (ZR b p) (Is (.int .i64 0)))) := by
  have h := g_bezout_PowMod_ok hb hx hl he hl' hz hl'' (by omega) h0
  rw [Int.natAbs_natCast, ← hp] at h
  exact h
end
set_option maxHeartbeats 4000000 in
set_option maxRecDepth 20000 in
theorem law_BezoutPowers {w : World} {sa : Bool} {Aa : Option Addr} {na ca : Nat} {x : Int} {sb : Bool} {Ab : Option Addr} {nb cb : Nat} {z : Int} (hx : Zi w sa Aa na ca x) (la : na ≤ 1048576) (hz : Zi w sb Ab nb cb z) (lb : nb ≤ 1048576) {e f : Nat} (he : e ≤ 255) (hf : f ≤ 255)  :
    Calls Try.prog 5 #[.agg #[.bool sa, .slice Aa na ca], .agg #[.bool sb, .slice Ab nb cb], .agg #[.int .u8 ((e : Nat) : Int), .int .u8 ((f : Nat) : Int)]] w (BoolP true w) := by
  have Lx : ln x ≤ 1048576 := Nat.le_trans hx.ln la
  have Lz : ln z ≤ 1048576 := Nat.le_trans hz.ln lb
  have hef : e * f ≤ 255 * 255 := Nat.mul_le_mul he hf
  refine sx_enter Try.func5 rfl (n := 204) rfl (Nat.le_of_ble_eq_true rfl) (args := [.agg #[.bool sa, .slice Aa na ca], .agg #[.bool sb, .slice Ab nb cb], .agg #[.int .u8 ((e : Nat) : Int), .int .u8 ((f : Nat) : Int)]]) ?_
  refine cw_keep [(0, .agg #[.bool sa, .slice Aa na ca]), (1, .agg #[.bool sb, .slice Ab nb cb]), (2, .agg #[.int .u8 ((e : Nat) : Int), .int .u8 ((f : Nat) : Int)])] ⟨rfl, rfl, rfl, trivial⟩ ?_
  refine cw_seq ?_
  refine cw_region ?_
  refine wl_box rfl rfl (vs := [.bool sa, .slice Aa na ca]) rfl (by decide) fun g1 v2 nb => ?_
  have hb4 := nb.bk
  have ge5 : w.heap.size ≤ g1 := by rw [← nb.at_]; exact (Ext.refl w).size
  have e3 := nb.ext
  clear nb
  have hw1 : Ext w v2 := (Ext.refl w).trans e3
  refine wl_box rfl rfl (vs := [.bool sb, .slice Ab nb cb]) rfl (by decide) fun g6 v7 nb => ?_
  have hb9 := nb.bk
  have ge10 : w.heap.size ≤ g6 := by rw [← nb.at_]; exact hw1.size
  have q11 : g1 < g6 := by rw [← nb.at_]; exact hb4.lt
  have e8 := nb.ext
  clear nb
  have hw2 : Ext w v7 := hw1.trans e8
  refine wl_box rfl rfl (vs := [.int .u8 ((e : Nat) : Int), .int .u8 ((f : Nat) : Int)]) rfl (by decide) fun g12 v13 nb => ?_
  have hb15 := nb.bk
  have ge16 : w.heap.size ≤ g12 := by rw [← nb.at_]; exact hw2.size
  have q17 : g6 < g12 := by rw [← nb.at_]; exact hb9.lt
  have e14 := nb.ext
  clear nb
  have hw3 : Ext w v13 := hw2.trans e14
  refine wl_assign rfl rfl (by decide) ?_
  refine wl_nil ?_
  refine eo_then ?_
  refine cw_seq ?_
  refine cw_seq ?_
  refine cw_region ?_
  refine wl_call rfl rfl (vs := []) (by kernel_rfl) (by decide) (g_law6_wakes _) ?_
  rintro _ v18 ⟨xr20, rfl, r20, e19⟩
  refine ret_intro ?_
  have hw4 : Ext w v18 := hw3.trans e19
  obtain rfl := r20
  refine wl_pure rfl rfl (v := .bool false) (by decide) (by kernel_rfl) ?_
  refine wl_nil ?_
  refine eo_then ?_
  refine cw_false rfl ?_
  refine cw_skip ?_
  refine eo_then ?_
  refine cw_seq ?_
  refine cw_region ?_
  refine wl_pure rfl rfl (v := .pointer (some ⟨g12, 0, none⟩)) (by decide) (by kernel_rfl) ?_
  refine wl_load rfl rfl (load_cell cellU8 (hb15.ext e19) rfl) (by decide) ?_
  refine wl_assign rfl rfl (by decide) ?_
  refine wl_nil ?_
  refine eo_then ?_
  refine cw_seq ?_
  refine cw_region ?_
  refine wl_pure rfl rfl (v := .pointer (some ⟨g12, 1, none⟩)) (by decide) (by kernel_rfl) ?_
  refine wl_load rfl rfl (load_cell cellU8 (hb15.ext e19) rfl) (by decide) ?_
  refine wl_assign rfl rfl (by decide) ?_
  refine wl_nil ?_
  refine eo_then ?_
  refine cw_seq ?_
  by_cases hm0 : z = 0
  ·
    refine cw_draw mix 10 [7, 8] [Is (.agg #[.bool sa, .slice Aa na ca]), Is (.int .u8 ((e : Nat) : Int)), Is (.int .u64 ((e : Nat) : Int)), ZO w.heap.size (e), Is (.agg #[.bool sb, .slice Ab nb cb]), T2 (ZR w.heap.size (0)) (Is (.int .i64 4)), T2 (ZR w.heap.size (0)) (Is (.int .i64 4)), ZR w.heap.size (0), Is (.int .i64 4), PR v18.heap.size 27 [.bool false, .slice none 0 0]] [[], [], [1], [2], [], [0, 3, 4], [5], [6], [6], []] [[], [], [1], [1, 2], [], [0, 1, 2, 3, 4], [0, 1, 2, 3, 4, 5], [0, 1, 2, 3, 4, 5, 6], [0, 1, 2, 3, 4, 5, 6], [], [0, 1, 2, 3, 4, 5, 6, 7, 9], [0, 1, 2, 3, 4, 5, 6, 7, 8, 9, 10]] rfl
      (obs_cons rfl rfl (hob rfl rfl ?_) (obs_cons rfl rfl (hob rfl rfl ?_) (obs_cons rfl rfl (hob rfl rfl ?_) (obs_cons rfl rfl (hob rfl rfl ?_) (obs_cons rfl rfl (hob rfl rfl ?_) (obs_cons rfl rfl (hob rfl rfl ?_) (obs_cons rfl rfl (hob rfl rfl ?_) (obs_float rfl rfl (fob rfl ?_) (obs_float rfl rfl (fob rfl ?_) (obs_cons rfl rfl (hob rfl rfl ?_) obs_nil)))))))))) ?_
    · -- 0
      intro v27 e28
      have hw5 : Ext w v27 := hw4.trans e28
      refine deps_nil ?_
      refine wl_load rfl rfl (load_agg aggInt (hb4.ext (e8.trans (e14.trans (e19.trans e28)))) [.bool sa, .slice Aa na ca] rfl (Nat.le_of_ble_eq_true rfl) rfl) (by decide) ?_
      exact pi_done rfl (Ext.refl _) rfl
    · -- 1
      intro v29 e30
      have hw5 : Ext w v29 := hw4.trans e30
      refine deps_nil ?_
      refine wl_move rfl rfl (by decide) ?_
      exact pi_done rfl (Ext.refl _) rfl
    · -- 2
      intro v31 e32
      have hw5 : Ext w v31 := hw4.trans e32
      refine deps_cons rfl rfl fun x33 y34 h35 e36 f37 => ?_
      obtain rfl := h35
      refine deps_nil ?_
      refine wl_pureE rfl rfl (v := .int .u64 (IntKind.u64.wrap ((e : Nat) : Int))) (v' := .int .u64 ((e : Nat) : Int)) (by decide) (by kernel_rfl) (cv_u8 (by omega)) ?_
      exact pi_done rfl (Ext.refl _) rfl
    · -- 3
      intro v38 e39
      have hw5 : Ext w v38 := hw4.trans e39
      refine deps_cons rfl rfl fun x40 y41 h42 e43 f44 => ?_
      obtain rfl := h42
      refine deps_nil ?_
      refine wl_call rfl rfl (vs := [.int .u64 ((e : Nat) : Int)]) (by kernel_rfl) (by decide) (g_law6_of hw5.size (by omega : e ≤ 18446744073709551615)) ?_
      rintro _ v45 ⟨xr47, rfl, r47, e46⟩
      refine ret_intro ?_
      have hw6 : Ext w v45 := hw5.trans e46
      obtain ⟨A48, rfl, o48⟩ := r47
      exact pi_done rfl e46 ⟨_, rfl, o48⟩
    · -- 4
      intro v49 e50
      have hw5 : Ext w v49 := hw4.trans e50
      refine deps_nil ?_
      refine wl_load rfl rfl (load_agg aggInt (hb9.ext (e14.trans (e19.trans e50))) [.bool sb, .slice Ab nb cb] rfl (Nat.le_of_ble_eq_true rfl) rfl) (by decide) ?_
      exact pi_done rfl (Ext.refl _) rfl
    · -- 5
      intro v51 e52
      have hw5 : Ext w v51 := hw4.trans e52
      refine deps_cons rfl rfl fun x53 y54 h55 e56 f57 => ?_
      obtain rfl := h55
      refine deps_cons rfl rfl fun x58 y59 h60 e61 f62 => ?_
      obtain ⟨A63, rfl, o63⟩ := h60
      have o63 := o63.ext f62
      refine deps_cons rfl rfl fun x64 y65 h66 e67 f68 => ?_
      obtain rfl := h66
      refine deps_nil ?_
      refine wl_call rfl rfl (vs := [.agg #[.bool sa, .slice Aa na ca], .agg #[.bool false, .slice A63 1 1], .agg #[.bool sb, .slice Ab nb cb]]) (by kernel_rfl) (by decide) (g_bezout_PowMod_zero hw5.size (hx.ext hw5) (Nat.le_trans la (by decide)) (own1_zi o63 (by omega : e ≤ 18446744073709551615)) (by decide) (hz.ext hw5) (Nat.le_trans lb (by decide)) (by omega) hm0) ?_
      rintro _ v69 ⟨xr71, rfl, r71, e70⟩
      refine ret_intro ?_
      have hw6 : Ext w v69 := hw5.trans e70
      obtain ⟨a72_0, a72_1, rfl, r72_0, r72_1⟩ := r71
      obtain ⟨s73, A73, n73, c73, rfl, z73⟩ := r72_0
      obtain rfl := r72_1
      exact pi_done rfl e70 ⟨_, _, rfl, ⟨_, _, _, _, rfl, z73⟩, rfl⟩
    · -- 6
      intro v74 e75
      have hw5 : Ext w v74 := hw4.trans e75
      refine deps_cons rfl rfl fun x76 y77 h78 e79 f80 => ?_
      obtain ⟨a81_0, a81_1, rfl, r81_0, r81_1⟩ := h78
      obtain ⟨s82, A82, n82, c82, rfl, z82⟩ := r81_0
      obtain rfl := r81_1
      have z82 := z82.ext f80
      refine deps_nil ?_
      refine wl_move rfl rfl (by decide) ?_
      exact pi_done rfl (Ext.refl _) ⟨_, _, rfl, ⟨_, _, _, _, rfl, z82⟩, rfl⟩
    · -- 7
      intro v83 e84
      have hw5 : Ext w v83 := hw4.trans e84
      refine deps_cons rfl rfl fun x85 y86 h87 e88 f89 => ?_
      obtain ⟨a90_0, a90_1, rfl, r90_0, r90_1⟩ := h87
      obtain ⟨s91, A91, n91, c91, rfl, z91⟩ := r90_0
      obtain rfl := r90_1
      have z91 := z91.ext f89
      refine deps_nil ?_
      exact ⟨.agg #[.bool s91, .slice A91 n91 c91], rfl, rfl, fun _ => by kernel_rfl, ⟨_, _, _, _, rfl, z91⟩⟩
    · -- 8
      intro v92 e93
      have hw5 : Ext w v92 := hw4.trans e93
      refine deps_cons rfl rfl fun x94 y95 h96 e97 f98 => ?_
      obtain ⟨a99_0, a99_1, rfl, r99_0, r99_1⟩ := h96
      obtain ⟨s100, A100, n100, c100, rfl, z100⟩ := r99_0
      obtain rfl := r99_1
      have z100 := z100.ext f98
      refine deps_nil ?_
      exact ⟨.int .i64 4, rfl, rfl, fun _ => by kernel_rfl, rfl⟩
    · -- 9
      intro v101 e102
      have hw5 : Ext w v101 := hw4.trans e102
      refine deps_nil ?_
      refine wl_alloc rfl (z := .agg #[.bool false, .slice none 0 0]) (vs := [.bool false, .slice none 0 0]) (fun _ => by kernel_rfl) rfl (by decide) fun g103 v104 nb => ?_
      exact pi_done rfl nb.ext ⟨_, rfl, by rw [← nb.at_]; exact e102.size, nb.bk⟩
    · -- all
      intro v105 e106
      have hw5 : Ext w v105 := hw4.trans e106
      refine deps_cons rfl rfl fun x107 y108 h109 e110 f111 => ?_
      obtain rfl := h109
      refine deps_cons rfl rfl fun x112 y113 h114 e115 f116 => ?_
      obtain rfl := h114
      refine deps_cons rfl rfl fun x117 y118 h119 e120 f121 => ?_
      obtain rfl := h119
      refine deps_cons rfl rfl fun x122 y123 h124 e125 f126 => ?_
      obtain ⟨A127, rfl, o127⟩ := h124
      have o127 := o127.ext f126
      refine deps_cons rfl rfl fun x128 y129 h130 e131 f132 => ?_
      obtain rfl := h130
      refine deps_cons rfl rfl fun x133 y134 h135 e136 f137 => ?_
      obtain ⟨a138_0, a138_1, rfl, r138_0, r138_1⟩ := h135
      obtain ⟨s139, A139, n139, c139, rfl, z139⟩ := r138_0
      obtain rfl := r138_1
      have z139 := z139.ext f137
      refine deps_cons rfl rfl fun x140 y141 h142 e143 f144 => ?_
      obtain ⟨a145_0, a145_1, rfl, r145_0, r145_1⟩ := h142
      obtain ⟨s146, A146, n146, c146, rfl, z146⟩ := r145_0
      obtain rfl := r145_1
      have z146 := z146.ext f144
      refine deps_cons rfl rfl fun x147 y148 h149 e150 f151 => ?_
      obtain ⟨s152, A152, n152, c152, rfl, z152⟩ := h149
      have z152 := z152.ext f151
      refine deps_cons rfl rfl fun x153 y154 h155 e156 f157 => ?_
      obtain rfl := h155
      refine deps_cons rfl rfl fun x158 y159 h160 e161 f162 => ?_
      obtain ⟨g163, rfl, ge165, hb164⟩ := h160
      have hb164 := hb164.ext f162
      have q166 : g12 < g163 := Nat.lt_of_lt_of_le (hb15.ext e19).lt ge165
      have ge165 : w.heap.size ≤ g163 := Nat.le_trans hw4.size ge165
      refine deps_nil ?_
      have hb168 := hb164
      refine wl_stored rfl rfl rfl aggInt rfl hb168 (Nat.le_of_ble_eq_true rfl) rfl [.bool s152, .slice A152 n152 c152] rfl fun v167 hb169 u170 hs171 => ?_
      have hw6 : Ext w v167 := u170.ext hw5 ge165
      refine wl_assign rfl rfl (by decide) ?_
      refine wl_nil ?_
      refine eo_np ?_
      refine eo_then ?_
      refine cw_seq ?_
      refine cw_seq ?_
      refine cw_region ?_
      refine wl_load rfl rfl (load_agg aggInt ((hb9.ext (e14.trans (e19.trans e106))).updN u170 (by omega)) [.bool sb, .slice Ab nb cb] rfl (Nat.le_of_ble_eq_true rfl) rfl) (by decide) ?_
      refine wl_call rfl rfl (vs := [.agg #[.bool sb, .slice Ab nb cb]]) (by kernel_rfl) (by decide) (g_ref5_Sign (hz.ext hw6) (Nat.le_trans lb (by decide))) ?_
      rintro _ v172 ⟨xr174, rfl, r174, e173⟩
      refine ret_intro ?_
      have hw7 : Ext w v172 := hw6.trans e173
      obtain rfl := r174
      refine wl_cmp rfl rfl rfl true (scmp_eq_t hm0) (by decide) ?_
      refine wl_nil ?_
      refine eo_then ?_
      refine cw_true rfl ?_
      refine cw_seq ?_
      refine cw_region ?_
      refine wl_move rfl rfl (by decide) ?_
      refine wl_pure rfl rfl (v := .bool true) (by decide) (by kernel_rfl) ?_
      refine wl_move rfl rfl (by decide) ?_
      refine wl_load rfl rfl (load_agg aggInt (hb169.ext e173) [.bool s152, .slice A152 n152 c152] rfl (Nat.le_of_ble_eq_true rfl) rfl) (by decide) ?_
      refine wl_pure rfl rfl (v := .agg #[.bool false, .slice none 0 0]) (by decide) (by kernel_rfl) ?_
      refine wl_call rfl rfl (vs := [.agg #[.bool s152, .slice A152 n152 c152], .agg #[.bool false, .slice none 0 0]]) (by kernel_rfl) (by decide) (g_law6_alike ((z152.updT hb168 u170).ext e173) (z152.le (Nat.le_trans (show ln 0 ≤ 0 by decide) (by decide))) (Zr.zero (w := v172) (base := w.heap.size)) ((Zr.zero (w := v172) (base := w.heap.size)).le (Nat.le_trans (by decide : ln 0 ≤ 0) (by decide)))) ?_
      rintro _ v175 ⟨xr177, rfl, r177, e176⟩
      refine ret_intro ?_
      have hw8 : Ext w v175 := hw7.trans e176
      obtain rfl := r177
      refine wl_pure rfl rfl (v := .bool true) (by decide) (by kernel_rfl) ?_
      refine wl_assign rfl rfl (by decide) ?_
      refine wl_nil ?_
      refine eo_then ?_
      refine cw_ret ?_
      refine eo_thenR ?_
      refine eo_ret [.bool true] rfl ⟨rfl, trivial⟩ ?_
      exact bool_of _ _ ⟨_, rfl, rfl, hw8⟩
  ·
    obtain ⟨P1, hP1⟩ : ∃ p : Int, p = x ^ (e) % z := ⟨_, rfl⟩
    refine cw_draw mix 10 [7, 8] [Is (.agg #[.bool sa, .slice Aa na ca]), Is (.int .u8 ((e : Nat) : Int)), Is (.int .u64 ((e : Nat) : Int)), ZO w.heap.size (e), Is (.agg #[.bool sb, .slice Ab nb cb]), T2 (ZR w.heap.size (P1)) (Is (.int .i64 0)), T2 (ZR w.heap.size (P1)) (Is (.int .i64 0)), ZR w.heap.size (P1), Is (.int .i64 0), PR v18.heap.size 27 [.bool false, .slice none 0 0]] [[], [], [1], [2], [], [0, 3, 4], [5], [6], [6], []] [[], [], [1], [1, 2], [], [0, 1, 2, 3, 4], [0, 1, 2, 3, 4, 5], [0, 1, 2, 3, 4, 5, 6], [0, 1, 2, 3, 4, 5, 6], [], [0, 1, 2, 3, 4, 5, 6, 7, 9], [0, 1, 2, 3, 4, 5, 6, 7, 8, 9, 10]] rfl
      (obs_cons rfl rfl (hob rfl rfl ?_) (obs_cons rfl rfl (hob rfl rfl ?_) (obs_cons rfl rfl (hob rfl rfl ?_) (obs_cons rfl rfl (hob rfl rfl ?_) (obs_cons rfl rfl (hob rfl rfl ?_) (obs_cons rfl rfl (hob rfl rfl ?_) (obs_cons rfl rfl (hob rfl rfl ?_) (obs_float rfl rfl (fob rfl ?_) (obs_float rfl rfl (fob rfl ?_) (obs_cons rfl rfl (hob rfl rfl ?_) obs_nil)))))))))) ?_
    · -- 0
      intro v184 e185
      have hw5 : Ext w v184 := hw4.trans e185
      refine deps_nil ?_
      refine wl_load rfl rfl (load_agg aggInt (hb4.ext (e8.trans (e14.trans (e19.trans e185)))) [.bool sa, .slice Aa na ca] rfl (Nat.le_of_ble_eq_true rfl) rfl) (by decide) ?_
      exact pi_done rfl (Ext.refl _) rfl
    · -- 1
      intro v186 e187
      have hw5 : Ext w v186 := hw4.trans e187
      refine deps_nil ?_
      refine wl_move rfl rfl (by decide) ?_
      exact pi_done rfl (Ext.refl _) rfl
    · -- 2
      intro v188 e189
      have hw5 : Ext w v188 := hw4.trans e189
      refine deps_cons rfl rfl fun x190 y191 h192 e193 f194 => ?_
      obtain rfl := h192
      refine deps_nil ?_
      refine wl_pureE rfl rfl (v := .int .u64 (IntKind.u64.wrap ((e : Nat) : Int))) (v' := .int .u64 ((e : Nat) : Int)) (by decide) (by kernel_rfl) (cv_u8 (by omega)) ?_
      exact pi_done rfl (Ext.refl _) rfl
    · -- 3
      intro v195 e196
      have hw5 : Ext w v195 := hw4.trans e196
      refine deps_cons rfl rfl fun x197 y198 h199 e200 f201 => ?_
      obtain rfl := h199
      refine deps_nil ?_
      refine wl_call rfl rfl (vs := [.int .u64 ((e : Nat) : Int)]) (by kernel_rfl) (by decide) (g_law6_of hw5.size (by omega : e ≤ 18446744073709551615)) ?_
      rintro _ v202 ⟨xr204, rfl, r204, e203⟩
      refine ret_intro ?_
      have hw6 : Ext w v202 := hw5.trans e203
      obtain ⟨A205, rfl, o205⟩ := r204
      exact pi_done rfl e203 ⟨_, rfl, o205⟩
    · -- 4
      intro v206 e207
      have hw5 : Ext w v206 := hw4.trans e207
      refine deps_nil ?_
      refine wl_load rfl rfl (load_agg aggInt (hb9.ext (e14.trans (e19.trans e207))) [.bool sb, .slice Ab nb cb] rfl (Nat.le_of_ble_eq_true rfl) rfl) (by decide) ?_
      exact pi_done rfl (Ext.refl _) rfl
    · -- 5
      intro v208 e209
      have hw5 : Ext w v208 := hw4.trans e209
      refine deps_cons rfl rfl fun x210 y211 h212 e213 f214 => ?_
      obtain rfl := h212
      refine deps_cons rfl rfl fun x215 y216 h217 e218 f219 => ?_
      obtain ⟨A220, rfl, o220⟩ := h217
      have o220 := o220.ext f219
      refine deps_cons rfl rfl fun x221 y222 h223 e224 f225 => ?_
      obtain rfl := h223
      refine deps_nil ?_
      refine wl_call rfl rfl (vs := [.agg #[.bool sa, .slice Aa na ca], .agg #[.bool false, .slice A220 1 1], .agg #[.bool sb, .slice Ab nb cb]]) (by kernel_rfl) (by decide) (g_pow_nat hw5.size (hx.ext hw5) (Nat.le_trans la (by decide)) (own1_zi o220 (by omega : e ≤ 18446744073709551615)) (by decide) (hz.ext hw5) (Nat.le_trans lb (by decide)) hm0 hP1) ?_
      rintro _ v226 ⟨xr228, rfl, r228, e227⟩
      refine ret_intro ?_
      have hw6 : Ext w v226 := hw5.trans e227
      obtain ⟨a229_0, a229_1, rfl, r229_0, r229_1⟩ := r228
      obtain ⟨s230, A230, n230, c230, rfl, z230⟩ := r229_0
      obtain rfl := r229_1
      exact pi_done rfl e227 ⟨_, _, rfl, ⟨_, _, _, _, rfl, z230⟩, rfl⟩
    · -- 6
      intro v231 e232
      have hw5 : Ext w v231 := hw4.trans e232
      refine deps_cons rfl rfl fun x233 y234 h235 e236 f237 => ?_
      obtain ⟨a238_0, a238_1, rfl, r238_0, r238_1⟩ := h235
      obtain ⟨s239, A239, n239, c239, rfl, z239⟩ := r238_0
      obtain rfl := r238_1
      have z239 := z239.ext f237
      refine deps_nil ?_
      refine wl_move rfl rfl (by decide) ?_
      exact pi_done rfl (Ext.refl _) ⟨_, _, rfl, ⟨_, _, _, _, rfl, z239⟩, rfl⟩
    · -- 7
      intro v240 e241
      have hw5 : Ext w v240 := hw4.trans e241
      refine deps_cons rfl rfl fun x242 y243 h244 e245 f246 => ?_
      obtain ⟨a247_0, a247_1, rfl, r247_0, r247_1⟩ := h244
      obtain ⟨s248, A248, n248, c248, rfl, z248⟩ := r247_0
      obtain rfl := r247_1
      have z248 := z248.ext f246
      refine deps_nil ?_
      exact ⟨.agg #[.bool s248, .slice A248 n248 c248], rfl, rfl, fun _ => by kernel_rfl, ⟨_, _, _, _, rfl, z248⟩⟩
    · -- 8
      intro v249 e250
      have hw5 : Ext w v249 := hw4.trans e250
      refine deps_cons rfl rfl fun x251 y252 h253 e254 f255 => ?_
      obtain ⟨a256_0, a256_1, rfl, r256_0, r256_1⟩ := h253
      obtain ⟨s257, A257, n257, c257, rfl, z257⟩ := r256_0
      obtain rfl := r256_1
      have z257 := z257.ext f255
      refine deps_nil ?_
      exact ⟨.int .i64 0, rfl, rfl, fun _ => by kernel_rfl, rfl⟩
    · -- 9
      intro v258 e259
      have hw5 : Ext w v258 := hw4.trans e259
      refine deps_nil ?_
      refine wl_alloc rfl (z := .agg #[.bool false, .slice none 0 0]) (vs := [.bool false, .slice none 0 0]) (fun _ => by kernel_rfl) rfl (by decide) fun g260 v261 nb => ?_
      exact pi_done rfl nb.ext ⟨_, rfl, by rw [← nb.at_]; exact e259.size, nb.bk⟩
    · -- all
      intro v262 e263
      have hw5 : Ext w v262 := hw4.trans e263
      refine deps_cons rfl rfl fun x264 y265 h266 e267 f268 => ?_
      obtain rfl := h266
      refine deps_cons rfl rfl fun x269 y270 h271 e272 f273 => ?_
      obtain rfl := h271
      refine deps_cons rfl rfl fun x274 y275 h276 e277 f278 => ?_
      obtain rfl := h276
      refine deps_cons rfl rfl fun x279 y280 h281 e282 f283 => ?_
      obtain ⟨A284, rfl, o284⟩ := h281
      have o284 := o284.ext f283
      refine deps_cons rfl rfl fun x285 y286 h287 e288 f289 => ?_
      obtain rfl := h287
      refine deps_cons rfl rfl fun x290 y291 h292 e293 f294 => ?_
      obtain ⟨a295_0, a295_1, rfl, r295_0, r295_1⟩ := h292
      obtain ⟨s296, A296, n296, c296, rfl, z296⟩ := r295_0
      obtain rfl := r295_1
      have z296 := z296.ext f294
      refine deps_cons rfl rfl fun x297 y298 h299 e300 f301 => ?_
      obtain ⟨a302_0, a302_1, rfl, r302_0, r302_1⟩ := h299
      obtain ⟨s303, A303, n303, c303, rfl, z303⟩ := r302_0
      obtain rfl := r302_1
      have z303 := z303.ext f301
      refine deps_cons rfl rfl fun x304 y305 h306 e307 f308 => ?_
      obtain ⟨s309, A309, n309, c309, rfl, z309⟩ := h306
      have z309 := z309.ext f308
      refine deps_cons rfl rfl fun x310 y311 h312 e313 f314 => ?_
      obtain rfl := h312
      refine deps_cons rfl rfl fun x315 y316 h317 e318 f319 => ?_
      obtain ⟨g320, rfl, ge322, hb321⟩ := h317
      have hb321 := hb321.ext f319
      have q323 : g12 < g320 := Nat.lt_of_lt_of_le (hb15.ext e19).lt ge322
      have ge322 : w.heap.size ≤ g320 := Nat.le_trans hw4.size ge322
      refine deps_nil ?_
      have hb325 := hb321
      refine wl_stored rfl rfl rfl aggInt rfl hb325 (Nat.le_of_ble_eq_true rfl) rfl [.bool s309, .slice A309 n309 c309] rfl fun v324 hb326 u327 hs328 => ?_
      have hw6 : Ext w v324 := u327.ext hw5 ge322
      refine wl_assign rfl rfl (by decide) ?_
      refine wl_nil ?_
      refine eo_np ?_
      refine eo_then ?_
      refine cw_seq ?_
      refine cw_seq ?_
      refine cw_region ?_
      refine wl_load rfl rfl (load_agg aggInt ((hb9.ext (e14.trans (e19.trans e263))).updN u327 (by omega)) [.bool sb, .slice Ab nb cb] rfl (Nat.le_of_ble_eq_true rfl) rfl) (by decide) ?_
      refine wl_call rfl rfl (vs := [.agg #[.bool sb, .slice Ab nb cb]]) (by kernel_rfl) (by decide) (g_ref5_Sign (hz.ext hw6) (Nat.le_trans lb (by decide))) ?_
      rintro _ v329 ⟨xr331, rfl, r331, e330⟩
      refine ret_intro ?_
      have hw7 : Ext w v329 := hw6.trans e330
      obtain rfl := r331
      refine wl_cmp rfl rfl rfl false (scmp_eq_f hm0) (by decide) ?_
      refine wl_nil ?_
      refine eo_then ?_
      refine cw_false rfl ?_
      refine cw_skip ?_
      refine eo_then ?_
      refine cw_seq ?_
      obtain ⟨P2, hP2⟩ : ∃ p : Int, p = x ^ (f) % z := ⟨_, rfl⟩
      refine cw_draw mix 10 [7, 8] [Is (.agg #[.bool sa, .slice Aa na ca]), Is (.int .u8 ((f : Nat) : Int)), Is (.int .u64 ((f : Nat) : Int)), ZO w.heap.size (f), Is (.agg #[.bool sb, .slice Ab nb cb]), T2 (ZR w.heap.size (P2)) (Is (.int .i64 0)), T2 (ZR w.heap.size (P2)) (Is (.int .i64 0)), ZR w.heap.size (P2), Is (.int .i64 0), PR v329.heap.size 27 [.bool false, .slice none 0 0]] [[], [], [1], [2], [], [0, 3, 4], [5], [6], [6], []] [[], [], [1], [1, 2], [], [0, 1, 2, 3, 4], [0, 1, 2, 3, 4, 5], [0, 1, 2, 3, 4, 5, 6], [0, 1, 2, 3, 4, 5, 6], [], [0, 1, 2, 3, 4, 5, 6, 7, 9], [0, 1, 2, 3, 4, 5, 6, 7, 8, 9, 10]] rfl
        (obs_cons rfl rfl (hob rfl rfl ?_) (obs_cons rfl rfl (hob rfl rfl ?_) (obs_cons rfl rfl (hob rfl rfl ?_) (obs_cons rfl rfl (hob rfl rfl ?_) (obs_cons rfl rfl (hob rfl rfl ?_) (obs_cons rfl rfl (hob rfl rfl ?_) (obs_cons rfl rfl (hob rfl rfl ?_) (obs_float rfl rfl (fob rfl ?_) (obs_float rfl rfl (fob rfl ?_) (obs_cons rfl rfl (hob rfl rfl ?_) obs_nil)))))))))) ?_
      · -- 0
        intro v338 e339
        have hw8 : Ext w v338 := hw7.trans e339
        refine deps_nil ?_
        refine wl_load rfl rfl (load_agg aggInt (((hb4.ext (e8.trans (e14.trans (e19.trans e263)))).updN u327 (by omega)).ext (e330.trans e339)) [.bool sa, .slice Aa na ca] rfl (Nat.le_of_ble_eq_true rfl) rfl) (by decide) ?_
        exact pi_done rfl (Ext.refl _) rfl
      · -- 1
        intro v340 e341
        have hw8 : Ext w v340 := hw7.trans e341
        refine deps_nil ?_
        refine wl_move rfl rfl (by decide) ?_
        exact pi_done rfl (Ext.refl _) rfl
      · -- 2
        intro v342 e343
        have hw8 : Ext w v342 := hw7.trans e343
        refine deps_cons rfl rfl fun x344 y345 h346 e347 f348 => ?_
        obtain rfl := h346
        refine deps_nil ?_
        refine wl_pureE rfl rfl (v := .int .u64 (IntKind.u64.wrap ((f : Nat) : Int))) (v' := .int .u64 ((f : Nat) : Int)) (by decide) (by kernel_rfl) (cv_u8 (by omega)) ?_
        exact pi_done rfl (Ext.refl _) rfl
      · -- 3
        intro v349 e350
        have hw8 : Ext w v349 := hw7.trans e350
        refine deps_cons rfl rfl fun x351 y352 h353 e354 f355 => ?_
        obtain rfl := h353
        refine deps_nil ?_
        refine wl_call rfl rfl (vs := [.int .u64 ((f : Nat) : Int)]) (by kernel_rfl) (by decide) (g_law6_of hw8.size (by omega : f ≤ 18446744073709551615)) ?_
        rintro _ v356 ⟨xr358, rfl, r358, e357⟩
        refine ret_intro ?_
        have hw9 : Ext w v356 := hw8.trans e357
        obtain ⟨A359, rfl, o359⟩ := r358
        exact pi_done rfl e357 ⟨_, rfl, o359⟩
      · -- 4
        intro v360 e361
        have hw8 : Ext w v360 := hw7.trans e361
        refine deps_nil ?_
        refine wl_load rfl rfl (load_agg aggInt (((hb9.ext (e14.trans (e19.trans e263))).updN u327 (by omega)).ext (e330.trans e361)) [.bool sb, .slice Ab nb cb] rfl (Nat.le_of_ble_eq_true rfl) rfl) (by decide) ?_
        exact pi_done rfl (Ext.refl _) rfl
      · -- 5
        intro v362 e363
        have hw8 : Ext w v362 := hw7.trans e363
        refine deps_cons rfl rfl fun x364 y365 h366 e367 f368 => ?_
        obtain rfl := h366
        refine deps_cons rfl rfl fun x369 y370 h371 e372 f373 => ?_
        obtain ⟨A374, rfl, o374⟩ := h371
        have o374 := o374.ext f373
        refine deps_cons rfl rfl fun x375 y376 h377 e378 f379 => ?_
        obtain rfl := h377
        refine deps_nil ?_
        refine wl_call rfl rfl (vs := [.agg #[.bool sa, .slice Aa na ca], .agg #[.bool false, .slice A374 1 1], .agg #[.bool sb, .slice Ab nb cb]]) (by kernel_rfl) (by decide) (g_pow_nat hw8.size (hx.ext hw8) (Nat.le_trans la (by decide)) (own1_zi o374 (by omega : f ≤ 18446744073709551615)) (by decide) (hz.ext hw8) (Nat.le_trans lb (by decide)) hm0 hP2) ?_
        rintro _ v380 ⟨xr382, rfl, r382, e381⟩
        refine ret_intro ?_
        have hw9 : Ext w v380 := hw8.trans e381
        obtain ⟨a383_0, a383_1, rfl, r383_0, r383_1⟩ := r382
        obtain ⟨s384, A384, n384, c384, rfl, z384⟩ := r383_0
        obtain rfl := r383_1
        exact pi_done rfl e381 ⟨_, _, rfl, ⟨_, _, _, _, rfl, z384⟩, rfl⟩
      · -- 6
        intro v385 e386
        have hw8 : Ext w v385 := hw7.trans e386
        refine deps_cons rfl rfl fun x387 y388 h389 e390 f391 => ?_
        obtain ⟨a392_0, a392_1, rfl, r392_0, r392_1⟩ := h389
        obtain ⟨s393, A393, n393, c393, rfl, z393⟩ := r392_0
        obtain rfl := r392_1
        have z393 := z393.ext f391
        refine deps_nil ?_
        refine wl_move rfl rfl (by decide) ?_
        exact pi_done rfl (Ext.refl _) ⟨_, _, rfl, ⟨_, _, _, _, rfl, z393⟩, rfl⟩
      · -- 7
        intro v394 e395
        have hw8 : Ext w v394 := hw7.trans e395
        refine deps_cons rfl rfl fun x396 y397 h398 e399 f400 => ?_
        obtain ⟨a401_0, a401_1, rfl, r401_0, r401_1⟩ := h398
        obtain ⟨s402, A402, n402, c402, rfl, z402⟩ := r401_0
        obtain rfl := r401_1
        have z402 := z402.ext f400
        refine deps_nil ?_
        exact ⟨.agg #[.bool s402, .slice A402 n402 c402], rfl, rfl, fun _ => by kernel_rfl, ⟨_, _, _, _, rfl, z402⟩⟩
      · -- 8
        intro v403 e404
        have hw8 : Ext w v403 := hw7.trans e404
        refine deps_cons rfl rfl fun x405 y406 h407 e408 f409 => ?_
        obtain ⟨a410_0, a410_1, rfl, r410_0, r410_1⟩ := h407
        obtain ⟨s411, A411, n411, c411, rfl, z411⟩ := r410_0
        obtain rfl := r410_1
        have z411 := z411.ext f409
        refine deps_nil ?_
        exact ⟨.int .i64 0, rfl, rfl, fun _ => by kernel_rfl, rfl⟩
      · -- 9
        intro v412 e413
        have hw8 : Ext w v412 := hw7.trans e413
        refine deps_nil ?_
        refine wl_alloc rfl (z := .agg #[.bool false, .slice none 0 0]) (vs := [.bool false, .slice none 0 0]) (fun _ => by kernel_rfl) rfl (by decide) fun g414 v415 nb => ?_
        exact pi_done rfl nb.ext ⟨_, rfl, by rw [← nb.at_]; exact e413.size, nb.bk⟩
      · -- all
        intro v416 e417
        have hw8 : Ext w v416 := hw7.trans e417
        refine deps_cons rfl rfl fun x418 y419 h420 e421 f422 => ?_
        obtain rfl := h420
        refine deps_cons rfl rfl fun x423 y424 h425 e426 f427 => ?_
        obtain rfl := h425
        refine deps_cons rfl rfl fun x428 y429 h430 e431 f432 => ?_
        obtain rfl := h430
        refine deps_cons rfl rfl fun x433 y434 h435 e436 f437 => ?_
        obtain ⟨A438, rfl, o438⟩ := h435
        have o438 := o438.ext f437
        refine deps_cons rfl rfl fun x439 y440 h441 e442 f443 => ?_
        obtain rfl := h441
        refine deps_cons rfl rfl fun x444 y445 h446 e447 f448 => ?_
        obtain ⟨a449_0, a449_1, rfl, r449_0, r449_1⟩ := h446
        obtain ⟨s450, A450, n450, c450, rfl, z450⟩ := r449_0
        obtain rfl := r449_1
        have z450 := z450.ext f448
        refine deps_cons rfl rfl fun x451 y452 h453 e454 f455 => ?_
        obtain ⟨a456_0, a456_1, rfl, r456_0, r456_1⟩ := h453
        obtain ⟨s457, A457, n457, c457, rfl, z457⟩ := r456_0
        obtain rfl := r456_1
        have z457 := z457.ext f455
        refine deps_cons rfl rfl fun x458 y459 h460 e461 f462 => ?_
        obtain ⟨s463, A463, n463, c463, rfl, z463⟩ := h460
        have z463 := z463.ext f462
        refine deps_cons rfl rfl fun x464 y465 h466 e467 f468 => ?_
        obtain rfl := h466
        refine deps_cons rfl rfl fun x469 y470 h471 e472 f473 => ?_
        obtain ⟨g474, rfl, ge476, hb475⟩ := h471
        have hb475 := hb475.ext f473
        have q477 : g320 < g474 := Nat.lt_of_lt_of_le (hb326.ext e330).lt ge476
        have ge476 : w.heap.size ≤ g474 := Nat.le_trans hw7.size ge476
        refine deps_nil ?_
        have hb479 := hb475
        refine wl_stored rfl rfl rfl aggInt rfl hb479 (Nat.le_of_ble_eq_true rfl) rfl [.bool s463, .slice A463 n463 c463] rfl fun v478 hb480 u481 hs482 => ?_
        have hw9 : Ext w v478 := u481.ext hw8 ge476
        refine wl_assign rfl rfl (by decide) ?_
        refine wl_nil ?_
        refine eo_np ?_
        refine eo_then ?_
        refine cw_seq ?_
        obtain ⟨P3, hP3⟩ : ∃ p : Int, p = x ^ (e + f) % z := ⟨_, rfl⟩
        refine cw_draw mix 13 [10, 11] [Is (.agg #[.bool sa, .slice Aa na ca]), Is (.int .u8 ((e : Nat) : Int)), Is (.int .u64 ((e : Nat) : Int)), Is (.int .u8 ((f : Nat) : Int)), Is (.int .u64 ((f : Nat) : Int)), Is (.int .u64 ((e + f : Nat) : Int)), ZO w.heap.size (e + f), Is (.agg #[.bool sb, .slice Ab nb cb]), T2 (ZR w.heap.size (P3)) (Is (.int .i64 0)), T2 (ZR w.heap.size (P3)) (Is (.int .i64 0)), ZR w.heap.size (P3), Is (.int .i64 0), PR v478.heap.size 27 [.bool false, .slice none 0 0]] [[], [], [1], [], [3], [2, 4], [5], [], [0, 6, 7], [8], [9], [9], []] [[], [], [1], [], [3], [1, 2, 3, 4], [1, 2, 3, 4, 5], [], [0, 1, 2, 3, 4, 5, 6, 7], [0, 1, 2, 3, 4, 5, 6, 7, 8], [0, 1, 2, 3, 4, 5, 6, 7, 8, 9], [0, 1, 2, 3, 4, 5, 6, 7, 8, 9], [], [0, 1, 2, 3, 4, 5, 6, 7, 8, 9, 10, 12], [0, 1, 2, 3, 4, 5, 6, 7, 8, 9, 10, 11, 12, 13]] rfl
          (obs_cons rfl rfl (hob rfl rfl ?_) (obs_cons rfl rfl (hob rfl rfl ?_) (obs_cons rfl rfl (hob rfl rfl ?_) (obs_cons rfl rfl (hob rfl rfl ?_) (obs_cons rfl rfl (hob rfl rfl ?_) (obs_cons rfl rfl (hob rfl rfl ?_) (obs_cons rfl rfl (hob rfl rfl ?_) (obs_cons rfl rfl (hob rfl rfl ?_) (obs_cons rfl rfl (hob rfl rfl ?_) (obs_cons rfl rfl (hob rfl rfl ?_) (obs_float rfl rfl (fob rfl ?_) (obs_float rfl rfl (fob rfl ?_) (obs_cons rfl rfl (hob rfl rfl ?_) obs_nil))))))))))))) ?_
        · -- 0
          intro v489 e490
          have hw10 : Ext w v489 := hw9.trans e490
          refine deps_nil ?_
          refine wl_load rfl rfl (load_agg aggInt (((((hb4.ext (e8.trans (e14.trans (e19.trans e263)))).updN u327 (by omega)).ext (e330.trans e417)).updN u481 (by omega)).ext e490) [.bool sa, .slice Aa na ca] rfl (Nat.le_of_ble_eq_true rfl) rfl) (by decide) ?_
          exact pi_done rfl (Ext.refl _) rfl
        · -- 1
          intro v491 e492
          have hw10 : Ext w v491 := hw9.trans e492
          refine deps_nil ?_
          refine wl_move rfl rfl (by decide) ?_
          exact pi_done rfl (Ext.refl _) rfl
        · -- 2
          intro v493 e494
          have hw10 : Ext w v493 := hw9.trans e494
          refine deps_cons rfl rfl fun x495 y496 h497 e498 f499 => ?_
          obtain rfl := h497
          refine deps_nil ?_
          refine wl_pureE rfl rfl (v := .int .u64 (IntKind.u64.wrap ((e : Nat) : Int))) (v' := .int .u64 ((e : Nat) : Int)) (by decide) (by kernel_rfl) (cv_u8 (by omega)) ?_
          exact pi_done rfl (Ext.refl _) rfl
        · -- 3
          intro v500 e501
          have hw10 : Ext w v500 := hw9.trans e501
          refine deps_nil ?_
          refine wl_move rfl rfl (by decide) ?_
          exact pi_done rfl (Ext.refl _) rfl
        · -- 4
          intro v502 e503
          have hw10 : Ext w v502 := hw9.trans e503
          refine deps_cons rfl rfl fun x504 y505 h506 e507 f508 => ?_
          obtain rfl := h506
          refine deps_nil ?_
          refine wl_pureE rfl rfl (v := .int .u64 (IntKind.u64.wrap ((f : Nat) : Int))) (v' := .int .u64 ((f : Nat) : Int)) (by decide) (by kernel_rfl) (cv_u8 (by omega)) ?_
          exact pi_done rfl (Ext.refl _) rfl
        · -- 5
          intro v509 e510
          have hw10 : Ext w v509 := hw9.trans e510
          refine deps_cons rfl rfl fun x511 y512 h513 e514 f515 => ?_
          obtain rfl := h513
          refine deps_cons rfl rfl fun x516 y517 h518 e519 f520 => ?_
          obtain rfl := h518
          refine deps_nil ?_
          refine wl_ar rfl rfl rfl ((e + f : Nat) : Int) (au_add (a := e) (b := f) rfl rfl (by omega)) (by decide) ?_
          exact pi_done rfl (Ext.refl _) rfl
        · -- 6
          intro v521 e522
          have hw10 : Ext w v521 := hw9.trans e522
          refine deps_cons rfl rfl fun x523 y524 h525 e526 f527 => ?_
          obtain rfl := h525
          refine deps_nil ?_
          refine wl_call rfl rfl (vs := [.int .u64 ((e + f : Nat) : Int)]) (by kernel_rfl) (by decide) (g_law6_of hw10.size (by omega : e + f ≤ 18446744073709551615)) ?_
          rintro _ v528 ⟨xr530, rfl, r530, e529⟩
          refine ret_intro ?_
          have hw11 : Ext w v528 := hw10.trans e529
          obtain ⟨A531, rfl, o531⟩ := r530
          exact pi_done rfl e529 ⟨_, rfl, o531⟩
        · -- 7
          intro v532 e533
          have hw10 : Ext w v532 := hw9.trans e533
          refine deps_nil ?_
          refine wl_load rfl rfl (load_agg aggInt (((((hb9.ext (e14.trans (e19.trans e263))).updN u327 (by omega)).ext (e330.trans e417)).updN u481 (by omega)).ext e533) [.bool sb, .slice Ab nb cb] rfl (Nat.le_of_ble_eq_true rfl) rfl) (by decide) ?_
          exact pi_done rfl (Ext.refl _) rfl
        · -- 8
          intro v534 e535
          have hw10 : Ext w v534 := hw9.trans e535
          refine deps_cons rfl rfl fun x536 y537 h538 e539 f540 => ?_
          obtain rfl := h538
          refine deps_cons rfl rfl fun x541 y542 h543 e544 f545 => ?_
          obtain ⟨A546, rfl, o546⟩ := h543
          have o546 := o546.ext f545
          refine deps_cons rfl rfl fun x547 y548 h549 e550 f551 => ?_
          obtain rfl := h549
          refine deps_nil ?_
          refine wl_call rfl rfl (vs := [.agg #[.bool sa, .slice Aa na ca], .agg #[.bool false, .slice A546 1 1], .agg #[.bool sb, .slice Ab nb cb]]) (by kernel_rfl) (by decide) (g_pow_nat hw10.size (hx.ext hw10) (Nat.le_trans la (by decide)) (own1_zi o546 (by omega : e + f ≤ 18446744073709551615)) (by decide) (hz.ext hw10) (Nat.le_trans lb (by decide)) hm0 hP3) ?_
          rintro _ v552 ⟨xr554, rfl, r554, e553⟩
          refine ret_intro ?_
          have hw11 : Ext w v552 := hw10.trans e553
          obtain ⟨a555_0, a555_1, rfl, r555_0, r555_1⟩ := r554
          obtain ⟨s556, A556, n556, c556, rfl, z556⟩ := r555_0
          obtain rfl := r555_1
          exact pi_done rfl e553 ⟨_, _, rfl, ⟨_, _, _, _, rfl, z556⟩, rfl⟩
        · -- 9
          intro v557 e558
          have hw10 : Ext w v557 := hw9.trans e558
          refine deps_cons rfl rfl fun x559 y560 h561 e562 f563 => ?_
          obtain ⟨a564_0, a564_1, rfl, r564_0, r564_1⟩ := h561
          obtain ⟨s565, A565, n565, c565, rfl, z565⟩ := r564_0
          obtain rfl := r564_1
          have z565 := z565.ext f563
          refine deps_nil ?_
          refine wl_move rfl rfl (by decide) ?_
          exact pi_done rfl (Ext.refl _) ⟨_, _, rfl, ⟨_, _, _, _, rfl, z565⟩, rfl⟩
        · -- 10
          intro v566 e567
          have hw10 : Ext w v566 := hw9.trans e567
          refine deps_cons rfl rfl fun x568 y569 h570 e571 f572 => ?_
          obtain ⟨a573_0, a573_1, rfl, r573_0, r573_1⟩ := h570
          obtain ⟨s574, A574, n574, c574, rfl, z574⟩ := r573_0
          obtain rfl := r573_1
          have z574 := z574.ext f572
          refine deps_nil ?_
          exact ⟨.agg #[.bool s574, .slice A574 n574 c574], rfl, rfl, fun _ => by kernel_rfl, ⟨_, _, _, _, rfl, z574⟩⟩
        · -- 11
          intro v575 e576
          have hw10 : Ext w v575 := hw9.trans e576
          refine deps_cons rfl rfl fun x577 y578 h579 e580 f581 => ?_
          obtain ⟨a582_0, a582_1, rfl, r582_0, r582_1⟩ := h579
          obtain ⟨s583, A583, n583, c583, rfl, z583⟩ := r582_0
          obtain rfl := r582_1
          have z583 := z583.ext f581
          refine deps_nil ?_
          exact ⟨.int .i64 0, rfl, rfl, fun _ => by kernel_rfl, rfl⟩
        · -- 12
          intro v584 e585
          have hw10 : Ext w v584 := hw9.trans e585
          refine deps_nil ?_
          refine wl_alloc rfl (z := .agg #[.bool false, .slice none 0 0]) (vs := [.bool false, .slice none 0 0]) (fun _ => by kernel_rfl) rfl (by decide) fun g586 v587 nb => ?_
          exact pi_done rfl nb.ext ⟨_, rfl, by rw [← nb.at_]; exact e585.size, nb.bk⟩
        · -- all
          intro v588 e589
          have hw10 : Ext w v588 := hw9.trans e589
          refine deps_cons rfl rfl fun x590 y591 h592 e593 f594 => ?_
          obtain rfl := h592
          refine deps_cons rfl rfl fun x595 y596 h597 e598 f599 => ?_
          obtain rfl := h597
          refine deps_cons rfl rfl fun x600 y601 h602 e603 f604 => ?_
          obtain rfl := h602
          refine deps_cons rfl rfl fun x605 y606 h607 e608 f609 => ?_
          obtain rfl := h607
          refine deps_cons rfl rfl fun x610 y611 h612 e613 f614 => ?_
          obtain rfl := h612
          refine deps_cons rfl rfl fun x615 y616 h617 e618 f619 => ?_
          obtain rfl := h617
          refine deps_cons rfl rfl fun x620 y621 h622 e623 f624 => ?_
          obtain ⟨A625, rfl, o625⟩ := h622
          have o625 := o625.ext f624
          refine deps_cons rfl rfl fun x626 y627 h628 e629 f630 => ?_
          obtain rfl := h628
          refine deps_cons rfl rfl fun x631 y632 h633 e634 f635 => ?_
          obtain ⟨a636_0, a636_1, rfl, r636_0, r636_1⟩ := h633
          obtain ⟨s637, A637, n637, c637, rfl, z637⟩ := r636_0
          obtain rfl := r636_1
          have z637 := z637.ext f635
          refine deps_cons rfl rfl fun x638 y639 h640 e641 f642 => ?_
          obtain ⟨a643_0, a643_1, rfl, r643_0, r643_1⟩ := h640
          obtain ⟨s644, A644, n644, c644, rfl, z644⟩ := r643_0
          obtain rfl := r643_1
          have z644 := z644.ext f642
          refine deps_cons rfl rfl fun x645 y646 h647 e648 f649 => ?_
          obtain ⟨s650, A650, n650, c650, rfl, z650⟩ := h647
          have z650 := z650.ext f649
          refine deps_cons rfl rfl fun x651 y652 h653 e654 f655 => ?_
          obtain rfl := h653
          refine deps_cons rfl rfl fun x656 y657 h658 e659 f660 => ?_
          obtain ⟨g661, rfl, ge663, hb662⟩ := h658
          have hb662 := hb662.ext f660
          have q664 : g474 < g661 := Nat.lt_of_lt_of_le hb480.lt ge663
          have ge663 : w.heap.size ≤ g661 := Nat.le_trans hw9.size ge663
          refine deps_nil ?_
          have hb666 := hb662
          refine wl_stored rfl rfl rfl aggInt rfl hb666 (Nat.le_of_ble_eq_true rfl) rfl [.bool s650, .slice A650 n650 c650] rfl fun v665 hb667 u668 hs669 => ?_
          have hw11 : Ext w v665 := u668.ext hw10 ge663
          refine wl_assign rfl rfl (by decide) ?_
          refine wl_nil ?_
          refine eo_np ?_
          refine eo_then ?_
          refine cw_seq ?_
          refine cw_seq ?_
          refine cw_region ?_
          refine wl_move rfl rfl (by decide) ?_
          refine wl_pure rfl rfl (v := .bool false) (by decide) (by kernel_rfl) ?_
          refine wl_move rfl rfl (by decide) ?_
          refine wl_move rfl rfl (by decide) ?_
          refine wl_pure rfl rfl (v := .bool false) (by decide) (by kernel_rfl) ?_
          refine wl_pure rfl rfl (v := .bool false) (by decide) (by kernel_rfl) ?_
          refine wl_move rfl rfl (by decide) ?_
          refine wl_move rfl rfl (by decide) ?_
          refine wl_pure rfl rfl (v := .bool false) (by decide) (by kernel_rfl) ?_
          refine wl_pure rfl rfl (v := .bool false) (by decide) (by kernel_rfl) ?_
          refine wl_move rfl rfl (by decide) ?_
          refine wl_load rfl rfl (load_agg aggInt ((((hb326.ext (e330.trans e417)).updN u481 (by omega)).ext e589).updN u668 (by omega)) [.bool s309, .slice A309 n309 c309] rfl (Nat.le_of_ble_eq_true rfl) rfl) (by decide) ?_
          refine wl_call rfl rfl (vs := [.agg #[.bool s309, .slice A309 n309 c309]]) (by kernel_rfl) (by decide) (g_law6_least (((((z309.updT hb325 u327).ext (e330.trans e417)).updT hb479 u481).ext e589).updT hb666 u668)) ?_
          rintro _ v670 ⟨xr672, rfl, r672, e671⟩
          refine ret_intro ?_
          have hw12 : Ext w v670 := hw11.trans e671
          obtain rfl := r672
          refine wl_pure rfl rfl (v := .bool false) (by decide) (by kernel_rfl) ?_
          refine wl_pure rfl rfl (v := .bool false) (by decide) (by kernel_rfl) ?_
          refine wl_move rfl rfl (by decide) ?_
          refine wl_load rfl rfl (load_agg aggInt (((((hb326.ext (e330.trans e417)).updN u481 (by omega)).ext e589).updN u668 (by omega)).ext e671) [.bool s309, .slice A309 n309 c309] rfl (Nat.le_of_ble_eq_true rfl) rfl) (by decide) ?_
          refine wl_load rfl rfl (load_agg aggInt (((((((hb9.ext (e14.trans (e19.trans e263))).updN u327 (by omega)).ext (e330.trans e417)).updN u481 (by omega)).ext e589).updN u668 (by omega)).ext e671) [.bool sb, .slice Ab nb cb] rfl (Nat.le_of_ble_eq_true rfl) rfl) (by decide) ?_
          refine wl_call rfl rfl (vs := [.agg #[.bool s309, .slice A309 n309 c309], .agg #[.bool sb, .slice Ab nb cb]]) (by kernel_rfl) (by decide) (g_law6_within ((((((z309.updT hb325 u327).ext (e330.trans e417)).updT hb479 u481).ext e589).updT hb666 u668).ext e671).zi (z309.le (Nat.le_trans (pw_ln hP1 hm0 Lz) (by decide))) (hz.ext hw12) (Nat.le_trans lb (by decide)) (pw_in hP1 hm0).1 (pw_in hP1 hm0).2) ?_
          rintro _ v673 ⟨xr675, rfl, r675, e674⟩
          refine ret_intro ?_
          have hw13 : Ext w v673 := hw12.trans e674
          obtain rfl := r675
          refine wl_pure rfl rfl (v := .bool false) (by decide) (by kernel_rfl) ?_
          refine wl_pure rfl rfl (v := .bool false) (by decide) (by kernel_rfl) ?_
          refine wl_move rfl rfl (by decide) ?_
          refine wl_load rfl rfl (load_agg aggInt (((hb480.ext e589).updN u668 (by omega)).ext (e671.trans e674)) [.bool s463, .slice A463 n463 c463] rfl (Nat.le_of_ble_eq_true rfl) rfl) (by decide) ?_
          refine wl_load rfl rfl (load_agg aggInt (((((((hb9.ext (e14.trans (e19.trans e263))).updN u327 (by omega)).ext (e330.trans e417)).updN u481 (by omega)).ext e589).updN u668 (by omega)).ext (e671.trans e674)) [.bool sb, .slice Ab nb cb] rfl (Nat.le_of_ble_eq_true rfl) rfl) (by decide) ?_
          refine wl_call rfl rfl (vs := [.agg #[.bool s463, .slice A463 n463 c463], .agg #[.bool sb, .slice Ab nb cb]]) (by kernel_rfl) (by decide) (g_law6_within ((((z463.updT hb479 u481).ext e589).updT hb666 u668).ext (e671.trans e674)).zi (z463.le (Nat.le_trans (pw_ln hP2 hm0 Lz) (by decide))) (hz.ext hw13) (Nat.le_trans lb (by decide)) (pw_in hP2 hm0).1 (pw_in hP2 hm0).2) ?_
          rintro _ v676 ⟨xr678, rfl, r678, e677⟩
          refine ret_intro ?_
          have hw14 : Ext w v676 := hw13.trans e677
          obtain rfl := r678
          refine wl_pure rfl rfl (v := .bool false) (by decide) (by kernel_rfl) ?_
          refine wl_pure rfl rfl (v := .bool false) (by decide) (by kernel_rfl) ?_
          refine wl_move rfl rfl (by decide) ?_
          refine wl_load rfl rfl (load_agg aggInt (hb667.ext (e671.trans (e674.trans e677))) [.bool s650, .slice A650 n650 c650] rfl (Nat.le_of_ble_eq_true rfl) rfl) (by decide) ?_
          refine wl_load rfl rfl (load_agg aggInt (((((((hb9.ext (e14.trans (e19.trans e263))).updN u327 (by omega)).ext (e330.trans e417)).updN u481 (by omega)).ext e589).updN u668 (by omega)).ext (e671.trans (e674.trans e677))) [.bool sb, .slice Ab nb cb] rfl (Nat.le_of_ble_eq_true rfl) rfl) (by decide) ?_
          refine wl_call rfl rfl (vs := [.agg #[.bool s650, .slice A650 n650 c650], .agg #[.bool sb, .slice Ab nb cb]]) (by kernel_rfl) (by decide) (g_law6_within ((z650.updT hb666 u668).ext (e671.trans (e674.trans e677))).zi (z650.le (Nat.le_trans (pw_ln hP3 hm0 Lz) (by decide))) (hz.ext hw14) (Nat.le_trans lb (by decide)) (pw_in hP3 hm0).1 (pw_in hP3 hm0).2) ?_
          rintro _ v679 ⟨xr681, rfl, r681, e680⟩
          refine ret_intro ?_
          have hw15 : Ext w v679 := hw14.trans e680
          obtain rfl := r681
          refine wl_pure rfl rfl (v := .bool false) (by decide) (by kernel_rfl) ?_
          refine wl_pure rfl rfl (v := .bool false) (by decide) (by kernel_rfl) ?_
          refine wl_nil ?_
          refine eo_then ?_
          refine cw_false rfl ?_
          refine cw_skip ?_
          refine eo_then ?_
          refine cw_seq ?_
          have L682 : ln (P1 * P2) ≤ 2097152 := Nat.le_trans (ln_mul (pw_ln hP1 hm0 Lz) (pw_ln hP2 hm0 Lz)) (by decide)
          have L684 : ln ((P1 * P2) - P3) ≤ 2097153 := Nat.le_trans (ln_sub L682 (pw_ln hP3 hm0 Lz)) (by decide)
          refine cw_draw mix 6 [] [Is (.agg #[.bool s309, .slice A309 n309 c309]), Is (.agg #[.bool s463, .slice A463 n463 c463]), ZR w.heap.size (P1 * P2), Is (.agg #[.bool s650, .slice A650 n650 c650]), ZR w.heap.size ((P1 * P2) - P3), PR v679.heap.size 27 [.bool false, .slice none 0 0]] [[], [], [0, 1], [], [2, 3], []] [[], [], [0, 1], [], [0, 1, 2, 3], [], [0, 1, 2, 3, 4, 5]] rfl
            (obs_cons rfl rfl (hob rfl rfl ?_) (obs_cons rfl rfl (hob rfl rfl ?_) (obs_cons rfl rfl (hob rfl rfl ?_) (obs_cons rfl rfl (hob rfl rfl ?_) (obs_cons rfl rfl (hob rfl rfl ?_) (obs_cons rfl rfl (hob rfl rfl ?_) obs_nil)))))) ?_
          · -- 0
            intro v686 e687
            have hw16 : Ext w v686 := hw15.trans e687
            refine deps_nil ?_
            refine wl_load rfl rfl (load_agg aggInt (((((hb326.ext (e330.trans e417)).updN u481 (by omega)).ext e589).updN u668 (by omega)).ext (e671.trans (e674.trans (e677.trans (e680.trans e687))))) [.bool s309, .slice A309 n309 c309] rfl (Nat.le_of_ble_eq_true rfl) rfl) (by decide) ?_
            exact pi_done rfl (Ext.refl _) rfl
          · -- 1
            intro v688 e689
            have hw16 : Ext w v688 := hw15.trans e689
            refine deps_nil ?_
            refine wl_load rfl rfl (load_agg aggInt (((hb480.ext e589).updN u668 (by omega)).ext (e671.trans (e674.trans (e677.trans (e680.trans e689))))) [.bool s463, .slice A463 n463 c463] rfl (Nat.le_of_ble_eq_true rfl) rfl) (by decide) ?_
            exact pi_done rfl (Ext.refl _) rfl
          · -- 2
            intro v690 e691
            have hw16 : Ext w v690 := hw15.trans e691
            refine deps_cons rfl rfl fun x692 y693 h694 e695 f696 => ?_
            obtain rfl := h694
            refine deps_cons rfl rfl fun x697 y698 h699 e700 f701 => ?_
            obtain rfl := h699
            refine deps_nil ?_
            have L702 : ln (P1 * P2) ≤ 2097152 := Nat.le_trans (ln_mul (pw_ln hP1 hm0 Lz) (pw_ln hP2 hm0 Lz)) (by decide)
            refine wl_call rfl rfl (vs := [.agg #[.bool s309, .slice A309 n309 c309], .agg #[.bool s463, .slice A463 n463 c463]]) (by kernel_rfl) (by decide) (g_ref5_Mul hw16.size ((((((z309.updT hb325 u327).ext (e330.trans e417)).updT hb479 u481).ext e589).updT hb666 u668).ext (e671.trans (e674.trans (e677.trans (e680.trans e691))))).zi (z309.le (Nat.le_trans (pw_ln hP1 hm0 Lz) (by decide))) ((((z463.updT hb479 u481).ext e589).updT hb666 u668).ext (e671.trans (e674.trans (e677.trans (e680.trans e691))))).zi (z463.le (Nat.le_trans (pw_ln hP2 hm0 Lz) (by decide)))) ?_
            rintro _ v703 ⟨xr705, rfl, r705, e704⟩
            refine ret_intro ?_
            have hw17 : Ext w v703 := hw16.trans e704
            obtain ⟨s706, A706, n706, c706, rfl, z706⟩ := r705
            exact pi_done rfl e704 ⟨_, _, _, _, rfl, z706⟩
          · -- 3
            intro v707 e708
            have hw16 : Ext w v707 := hw15.trans e708
            refine deps_nil ?_
            refine wl_load rfl rfl (load_agg aggInt (hb667.ext (e671.trans (e674.trans (e677.trans (e680.trans e708))))) [.bool s650, .slice A650 n650 c650] rfl (Nat.le_of_ble_eq_true rfl) rfl) (by decide) ?_
            exact pi_done rfl (Ext.refl _) rfl
          · -- 4
            intro v709 e710
            have hw16 : Ext w v709 := hw15.trans e710
            refine deps_cons rfl rfl fun x711 y712 h713 e714 f715 => ?_
            obtain ⟨s716, A716, n716, c716, rfl, z716⟩ := h713
            have z716 := z716.ext f715
            refine deps_cons rfl rfl fun x717 y718 h719 e720 f721 => ?_
            obtain rfl := h719
            refine deps_nil ?_
            have L722 : ln ((P1 * P2) - P3) ≤ 2097153 := Nat.le_trans (ln_sub L682 (pw_ln hP3 hm0 Lz)) (by decide)
            refine wl_call rfl rfl (vs := [.agg #[.bool s716, .slice A716 n716 c716], .agg #[.bool s650, .slice A650 n650 c650]]) (by kernel_rfl) (by decide) (g_ref5_Sub hw16.size z716.zi (z716.le (Nat.le_trans L682 (by decide))) ((z650.updT hb666 u668).ext (e671.trans (e674.trans (e677.trans (e680.trans e710))))).zi (z650.le (Nat.le_trans (pw_ln hP3 hm0 Lz) (by decide)))) ?_
            rintro _ v723 ⟨xr725, rfl, r725, e724⟩
            refine ret_intro ?_
            have hw17 : Ext w v723 := hw16.trans e724
            obtain ⟨s726, A726, n726, c726, rfl, z726⟩ := r725
            exact pi_done rfl e724 ⟨_, _, _, _, rfl, z726⟩
          · -- 5
            intro v727 e728
            have hw16 : Ext w v727 := hw15.trans e728
            refine deps_nil ?_
            refine wl_alloc rfl (z := .agg #[.bool false, .slice none 0 0]) (vs := [.bool false, .slice none 0 0]) (fun _ => by kernel_rfl) rfl (by decide) fun g729 v730 nb => ?_
            exact pi_done rfl nb.ext ⟨_, rfl, by rw [← nb.at_]; exact e728.size, nb.bk⟩
          · -- all
            intro v731 e732
            have hw16 : Ext w v731 := hw15.trans e732
            refine deps_cons rfl rfl fun x733 y734 h735 e736 f737 => ?_
            obtain rfl := h735
            refine deps_cons rfl rfl fun x738 y739 h740 e741 f742 => ?_
            obtain rfl := h740
            refine deps_cons rfl rfl fun x743 y744 h745 e746 f747 => ?_
            obtain ⟨s748, A748, n748, c748, rfl, z748⟩ := h745
            have z748 := z748.ext f747
            refine deps_cons rfl rfl fun x749 y750 h751 e752 f753 => ?_
            obtain rfl := h751
            refine deps_cons rfl rfl fun x754 y755 h756 e757 f758 => ?_
            obtain ⟨s759, A759, n759, c759, rfl, z759⟩ := h756
            have z759 := z759.ext f758
            refine deps_cons rfl rfl fun x760 y761 h762 e763 f764 => ?_
            obtain ⟨g765, rfl, ge767, hb766⟩ := h762
            have hb766 := hb766.ext f764
            have q768 : g661 < g765 := Nat.lt_of_lt_of_le (hb667.ext (e671.trans (e674.trans (e677.trans e680)))).lt ge767
            have ge767 : w.heap.size ≤ g765 := Nat.le_trans hw15.size ge767
            refine deps_nil ?_
            have hb770 := hb766
            refine wl_stored rfl rfl rfl aggInt rfl hb770 (Nat.le_of_ble_eq_true rfl) rfl [.bool s759, .slice A759 n759 c759] rfl fun v769 hb771 u772 hs773 => ?_
            have hw17 : Ext w v769 := u772.ext hw16 ge767
            refine wl_nil ?_
            refine eo_np ?_
            refine eo_then ?_
            refine cw_seq ?_
            refine cw_seq ?_
            refine cw_region ?_
            refine wl_load rfl rfl (load_agg aggInt ((((((((hb9.ext (e14.trans (e19.trans e263))).updN u327 (by omega)).ext (e330.trans e417)).updN u481 (by omega)).ext e589).updN u668 (by omega)).ext (e671.trans (e674.trans (e677.trans (e680.trans e732))))).updN u772 (by omega)) [.bool sb, .slice Ab nb cb] rfl (Nat.le_of_ble_eq_true rfl) rfl) (by decide) ?_
            refine wl_load rfl rfl (load_agg aggInt hb771 [.bool s759, .slice A759 n759 c759] rfl (Nat.le_of_ble_eq_true rfl) rfl) (by decide) ?_
            refine wl_call rfl rfl (vs := [.agg #[.bool sb, .slice Ab nb cb], .agg #[.bool s759, .slice A759 n759 c759]]) (by kernel_rfl) (by decide) (g_law6_divides (hz.ext hw17) (Nat.le_trans lb (by decide)) (z759.updT hb770 u772).zi (z759.le (Nat.le_trans L684 (by decide))) (pw_add hP1 hP2 hP3)) ?_
            rintro _ v774 ⟨xr776, rfl, r776, e775⟩
            refine ret_intro ?_
            have hw18 : Ext w v774 := hw17.trans e775
            obtain rfl := r776
            refine wl_pure rfl rfl (v := .bool false) (by decide) (by kernel_rfl) ?_
            refine wl_nil ?_
            refine eo_then ?_
            refine cw_false rfl ?_
            refine cw_skip ?_
            refine eo_then ?_
            refine cw_seq ?_
            obtain ⟨P4, hP4⟩ : ∃ p : Int, p = P1 ^ (f) % z := ⟨_, rfl⟩
            refine cw_draw mix 10 [7, 8] [Is (.agg #[.bool s309, .slice A309 n309 c309]), Is (.int .u8 ((f : Nat) : Int)), Is (.int .u64 ((f : Nat) : Int)), ZO w.heap.size (f), Is (.agg #[.bool sb, .slice Ab nb cb]), T2 (ZR w.heap.size (P4)) (Is (.int .i64 0)), T2 (ZR w.heap.size (P4)) (Is (.int .i64 0)), ZR w.heap.size (P4), Is (.int .i64 0), PR v774.heap.size 27 [.bool false, .slice none 0 0]] [[], [], [1], [2], [], [0, 3, 4], [5], [6], [6], []] [[], [], [1], [1, 2], [], [0, 1, 2, 3, 4], [0, 1, 2, 3, 4, 5], [0, 1, 2, 3, 4, 5, 6], [0, 1, 2, 3, 4, 5, 6], [], [0, 1, 2, 3, 4, 5, 6, 7, 9], [0, 1, 2, 3, 4, 5, 6, 7, 8, 9, 10]] rfl
              (obs_cons rfl rfl (hob rfl rfl ?_) (obs_cons rfl rfl (hob rfl rfl ?_) (obs_cons rfl rfl (hob rfl rfl ?_) (obs_cons rfl rfl (hob rfl rfl ?_) (obs_cons rfl rfl (hob rfl rfl ?_) (obs_cons rfl rfl (hob rfl rfl ?_) (obs_cons rfl rfl (hob rfl rfl ?_) (obs_float rfl rfl (fob rfl ?_) (obs_float rfl rfl (fob rfl ?_) (obs_cons rfl rfl (hob rfl rfl ?_) obs_nil)))))))))) ?_
            · -- 0
              intro v783 e784
              have hw19 : Ext w v783 := hw18.trans e784
              refine deps_nil ?_
              refine wl_load rfl rfl (load_agg aggInt (((((((hb326.ext (e330.trans e417)).updN u481 (by omega)).ext e589).updN u668 (by omega)).ext (e671.trans (e674.trans (e677.trans (e680.trans e732))))).updN u772 (by omega)).ext (e775.trans e784)) [.bool s309, .slice A309 n309 c309] rfl (Nat.le_of_ble_eq_true rfl) rfl) (by decide) ?_
              exact pi_done rfl (Ext.refl _) rfl
            · -- 1
              intro v785 e786
              have hw19 : Ext w v785 := hw18.trans e786
              refine deps_nil ?_
              refine wl_move rfl rfl (by decide) ?_
              exact pi_done rfl (Ext.refl _) rfl
            · -- 2
              intro v787 e788
              have hw19 : Ext w v787 := hw18.trans e788
              refine deps_cons rfl rfl fun x789 y790 h791 e792 f793 => ?_
              obtain rfl := h791
              refine deps_nil ?_
              refine wl_pureE rfl rfl (v := .int .u64 (IntKind.u64.wrap ((f : Nat) : Int))) (v' := .int .u64 ((f : Nat) : Int)) (by decide) (by kernel_rfl) (cv_u8 (by omega)) ?_
              exact pi_done rfl (Ext.refl _) rfl
            · -- 3
              intro v794 e795
              have hw19 : Ext w v794 := hw18.trans e795
              refine deps_cons rfl rfl fun x796 y797 h798 e799 f800 => ?_
              obtain rfl := h798
              refine deps_nil ?_
              refine wl_call rfl rfl (vs := [.int .u64 ((f : Nat) : Int)]) (by kernel_rfl) (by decide) (g_law6_of hw19.size (by omega : f ≤ 18446744073709551615)) ?_
              rintro _ v801 ⟨xr803, rfl, r803, e802⟩
              refine ret_intro ?_
              have hw20 : Ext w v801 := hw19.trans e802
              obtain ⟨A804, rfl, o804⟩ := r803
              exact pi_done rfl e802 ⟨_, rfl, o804⟩
            · -- 4
              intro v805 e806
              have hw19 : Ext w v805 := hw18.trans e806
              refine deps_nil ?_
              refine wl_load rfl rfl (load_agg aggInt (((((((((hb9.ext (e14.trans (e19.trans e263))).updN u327 (by omega)).ext (e330.trans e417)).updN u481 (by omega)).ext e589).updN u668 (by omega)).ext (e671.trans (e674.trans (e677.trans (e680.trans e732))))).updN u772 (by omega)).ext (e775.trans e806)) [.bool sb, .slice Ab nb cb] rfl (Nat.le_of_ble_eq_true rfl) rfl) (by decide) ?_
              exact pi_done rfl (Ext.refl _) rfl
            · -- 5
              intro v807 e808
              have hw19 : Ext w v807 := hw18.trans e808
              refine deps_cons rfl rfl fun x809 y810 h811 e812 f813 => ?_
              obtain rfl := h811
              refine deps_cons rfl rfl fun x814 y815 h816 e817 f818 => ?_
              obtain ⟨A819, rfl, o819⟩ := h816
              have o819 := o819.ext f818
              refine deps_cons rfl rfl fun x820 y821 h822 e823 f824 => ?_
              obtain rfl := h822
              refine deps_nil ?_
              refine wl_call rfl rfl (vs := [.agg #[.bool s309, .slice A309 n309 c309], .agg #[.bool false, .slice A819 1 1], .agg #[.bool sb, .slice Ab nb cb]]) (by kernel_rfl) (by decide) (g_pow_nat hw19.size ((((((((z309.updT hb325 u327).ext (e330.trans e417)).updT hb479 u481).ext e589).updT hb666 u668).ext (e671.trans (e674.trans (e677.trans (e680.trans e732))))).updT hb770 u772).ext (e775.trans e808)).zi (z309.le (Nat.le_trans (pw_ln hP1 hm0 Lz) (by decide))) (own1_zi o819 (by omega : f ≤ 18446744073709551615)) (by decide) (hz.ext hw19) (Nat.le_trans lb (by decide)) hm0 hP4) ?_
              rintro _ v825 ⟨xr827, rfl, r827, e826⟩
              refine ret_intro ?_
              have hw20 : Ext w v825 := hw19.trans e826
              obtain ⟨a828_0, a828_1, rfl, r828_0, r828_1⟩ := r827
              obtain ⟨s829, A829, n829, c829, rfl, z829⟩ := r828_0
              obtain rfl := r828_1
              exact pi_done rfl e826 ⟨_, _, rfl, ⟨_, _, _, _, rfl, z829⟩, rfl⟩
            · -- 6
              intro v830 e831
              have hw19 : Ext w v830 := hw18.trans e831
              refine deps_cons rfl rfl fun x832 y833 h834 e835 f836 => ?_
              obtain ⟨a837_0, a837_1, rfl, r837_0, r837_1⟩ := h834
              obtain ⟨s838, A838, n838, c838, rfl, z838⟩ := r837_0
              obtain rfl := r837_1
              have z838 := z838.ext f836
              refine deps_nil ?_
              refine wl_move rfl rfl (by decide) ?_
              exact pi_done rfl (Ext.refl _) ⟨_, _, rfl, ⟨_, _, _, _, rfl, z838⟩, rfl⟩
            · -- 7
              intro v839 e840
              have hw19 : Ext w v839 := hw18.trans e840
              refine deps_cons rfl rfl fun x841 y842 h843 e844 f845 => ?_
              obtain ⟨a846_0, a846_1, rfl, r846_0, r846_1⟩ := h843
              obtain ⟨s847, A847, n847, c847, rfl, z847⟩ := r846_0
              obtain rfl := r846_1
              have z847 := z847.ext f845
              refine deps_nil ?_
              exact ⟨.agg #[.bool s847, .slice A847 n847 c847], rfl, rfl, fun _ => by kernel_rfl, ⟨_, _, _, _, rfl, z847⟩⟩
            · -- 8
              intro v848 e849
              have hw19 : Ext w v848 := hw18.trans e849
              refine deps_cons rfl rfl fun x850 y851 h852 e853 f854 => ?_
              obtain ⟨a855_0, a855_1, rfl, r855_0, r855_1⟩ := h852
              obtain ⟨s856, A856, n856, c856, rfl, z856⟩ := r855_0
              obtain rfl := r855_1
              have z856 := z856.ext f854
              refine deps_nil ?_
              exact ⟨.int .i64 0, rfl, rfl, fun _ => by kernel_rfl, rfl⟩
            · -- 9
              intro v857 e858
              have hw19 : Ext w v857 := hw18.trans e858
              refine deps_nil ?_
              refine wl_alloc rfl (z := .agg #[.bool false, .slice none 0 0]) (vs := [.bool false, .slice none 0 0]) (fun _ => by kernel_rfl) rfl (by decide) fun g859 v860 nb => ?_
              exact pi_done rfl nb.ext ⟨_, rfl, by rw [← nb.at_]; exact e858.size, nb.bk⟩
            · -- all
              intro v861 e862
              have hw19 : Ext w v861 := hw18.trans e862
              refine deps_cons rfl rfl fun x863 y864 h865 e866 f867 => ?_
              obtain rfl := h865
              refine deps_cons rfl rfl fun x868 y869 h870 e871 f872 => ?_
              obtain rfl := h870
              refine deps_cons rfl rfl fun x873 y874 h875 e876 f877 => ?_
              obtain rfl := h875
              refine deps_cons rfl rfl fun x878 y879 h880 e881 f882 => ?_
              obtain ⟨A883, rfl, o883⟩ := h880
              have o883 := o883.ext f882
              refine deps_cons rfl rfl fun x884 y885 h886 e887 f888 => ?_
              obtain rfl := h886
              refine deps_cons rfl rfl fun x889 y890 h891 e892 f893 => ?_
              obtain ⟨a894_0, a894_1, rfl, r894_0, r894_1⟩ := h891
              obtain ⟨s895, A895, n895, c895, rfl, z895⟩ := r894_0
              obtain rfl := r894_1
              have z895 := z895.ext f893
              refine deps_cons rfl rfl fun x896 y897 h898 e899 f900 => ?_
              obtain ⟨a901_0, a901_1, rfl, r901_0, r901_1⟩ := h898
              obtain ⟨s902, A902, n902, c902, rfl, z902⟩ := r901_0
              obtain rfl := r901_1
              have z902 := z902.ext f900
              refine deps_cons rfl rfl fun x903 y904 h905 e906 f907 => ?_
              obtain ⟨s908, A908, n908, c908, rfl, z908⟩ := h905
              have z908 := z908.ext f907
              refine deps_cons rfl rfl fun x909 y910 h911 e912 f913 => ?_
              obtain rfl := h911
              refine deps_cons rfl rfl fun x914 y915 h916 e917 f918 => ?_
              obtain ⟨g919, rfl, ge921, hb920⟩ := h916
              have hb920 := hb920.ext f918
              have q922 : g765 < g919 := Nat.lt_of_lt_of_le (hb771.ext e775).lt ge921
              have ge921 : w.heap.size ≤ g919 := Nat.le_trans hw18.size ge921
              refine deps_nil ?_
              have hb924 := hb920
              refine wl_stored rfl rfl rfl aggInt rfl hb924 (Nat.le_of_ble_eq_true rfl) rfl [.bool s908, .slice A908 n908 c908] rfl fun v923 hb925 u926 hs927 => ?_
              have hw20 : Ext w v923 := u926.ext hw19 ge921
              refine wl_assign rfl rfl (by decide) ?_
              refine wl_nil ?_
              refine eo_np ?_
              refine eo_then ?_
              refine cw_seq ?_
              obtain ⟨P5, hP5⟩ : ∃ p : Int, p = x ^ (e * f) % z := ⟨_, rfl⟩
              refine cw_draw mix 13 [10, 11] [Is (.agg #[.bool sa, .slice Aa na ca]), Is (.int .u8 ((e : Nat) : Int)), Is (.int .u64 ((e : Nat) : Int)), Is (.int .u8 ((f : Nat) : Int)), Is (.int .u64 ((f : Nat) : Int)), Is (.int .u64 ((e * f : Nat) : Int)), ZO w.heap.size (e * f), Is (.agg #[.bool sb, .slice Ab nb cb]), T2 (ZR w.heap.size (P5)) (Is (.int .i64 0)), T2 (ZR w.heap.size (P5)) (Is (.int .i64 0)), ZR w.heap.size (P5), Is (.int .i64 0), PR v923.heap.size 27 [.bool false, .slice none 0 0]] [[], [], [1], [], [3], [2, 4], [5], [], [0, 6, 7], [8], [9], [9], []] [[], [], [1], [], [3], [1, 2, 3, 4], [1, 2, 3, 4, 5], [], [0, 1, 2, 3, 4, 5, 6, 7], [0, 1, 2, 3, 4, 5, 6, 7, 8], [0, 1, 2, 3, 4, 5, 6, 7, 8, 9], [0, 1, 2, 3, 4, 5, 6, 7, 8, 9], [], [0, 1, 2, 3, 4, 5, 6, 7, 8, 9, 10, 12], [0, 1, 2, 3, 4, 5, 6, 7, 8, 9, 10, 11, 12, 13]] rfl
                (obs_cons rfl rfl (hob rfl rfl ?_) (obs_cons rfl rfl (hob rfl rfl ?_) (obs_cons rfl rfl (hob rfl rfl ?_) (obs_cons rfl rfl (hob rfl rfl ?_) (obs_cons rfl rfl (hob rfl rfl ?_) (obs_cons rfl rfl (hob rfl rfl ?_) (obs_cons rfl rfl (hob rfl rfl ?_) (obs_cons rfl rfl (hob rfl rfl ?_) (obs_cons rfl rfl (hob rfl rfl ?_) (obs_cons rfl rfl (hob rfl rfl ?_) (obs_float rfl rfl (fob rfl ?_) (obs_float rfl rfl (fob rfl ?_) (obs_cons rfl rfl (hob rfl rfl ?_) obs_nil))))))))))))) ?_
              · -- 0
                intro v934 e935
                have hw21 : Ext w v934 := hw20.trans e935
                refine deps_nil ?_
                refine wl_load rfl rfl (load_agg aggInt (((((((((((hb4.ext (e8.trans (e14.trans (e19.trans e263)))).updN u327 (by omega)).ext (e330.trans e417)).updN u481 (by omega)).ext e589).updN u668 (by omega)).ext (e671.trans (e674.trans (e677.trans (e680.trans e732))))).updN u772 (by omega)).ext (e775.trans e862)).updN u926 (by omega)).ext e935) [.bool sa, .slice Aa na ca] rfl (Nat.le_of_ble_eq_true rfl) rfl) (by decide) ?_
                exact pi_done rfl (Ext.refl _) rfl
              · -- 1
                intro v936 e937
                have hw21 : Ext w v936 := hw20.trans e937
                refine deps_nil ?_
                refine wl_move rfl rfl (by decide) ?_
                exact pi_done rfl (Ext.refl _) rfl
              · -- 2
                intro v938 e939
                have hw21 : Ext w v938 := hw20.trans e939
                refine deps_cons rfl rfl fun x940 y941 h942 e943 f944 => ?_
                obtain rfl := h942
                refine deps_nil ?_
                refine wl_pureE rfl rfl (v := .int .u64 (IntKind.u64.wrap ((e : Nat) : Int))) (v' := .int .u64 ((e : Nat) : Int)) (by decide) (by kernel_rfl) (cv_u8 (by omega)) ?_
                exact pi_done rfl (Ext.refl _) rfl
              · -- 3
                intro v945 e946
                have hw21 : Ext w v945 := hw20.trans e946
                refine deps_nil ?_
                refine wl_move rfl rfl (by decide) ?_
                exact pi_done rfl (Ext.refl _) rfl
              · -- 4
                intro v947 e948
                have hw21 : Ext w v947 := hw20.trans e948
                refine deps_cons rfl rfl fun x949 y950 h951 e952 f953 => ?_
                obtain rfl := h951
                refine deps_nil ?_
                refine wl_pureE rfl rfl (v := .int .u64 (IntKind.u64.wrap ((f : Nat) : Int))) (v' := .int .u64 ((f : Nat) : Int)) (by decide) (by kernel_rfl) (cv_u8 (by omega)) ?_
                exact pi_done rfl (Ext.refl _) rfl
              · -- 5
                intro v954 e955
                have hw21 : Ext w v954 := hw20.trans e955
                refine deps_cons rfl rfl fun x956 y957 h958 e959 f960 => ?_
                obtain rfl := h958
                refine deps_cons rfl rfl fun x961 y962 h963 e964 f965 => ?_
                obtain rfl := h963
                refine deps_nil ?_
                refine wl_ar rfl rfl rfl ((e * f : Nat) : Int) (au_mul (a := e) (b := f) rfl rfl (by omega)) (by decide) ?_
                exact pi_done rfl (Ext.refl _) rfl
              · -- 6
                intro v966 e967
                have hw21 : Ext w v966 := hw20.trans e967
                refine deps_cons rfl rfl fun x968 y969 h970 e971 f972 => ?_
                obtain rfl := h970
                refine deps_nil ?_
                refine wl_call rfl rfl (vs := [.int .u64 ((e * f : Nat) : Int)]) (by kernel_rfl) (by decide) (g_law6_of hw21.size (by omega : e * f ≤ 18446744073709551615)) ?_
                rintro _ v973 ⟨xr975, rfl, r975, e974⟩
                refine ret_intro ?_
                have hw22 : Ext w v973 := hw21.trans e974
                obtain ⟨A976, rfl, o976⟩ := r975
                exact pi_done rfl e974 ⟨_, rfl, o976⟩
              · -- 7
                intro v977 e978
                have hw21 : Ext w v977 := hw20.trans e978
                refine deps_nil ?_
                refine wl_load rfl rfl (load_agg aggInt (((((((((((hb9.ext (e14.trans (e19.trans e263))).updN u327 (by omega)).ext (e330.trans e417)).updN u481 (by omega)).ext e589).updN u668 (by omega)).ext (e671.trans (e674.trans (e677.trans (e680.trans e732))))).updN u772 (by omega)).ext (e775.trans e862)).updN u926 (by omega)).ext e978) [.bool sb, .slice Ab nb cb] rfl (Nat.le_of_ble_eq_true rfl) rfl) (by decide) ?_
                exact pi_done rfl (Ext.refl _) rfl
              · -- 8
                intro v979 e980
                have hw21 : Ext w v979 := hw20.trans e980
                refine deps_cons rfl rfl fun x981 y982 h983 e984 f985 => ?_
                obtain rfl := h983
                refine deps_cons rfl rfl fun x986 y987 h988 e989 f990 => ?_
                obtain ⟨A991, rfl, o991⟩ := h988
                have o991 := o991.ext f990
                refine deps_cons rfl rfl fun x992 y993 h994 e995 f996 => ?_
                obtain rfl := h994
                refine deps_nil ?_
                refine wl_call rfl rfl (vs := [.agg #[.bool sa, .slice Aa na ca], .agg #[.bool false, .slice A991 1 1], .agg #[.bool sb, .slice Ab nb cb]]) (by kernel_rfl) (by decide) (g_pow_nat hw21.size (hx.ext hw21) (Nat.le_trans la (by decide)) (own1_zi o991 (by omega : e * f ≤ 18446744073709551615)) (by decide) (hz.ext hw21) (Nat.le_trans lb (by decide)) hm0 hP5) ?_
                rintro _ v997 ⟨xr999, rfl, r999, e998⟩
                refine ret_intro ?_
                have hw22 : Ext w v997 := hw21.trans e998
                obtain ⟨a1000_0, a1000_1, rfl, r1000_0, r1000_1⟩ := r999
                obtain ⟨s1001, A1001, n1001, c1001, rfl, z1001⟩ := r1000_0
                obtain rfl := r1000_1
                exact pi_done rfl e998 ⟨_, _, rfl, ⟨_, _, _, _, rfl, z1001⟩, rfl⟩
              · -- 9
                intro v1002 e1003
                have hw21 : Ext w v1002 := hw20.trans e1003
                refine deps_cons rfl rfl fun x1004 y1005 h1006 e1007 f1008 => ?_
                obtain ⟨a1009_0, a1009_1, rfl, r1009_0, r1009_1⟩ := h1006
                obtain ⟨s1010, A1010, n1010, c1010, rfl, z1010⟩ := r1009_0
                obtain rfl := r1009_1
                have z1010 := z1010.ext f1008
                refine deps_nil ?_
                refine wl_move rfl rfl (by decide) ?_
                exact pi_done rfl (Ext.refl _) ⟨_, _, rfl, ⟨_, _, _, _, rfl, z1010⟩, rfl⟩
              · -- 10
                intro v1011 e1012
                have hw21 : Ext w v1011 := hw20.trans e1012
                refine deps_cons rfl rfl fun x1013 y1014 h1015 e1016 f1017 => ?_
                obtain ⟨a1018_0, a1018_1, rfl, r1018_0, r1018_1⟩ := h1015
                obtain ⟨s1019, A1019, n1019, c1019, rfl, z1019⟩ := r1018_0
                obtain rfl := r1018_1
                have z1019 := z1019.ext f1017
                refine deps_nil ?_
                exact ⟨.agg #[.bool s1019, .slice A1019 n1019 c1019], rfl, rfl, fun _ => by kernel_rfl, ⟨_, _, _, _, rfl, z1019⟩⟩
              · -- 11
                intro v1020 e1021
                have hw21 : Ext w v1020 := hw20.trans e1021
                refine deps_cons rfl rfl fun x1022 y1023 h1024 e1025 f1026 => ?_
                obtain ⟨a1027_0, a1027_1, rfl, r1027_0, r1027_1⟩ := h1024
                obtain ⟨s1028, A1028, n1028, c1028, rfl, z1028⟩ := r1027_0
                obtain rfl := r1027_1
                have z1028 := z1028.ext f1026
                refine deps_nil ?_
                exact ⟨.int .i64 0, rfl, rfl, fun _ => by kernel_rfl, rfl⟩
              · -- 12
                intro v1029 e1030
                have hw21 : Ext w v1029 := hw20.trans e1030
                refine deps_nil ?_
                refine wl_alloc rfl (z := .agg #[.bool false, .slice none 0 0]) (vs := [.bool false, .slice none 0 0]) (fun _ => by kernel_rfl) rfl (by decide) fun g1031 v1032 nb => ?_
                exact pi_done rfl nb.ext ⟨_, rfl, by rw [← nb.at_]; exact e1030.size, nb.bk⟩
              · -- all
                intro v1033 e1034
                have hw21 : Ext w v1033 := hw20.trans e1034
                refine deps_cons rfl rfl fun x1035 y1036 h1037 e1038 f1039 => ?_
                obtain rfl := h1037
                refine deps_cons rfl rfl fun x1040 y1041 h1042 e1043 f1044 => ?_
                obtain rfl := h1042
                refine deps_cons rfl rfl fun x1045 y1046 h1047 e1048 f1049 => ?_
                obtain rfl := h1047
                refine deps_cons rfl rfl fun x1050 y1051 h1052 e1053 f1054 => ?_
                obtain rfl := h1052
                refine deps_cons rfl rfl fun x1055 y1056 h1057 e1058 f1059 => ?_
                obtain rfl := h1057
                refine deps_cons rfl rfl fun x1060 y1061 h1062 e1063 f1064 => ?_
                obtain rfl := h1062
                refine deps_cons rfl rfl fun x1065 y1066 h1067 e1068 f1069 => ?_
                obtain ⟨A1070, rfl, o1070⟩ := h1067
                have o1070 := o1070.ext f1069
                refine deps_cons rfl rfl fun x1071 y1072 h1073 e1074 f1075 => ?_
                obtain rfl := h1073
                refine deps_cons rfl rfl fun x1076 y1077 h1078 e1079 f1080 => ?_
                obtain ⟨a1081_0, a1081_1, rfl, r1081_0, r1081_1⟩ := h1078
                obtain ⟨s1082, A1082, n1082, c1082, rfl, z1082⟩ := r1081_0
                obtain rfl := r1081_1
                have z1082 := z1082.ext f1080
                refine deps_cons rfl rfl fun x1083 y1084 h1085 e1086 f1087 => ?_
                obtain ⟨a1088_0, a1088_1, rfl, r1088_0, r1088_1⟩ := h1085
                obtain ⟨s1089, A1089, n1089, c1089, rfl, z1089⟩ := r1088_0
                obtain rfl := r1088_1
                have z1089 := z1089.ext f1087
                refine deps_cons rfl rfl fun x1090 y1091 h1092 e1093 f1094 => ?_
                obtain ⟨s1095, A1095, n1095, c1095, rfl, z1095⟩ := h1092
                have z1095 := z1095.ext f1094
                refine deps_cons rfl rfl fun x1096 y1097 h1098 e1099 f1100 => ?_
                obtain rfl := h1098
                refine deps_cons rfl rfl fun x1101 y1102 h1103 e1104 f1105 => ?_
                obtain ⟨g1106, rfl, ge1108, hb1107⟩ := h1103
                have hb1107 := hb1107.ext f1105
                have q1109 : g919 < g1106 := Nat.lt_of_lt_of_le hb925.lt ge1108
                have ge1108 : w.heap.size ≤ g1106 := Nat.le_trans hw20.size ge1108
                refine deps_nil ?_
                have hb1111 := hb1107
                refine wl_stored rfl rfl rfl aggInt rfl hb1111 (Nat.le_of_ble_eq_true rfl) rfl [.bool s1095, .slice A1095 n1095 c1095] rfl fun v1110 hb1112 u1113 hs1114 => ?_
                have hw22 : Ext w v1110 := u1113.ext hw21 ge1108
                refine wl_assign rfl rfl (by decide) ?_
                refine wl_nil ?_
                refine eo_np ?_
                refine eo_then ?_
                refine cw_seq ?_
                refine cw_seq ?_
                refine cw_region ?_
                refine wl_move rfl rfl (by decide) ?_
                refine wl_pure rfl rfl (v := .bool false) (by decide) (by kernel_rfl) ?_
                refine wl_move rfl rfl (by decide) ?_
                refine wl_move rfl rfl (by decide) ?_
                refine wl_pure rfl rfl (v := .bool false) (by decide) (by kernel_rfl) ?_
                refine wl_pure rfl rfl (v := .bool false) (by decide) (by kernel_rfl) ?_
                refine wl_move rfl rfl (by decide) ?_
                refine wl_load rfl rfl (load_agg aggInt ((hb925.ext e1034).updN u1113 (by omega)) [.bool s908, .slice A908 n908 c908] rfl (Nat.le_of_ble_eq_true rfl) rfl) (by decide) ?_
                refine wl_load rfl rfl (load_agg aggInt hb1112 [.bool s1095, .slice A1095 n1095 c1095] rfl (Nat.le_of_ble_eq_true rfl) rfl) (by decide) ?_
                refine wl_call rfl rfl (vs := [.agg #[.bool s908, .slice A908 n908 c908], .agg #[.bool s1095, .slice A1095 n1095 c1095]]) (by kernel_rfl) (by decide) (g_law6_alike (((z908.updT hb924 u926).ext e1034).updT hb1111 u1113) (z908.le (Nat.le_trans (pw_ln hP4 hm0 Lz) (by decide))) ((z1095.updT hb1111 u1113).cast (pw_mul hP1 hP4 hP5)) (z1095.le (Nat.le_trans (pw_ln hP5 hm0 Lz) (by decide)))) ?_
                rintro _ v1115 ⟨xr1117, rfl, r1117, e1116⟩
                refine ret_intro ?_
                have hw23 : Ext w v1115 := hw22.trans e1116
                obtain rfl := r1117
                refine wl_pure rfl rfl (v := .bool false) (by decide) (by kernel_rfl) ?_
                refine wl_pure rfl rfl (v := .bool false) (by decide) (by kernel_rfl) ?_
                refine wl_nil ?_
                refine eo_then ?_
                refine cw_false rfl ?_
                refine cw_skip ?_
                refine eo_then ?_
                refine cw_seq ?_
                obtain ⟨P6, hP6⟩ : ∃ p : Int, p = x ^ (0) % z := ⟨_, rfl⟩
                refine cw_draw mix 8 [5, 6] [Is (.agg #[.bool sa, .slice Aa na ca]), ZO w.heap.size (0), Is (.agg #[.bool sb, .slice Ab nb cb]), T2 (ZR w.heap.size (P6)) (Is (.int .i64 0)), T2 (ZR w.heap.size (P6)) (Is (.int .i64 0)), ZR w.heap.size (P6), Is (.int .i64 0), PR v1115.heap.size 27 [.bool false, .slice none 0 0]] [[], [], [], [0, 1, 2], [3], [4], [4], []] [[], [], [], [0, 1, 2], [0, 1, 2, 3], [0, 1, 2, 3, 4], [0, 1, 2, 3, 4], [], [0, 1, 2, 3, 4, 5, 7], [0, 1, 2, 3, 4, 5, 6, 7, 8]] rfl
                  (obs_cons rfl rfl (hob rfl rfl ?_) (obs_cons rfl rfl (hob rfl rfl ?_) (obs_cons rfl rfl (hob rfl rfl ?_) (obs_cons rfl rfl (hob rfl rfl ?_) (obs_cons rfl rfl (hob rfl rfl ?_) (obs_float rfl rfl (fob rfl ?_) (obs_float rfl rfl (fob rfl ?_) (obs_cons rfl rfl (hob rfl rfl ?_) obs_nil)))))))) ?_
                · -- 0
                  intro v1124 e1125
                  have hw24 : Ext w v1124 := hw23.trans e1125
                  refine deps_nil ?_
                  refine wl_load rfl rfl (load_agg aggInt (((((((((((((hb4.ext (e8.trans (e14.trans (e19.trans e263)))).updN u327 (by omega)).ext (e330.trans e417)).updN u481 (by omega)).ext e589).updN u668 (by omega)).ext (e671.trans (e674.trans (e677.trans (e680.trans e732))))).updN u772 (by omega)).ext (e775.trans e862)).updN u926 (by omega)).ext e1034).updN u1113 (by omega)).ext (e1116.trans e1125)) [.bool sa, .slice Aa na ca] rfl (Nat.le_of_ble_eq_true rfl) rfl) (by decide) ?_
                  exact pi_done rfl (Ext.refl _) rfl
                · -- 1
                  intro v1126 e1127
                  have hw24 : Ext w v1126 := hw23.trans e1127
                  refine deps_nil ?_
                  refine wl_call rfl rfl (vs := [.int .u64 0]) (by kernel_rfl) (by decide) (g_law6_of hw24.size (by decide : 0 ≤ 18446744073709551615)) ?_
                  rintro _ v1128 ⟨xr1130, rfl, r1130, e1129⟩
                  refine ret_intro ?_
                  have hw25 : Ext w v1128 := hw24.trans e1129
                  obtain ⟨A1131, rfl, o1131⟩ := r1130
                  exact pi_done rfl e1129 ⟨_, rfl, o1131⟩
                · -- 2
                  intro v1132 e1133
                  have hw24 : Ext w v1132 := hw23.trans e1133
                  refine deps_nil ?_
                  refine wl_load rfl rfl (load_agg aggInt (((((((((((((hb9.ext (e14.trans (e19.trans e263))).updN u327 (by omega)).ext (e330.trans e417)).updN u481 (by omega)).ext e589).updN u668 (by omega)).ext (e671.trans (e674.trans (e677.trans (e680.trans e732))))).updN u772 (by omega)).ext (e775.trans e862)).updN u926 (by omega)).ext e1034).updN u1113 (by omega)).ext (e1116.trans e1133)) [.bool sb, .slice Ab nb cb] rfl (Nat.le_of_ble_eq_true rfl) rfl) (by decide) ?_
                  exact pi_done rfl (Ext.refl _) rfl
                · -- 3
                  intro v1134 e1135
                  have hw24 : Ext w v1134 := hw23.trans e1135
                  refine deps_cons rfl rfl fun x1136 y1137 h1138 e1139 f1140 => ?_
                  obtain rfl := h1138
                  refine deps_cons rfl rfl fun x1141 y1142 h1143 e1144 f1145 => ?_
                  obtain ⟨A1146, rfl, o1146⟩ := h1143
                  have o1146 := o1146.ext f1145
                  refine deps_cons rfl rfl fun x1147 y1148 h1149 e1150 f1151 => ?_
                  obtain rfl := h1149
                  refine deps_nil ?_
                  refine wl_call rfl rfl (vs := [.agg #[.bool sa, .slice Aa na ca], .agg #[.bool false, .slice A1146 1 1], .agg #[.bool sb, .slice Ab nb cb]]) (by kernel_rfl) (by decide) (g_pow_nat hw24.size (hx.ext hw24) (Nat.le_trans la (by decide)) (own1_zi o1146 (by decide : 0 ≤ 18446744073709551615)) (by decide) (hz.ext hw24) (Nat.le_trans lb (by decide)) hm0 hP6) ?_
                  rintro _ v1152 ⟨xr1154, rfl, r1154, e1153⟩
                  refine ret_intro ?_
                  have hw25 : Ext w v1152 := hw24.trans e1153
                  obtain ⟨a1155_0, a1155_1, rfl, r1155_0, r1155_1⟩ := r1154
                  obtain ⟨s1156, A1156, n1156, c1156, rfl, z1156⟩ := r1155_0
                  obtain rfl := r1155_1
                  exact pi_done rfl e1153 ⟨_, _, rfl, ⟨_, _, _, _, rfl, z1156⟩, rfl⟩
                · -- 4
                  intro v1157 e1158
                  have hw24 : Ext w v1157 := hw23.trans e1158
                  refine deps_cons rfl rfl fun x1159 y1160 h1161 e1162 f1163 => ?_
                  obtain ⟨a1164_0, a1164_1, rfl, r1164_0, r1164_1⟩ := h1161
                  obtain ⟨s1165, A1165, n1165, c1165, rfl, z1165⟩ := r1164_0
                  obtain rfl := r1164_1
                  have z1165 := z1165.ext f1163
                  refine deps_nil ?_
                  refine wl_move rfl rfl (by decide) ?_
                  exact pi_done rfl (Ext.refl _) ⟨_, _, rfl, ⟨_, _, _, _, rfl, z1165⟩, rfl⟩
                · -- 5
                  intro v1166 e1167
                  have hw24 : Ext w v1166 := hw23.trans e1167
                  refine deps_cons rfl rfl fun x1168 y1169 h1170 e1171 f1172 => ?_
                  obtain ⟨a1173_0, a1173_1, rfl, r1173_0, r1173_1⟩ := h1170
                  obtain ⟨s1174, A1174, n1174, c1174, rfl, z1174⟩ := r1173_0
                  obtain rfl := r1173_1
                  have z1174 := z1174.ext f1172
                  refine deps_nil ?_
                  exact ⟨.agg #[.bool s1174, .slice A1174 n1174 c1174], rfl, rfl, fun _ => by kernel_rfl, ⟨_, _, _, _, rfl, z1174⟩⟩
                · -- 6
                  intro v1175 e1176
                  have hw24 : Ext w v1175 := hw23.trans e1176
                  refine deps_cons rfl rfl fun x1177 y1178 h1179 e1180 f1181 => ?_
                  obtain ⟨a1182_0, a1182_1, rfl, r1182_0, r1182_1⟩ := h1179
                  obtain ⟨s1183, A1183, n1183, c1183, rfl, z1183⟩ := r1182_0
                  obtain rfl := r1182_1
                  have z1183 := z1183.ext f1181
                  refine deps_nil ?_
                  exact ⟨.int .i64 0, rfl, rfl, fun _ => by kernel_rfl, rfl⟩
                · -- 7
                  intro v1184 e1185
                  have hw24 : Ext w v1184 := hw23.trans e1185
                  refine deps_nil ?_
                  refine wl_alloc rfl (z := .agg #[.bool false, .slice none 0 0]) (vs := [.bool false, .slice none 0 0]) (fun _ => by kernel_rfl) rfl (by decide) fun g1186 v1187 nb => ?_
                  exact pi_done rfl nb.ext ⟨_, rfl, by rw [← nb.at_]; exact e1185.size, nb.bk⟩
                · -- all
                  intro v1188 e1189
                  have hw24 : Ext w v1188 := hw23.trans e1189
                  refine deps_cons rfl rfl fun x1190 y1191 h1192 e1193 f1194 => ?_
                  obtain rfl := h1192
                  refine deps_cons rfl rfl fun x1195 y1196 h1197 e1198 f1199 => ?_
                  obtain ⟨A1200, rfl, o1200⟩ := h1197
                  have o1200 := o1200.ext f1199
                  refine deps_cons rfl rfl fun x1201 y1202 h1203 e1204 f1205 => ?_
                  obtain rfl := h1203
                  refine deps_cons rfl rfl fun x1206 y1207 h1208 e1209 f1210 => ?_
                  obtain ⟨a1211_0, a1211_1, rfl, r1211_0, r1211_1⟩ := h1208
                  obtain ⟨s1212, A1212, n1212, c1212, rfl, z1212⟩ := r1211_0
                  obtain rfl := r1211_1
                  have z1212 := z1212.ext f1210
                  refine deps_cons rfl rfl fun x1213 y1214 h1215 e1216 f1217 => ?_
                  obtain ⟨a1218_0, a1218_1, rfl, r1218_0, r1218_1⟩ := h1215
                  obtain ⟨s1219, A1219, n1219, c1219, rfl, z1219⟩ := r1218_0
                  obtain rfl := r1218_1
                  have z1219 := z1219.ext f1217
                  refine deps_cons rfl rfl fun x1220 y1221 h1222 e1223 f1224 => ?_
                  obtain ⟨s1225, A1225, n1225, c1225, rfl, z1225⟩ := h1222
                  have z1225 := z1225.ext f1224
                  refine deps_cons rfl rfl fun x1226 y1227 h1228 e1229 f1230 => ?_
                  obtain rfl := h1228
                  refine deps_cons rfl rfl fun x1231 y1232 h1233 e1234 f1235 => ?_
                  obtain ⟨g1236, rfl, ge1238, hb1237⟩ := h1233
                  have hb1237 := hb1237.ext f1235
                  have q1239 : g1106 < g1236 := Nat.lt_of_lt_of_le (hb1112.ext e1116).lt ge1238
                  have ge1238 : w.heap.size ≤ g1236 := Nat.le_trans hw23.size ge1238
                  refine deps_nil ?_
                  have hb1241 := hb1237
                  refine wl_stored rfl rfl rfl aggInt rfl hb1241 (Nat.le_of_ble_eq_true rfl) rfl [.bool s1225, .slice A1225 n1225 c1225] rfl fun v1240 hb1242 u1243 hs1244 => ?_
                  have hw25 : Ext w v1240 := u1243.ext hw24 ge1238
                  refine wl_assign rfl rfl (by decide) ?_
                  refine wl_nil ?_
                  refine eo_np ?_
                  refine eo_then ?_
                  refine cw_seq ?_
                  obtain ⟨P7, hP7⟩ : ∃ p : Int, p = x ^ (1) % z := ⟨_, rfl⟩
                  refine cw_draw mix 8 [5, 6] [Is (.agg #[.bool sa, .slice Aa na ca]), ZR w.heap.size (((1 : Nat) : Int)), Is (.agg #[.bool sb, .slice Ab nb cb]), T2 (ZR w.heap.size (P7)) (Is (.int .i64 0)), T2 (ZR w.heap.size (P7)) (Is (.int .i64 0)), ZR w.heap.size (P7), Is (.int .i64 0), PR v1240.heap.size 27 [.bool false, .slice none 0 0]] [[], [], [], [0, 1, 2], [3], [4], [4], []] [[], [], [], [0, 1, 2], [0, 1, 2, 3], [0, 1, 2, 3, 4], [0, 1, 2, 3, 4], [], [0, 1, 2, 3, 4, 5, 7], [0, 1, 2, 3, 4, 5, 6, 7, 8]] rfl
                    (obs_cons rfl rfl (hob rfl rfl ?_) (obs_cons rfl rfl (hob rfl rfl ?_) (obs_cons rfl rfl (hob rfl rfl ?_) (obs_cons rfl rfl (hob rfl rfl ?_) (obs_cons rfl rfl (hob rfl rfl ?_) (obs_float rfl rfl (fob rfl ?_) (obs_float rfl rfl (fob rfl ?_) (obs_cons rfl rfl (hob rfl rfl ?_) obs_nil)))))))) ?_
                  · -- 0
                    intro v1251 e1252
                    have hw26 : Ext w v1251 := hw25.trans e1252
                    refine deps_nil ?_
                    refine wl_load rfl rfl (load_agg aggInt (((((((((((((((hb4.ext (e8.trans (e14.trans (e19.trans e263)))).updN u327 (by omega)).ext (e330.trans e417)).updN u481 (by omega)).ext e589).updN u668 (by omega)).ext (e671.trans (e674.trans (e677.trans (e680.trans e732))))).updN u772 (by omega)).ext (e775.trans e862)).updN u926 (by omega)).ext e1034).updN u1113 (by omega)).ext (e1116.trans e1189)).updN u1243 (by omega)).ext e1252) [.bool sa, .slice Aa na ca] rfl (Nat.le_of_ble_eq_true rfl) rfl) (by decide) ?_
                    exact pi_done rfl (Ext.refl _) rfl
                  · -- 1
                    intro v1253 e1254
                    have hw26 : Ext w v1253 := hw25.trans e1254
                    refine deps_nil ?_
                    refine wl_call rfl rfl (vs := [.int .u64 1]) (by kernel_rfl) (by decide) ((g_law6_of hw26.size (by decide : 1 ≤ 18446744073709551615)).mono (Gv.imp (ZO.zr (by decide : 1 ≤ 18446744073709551615) (by decide : 1 ≠ 0)))) ?_
                    rintro _ v1255 ⟨xr1257, rfl, r1257, e1256⟩
                    refine ret_intro ?_
                    have hw27 : Ext w v1255 := hw26.trans e1256
                    obtain ⟨s1258, A1258, n1258, c1258, rfl, z1258⟩ := r1257
                    exact pi_done rfl e1256 ⟨_, _, _, _, rfl, z1258⟩
                  · -- 2
                    intro v1259 e1260
                    have hw26 : Ext w v1259 := hw25.trans e1260
                    refine deps_nil ?_
                    refine wl_load rfl rfl (load_agg aggInt (((((((((((((((hb9.ext (e14.trans (e19.trans e263))).updN u327 (by omega)).ext (e330.trans e417)).updN u481 (by omega)).ext e589).updN u668 (by omega)).ext (e671.trans (e674.trans (e677.trans (e680.trans e732))))).updN u772 (by omega)).ext (e775.trans e862)).updN u926 (by omega)).ext e1034).updN u1113 (by omega)).ext (e1116.trans e1189)).updN u1243 (by omega)).ext e1260) [.bool sb, .slice Ab nb cb] rfl (Nat.le_of_ble_eq_true rfl) rfl) (by decide) ?_
                    exact pi_done rfl (Ext.refl _) rfl
                  · -- 3
                    intro v1261 e1262
                    have hw26 : Ext w v1261 := hw25.trans e1262
                    refine deps_cons rfl rfl fun x1263 y1264 h1265 e1266 f1267 => ?_
                    obtain rfl := h1265
                    refine deps_cons rfl rfl fun x1268 y1269 h1270 e1271 f1272 => ?_
                    obtain ⟨s1273, A1273, n1273, c1273, rfl, z1273⟩ := h1270
                    have z1273 := z1273.ext f1272
                    refine deps_cons rfl rfl fun x1274 y1275 h1276 e1277 f1278 => ?_
                    obtain rfl := h1276
                    refine deps_nil ?_
                    refine wl_call rfl rfl (vs := [.agg #[.bool sa, .slice Aa na ca], .agg #[.bool s1273, .slice A1273 n1273 c1273], .agg #[.bool sb, .slice Ab nb cb]]) (by kernel_rfl) (by decide) (g_pow_nat hw26.size (hx.ext hw26) (Nat.le_trans la (by decide)) z1273.zi (z1273.le (Nat.le_trans (ln_w64 (by decide : 1 ≤ 18446744073709551615)) (by decide))) (hz.ext hw26) (Nat.le_trans lb (by decide)) hm0 hP7) ?_
                    rintro _ v1279 ⟨xr1281, rfl, r1281, e1280⟩
                    refine ret_intro ?_
                    have hw27 : Ext w v1279 := hw26.trans e1280
                    obtain ⟨a1282_0, a1282_1, rfl, r1282_0, r1282_1⟩ := r1281
                    obtain ⟨s1283, A1283, n1283, c1283, rfl, z1283⟩ := r1282_0
                    obtain rfl := r1282_1
                    exact pi_done rfl e1280 ⟨_, _, rfl, ⟨_, _, _, _, rfl, z1283⟩, rfl⟩
                  · -- 4
                    intro v1284 e1285
                    have hw26 : Ext w v1284 := hw25.trans e1285
                    refine deps_cons rfl rfl fun x1286 y1287 h1288 e1289 f1290 => ?_
                    obtain ⟨a1291_0, a1291_1, rfl, r1291_0, r1291_1⟩ := h1288
                    obtain ⟨s1292, A1292, n1292, c1292, rfl, z1292⟩ := r1291_0
                    obtain rfl := r1291_1
                    have z1292 := z1292.ext f1290
                    refine deps_nil ?_
                    refine wl_move rfl rfl (by decide) ?_
                    exact pi_done rfl (Ext.refl _) ⟨_, _, rfl, ⟨_, _, _, _, rfl, z1292⟩, rfl⟩
                  · -- 5
                    intro v1293 e1294
                    have hw26 : Ext w v1293 := hw25.trans e1294
                    refine deps_cons rfl rfl fun x1295 y1296 h1297 e1298 f1299 => ?_
                    obtain ⟨a1300_0, a1300_1, rfl, r1300_0, r1300_1⟩ := h1297
                    obtain ⟨s1301, A1301, n1301, c1301, rfl, z1301⟩ := r1300_0
                    obtain rfl := r1300_1
                    have z1301 := z1301.ext f1299
                    refine deps_nil ?_
                    exact ⟨.agg #[.bool s1301, .slice A1301 n1301 c1301], rfl, rfl, fun _ => by kernel_rfl, ⟨_, _, _, _, rfl, z1301⟩⟩
                  · -- 6
                    intro v1302 e1303
                    have hw26 : Ext w v1302 := hw25.trans e1303
                    refine deps_cons rfl rfl fun x1304 y1305 h1306 e1307 f1308 => ?_
                    obtain ⟨a1309_0, a1309_1, rfl, r1309_0, r1309_1⟩ := h1306
                    obtain ⟨s1310, A1310, n1310, c1310, rfl, z1310⟩ := r1309_0
                    obtain rfl := r1309_1
                    have z1310 := z1310.ext f1308
                    refine deps_nil ?_
                    exact ⟨.int .i64 0, rfl, rfl, fun _ => by kernel_rfl, rfl⟩
                  · -- 7
                    intro v1311 e1312
                    have hw26 : Ext w v1311 := hw25.trans e1312
                    refine deps_nil ?_
                    refine wl_alloc rfl (z := .agg #[.bool false, .slice none 0 0]) (vs := [.bool false, .slice none 0 0]) (fun _ => by kernel_rfl) rfl (by decide) fun g1313 v1314 nb => ?_
                    exact pi_done rfl nb.ext ⟨_, rfl, by rw [← nb.at_]; exact e1312.size, nb.bk⟩
                  · -- all
                    intro v1315 e1316
                    have hw26 : Ext w v1315 := hw25.trans e1316
                    refine deps_cons rfl rfl fun x1317 y1318 h1319 e1320 f1321 => ?_
                    obtain rfl := h1319
                    refine deps_cons rfl rfl fun x1322 y1323 h1324 e1325 f1326 => ?_
                    obtain ⟨s1327, A1327, n1327, c1327, rfl, z1327⟩ := h1324
                    have z1327 := z1327.ext f1326
                    refine deps_cons rfl rfl fun x1328 y1329 h1330 e1331 f1332 => ?_
                    obtain rfl := h1330
                    refine deps_cons rfl rfl fun x1333 y1334 h1335 e1336 f1337 => ?_
                    obtain ⟨a1338_0, a1338_1, rfl, r1338_0, r1338_1⟩ := h1335
                    obtain ⟨s1339, A1339, n1339, c1339, rfl, z1339⟩ := r1338_0
                    obtain rfl := r1338_1
                    have z1339 := z1339.ext f1337
                    refine deps_cons rfl rfl fun x1340 y1341 h1342 e1343 f1344 => ?_
                    obtain ⟨a1345_0, a1345_1, rfl, r1345_0, r1345_1⟩ := h1342
                    obtain ⟨s1346, A1346, n1346, c1346, rfl, z1346⟩ := r1345_0
                    obtain rfl := r1345_1
                    have z1346 := z1346.ext f1344
                    refine deps_cons rfl rfl fun x1347 y1348 h1349 e1350 f1351 => ?_
                    obtain ⟨s1352, A1352, n1352, c1352, rfl, z1352⟩ := h1349
                    have z1352 := z1352.ext f1351
                    refine deps_cons rfl rfl fun x1353 y1354 h1355 e1356 f1357 => ?_
                    obtain rfl := h1355
                    refine deps_cons rfl rfl fun x1358 y1359 h1360 e1361 f1362 => ?_
                    obtain ⟨g1363, rfl, ge1365, hb1364⟩ := h1360
                    have hb1364 := hb1364.ext f1362
                    have q1366 : g1236 < g1363 := Nat.lt_of_lt_of_le hb1242.lt ge1365
                    have ge1365 : w.heap.size ≤ g1363 := Nat.le_trans hw25.size ge1365
                    refine deps_nil ?_
                    have hb1368 := hb1364
                    refine wl_stored rfl rfl rfl aggInt rfl hb1368 (Nat.le_of_ble_eq_true rfl) rfl [.bool s1352, .slice A1352 n1352 c1352] rfl fun v1367 hb1369 u1370 hs1371 => ?_
                    have hw27 : Ext w v1367 := u1370.ext hw26 ge1365
                    refine wl_assign rfl rfl (by decide) ?_
                    refine wl_nil ?_
                    refine eo_np ?_
                    refine eo_then ?_
                    refine cw_seq ?_
                    refine cw_region ?_
                    refine wl_load rfl rfl (load_agg aggInt ((((((((((((((((hb4.ext (e8.trans (e14.trans (e19.trans e263)))).updN u327 (by omega)).ext (e330.trans e417)).updN u481 (by omega)).ext e589).updN u668 (by omega)).ext (e671.trans (e674.trans (e677.trans (e680.trans e732))))).updN u772 (by omega)).ext (e775.trans e862)).updN u926 (by omega)).ext e1034).updN u1113 (by omega)).ext (e1116.trans e1189)).updN u1243 (by omega)).ext e1316).updN u1370 (by omega)) [.bool sa, .slice Aa na ca] rfl (Nat.le_of_ble_eq_true rfl) rfl) (by decide) ?_
                    refine wl_move rfl rfl (by decide) ?_
                    refine wl_pureE rfl rfl (v := .int .u64 (IntKind.u64.wrap ((e : Nat) : Int))) (v' := .int .u64 ((e : Nat) : Int)) (by decide) (by kernel_rfl) (cv_u8 (by omega)) ?_
                    refine wl_ar rfl rfl rfl ((e + 1 : Nat) : Int) (au_add (a := e) (b := 1) rfl rfl (by omega)) (by decide) ?_
                    refine wl_bslice rfl rfl (by decide) (k := 1) (e := 47) [.int .u64 ((e + 1 : Nat) : Int)] (fun _ => by kernel_rfl) fun g1372 v1373 nb1374 => ?_
                    have o1375 := O1.mk_ (x := e + 1) (b := w.heap.size) nb1374 hw27.size
                    have e1376 := nb1374.ext
                    have hw28 : Ext w v1373 := hw27.trans e1376
                    have o1378 := own1_wd o1375 (by omega : e + 1 ≤ 18446744073709551615) (by omega : e + 1 ≠ 0)
                    have j1377 := len1 (by omega : e + 1 ≤ 18446744073709551615) (by omega : e + 1 ≠ 0)
                    refine wl_pure rfl rfl (v := .agg #[.bool true, .slice (some ⟨g1372, 0, none⟩) 1 1]) (by decide) (by kernel_rfl) ?_
                    refine wl_load rfl rfl (load_agg aggInt (((((((((((((((((hb9.ext (e14.trans (e19.trans e263))).updN u327 (by omega)).ext (e330.trans e417)).updN u481 (by omega)).ext e589).updN u668 (by omega)).ext (e671.trans (e674.trans (e677.trans (e680.trans e732))))).updN u772 (by omega)).ext (e775.trans e862)).updN u926 (by omega)).ext e1034).updN u1113 (by omega)).ext (e1116.trans e1189)).updN u1243 (by omega)).ext e1316).updN u1370 (by omega)).ext e1376) [.bool sb, .slice Ab nb cb] rfl (Nat.le_of_ble_eq_true rfl) rfl) (by decide) ?_
                    refine wl_call rfl rfl (vs := [.agg #[.bool sa, .slice Aa na ca], .agg #[.bool true, .slice (some ⟨g1372, 0, none⟩) 1 1], .agg #[.bool sb, .slice Ab nb cb]]) (by kernel_rfl) (by decide) (g_bezout_PowMod_neg hw28.size (hx.ext hw28) (Nat.le_trans la (by decide)) (Zr_neg (by omega : e + 1 ≠ 0) j1377 o1378).zi ((Zr_neg (by omega : e + 1 ≠ 0) j1377 o1378).le (Nat.le_trans (show ln (-((e + 1 : Nat) : Int)) ≤ 1 by rw [ln_neg, ln_nat]; exact (Nat.le_of_eq j1377.symm)) (by decide))) (hz.ext hw28) (Nat.le_trans lb (by decide)) (by omega)) ?_
                    rintro _ v1379 ⟨xr1381, rfl, r1381, e1380⟩
                    refine ret_intro ?_
                    have hw29 : Ext w v1379 := hw28.trans e1380
                    obtain ⟨a1382_0, a1382_1, rfl, r1382_0, r1382_1⟩ := r1381
                    obtain ⟨s1383, A1383, n1383, c1383, rfl, z1383⟩ := r1382_0
                    obtain rfl := r1382_1
                    refine wl_move rfl rfl (by decide) ?_
                    refine wl_pure rfl rfl (v := .agg #[.bool s1383, .slice A1383 n1383 c1383]) (by decide) (by kernel_rfl) ?_
                    refine wl_pure rfl rfl (v := .int .i64 3) (by decide) (by kernel_rfl) ?_
                    refine wl_alloc rfl (z := .agg #[.bool false, .slice none 0 0]) (vs := [.bool false, .slice none 0 0]) (fun _ => by kernel_rfl) rfl (by decide) fun g1384 v1385 nb => ?_
                    have hb1387 := nb.bk
                    have ge1388 : w.heap.size ≤ g1384 := by rw [← nb.at_]; exact hw29.size
                    have q1389 : g1363 < g1384 := by rw [← nb.at_]; exact (hb1369.ext (e1376.trans e1380)).lt
                    have e1386 := nb.ext
                    clear nb
                    have hw30 : Ext w v1385 := hw29.trans e1386
                    have hb1391 := hb1387
                    refine wl_stored rfl rfl rfl aggInt rfl hb1391 (Nat.le_of_ble_eq_true rfl) rfl [.bool s1383, .slice A1383 n1383 c1383] rfl fun v1390 hb1392 u1393 hs1394 => ?_
                    have hw31 : Ext w v1390 := u1393.ext hw30 ge1388
                    refine wl_assign rfl rfl (by decide) ?_
                    refine wl_nil ?_
                    refine eo_then ?_
                    refine cw_seq ?_
                    refine cw_seq ?_
                    refine cw_region ?_
                    refine wl_move rfl rfl (by decide) ?_
                    refine wl_pure rfl rfl (v := .bool false) (by decide) (by kernel_rfl) ?_
                    refine wl_move rfl rfl (by decide) ?_
                    refine wl_move rfl rfl (by decide) ?_
                    refine wl_pure rfl rfl (v := .bool false) (by decide) (by kernel_rfl) ?_
                    refine wl_pure rfl rfl (v := .bool false) (by decide) (by kernel_rfl) ?_
                    refine wl_move rfl rfl (by decide) ?_
                    refine wl_move rfl rfl (by decide) ?_
                    refine wl_pure rfl rfl (v := .bool false) (by decide) (by kernel_rfl) ?_
                    refine wl_pure rfl rfl (v := .bool false) (by decide) (by kernel_rfl) ?_
                    refine wl_nil ?_
                    refine eo_then ?_
                    refine cw_false rfl ?_
                    refine cw_skip ?_
                    refine eo_then ?_
                    refine cw_seq ?_
                    have L1396 : ln (P6 - ((1 : Nat) : Int)) ≤ 1048577 := Nat.le_trans (ln_sub (pw_ln hP6 hm0 Lz) (ln_w64 (by decide : 1 ≤ 18446744073709551615))) (by decide)
                    have L1398 : ln (P7 - x) ≤ 1048577 := Nat.le_trans (ln_sub (pw_ln hP7 hm0 Lz) Lx) (by decide)
                    refine cw_draw mix 22 [] [Is (.agg #[.bool sb, .slice Ab nb cb]), Is (.agg #[.bool s1225, .slice A1225 n1225 c1225]), ZR w.heap.size (((1 : Nat) : Int)), ZR w.heap.size (P6 - ((1 : Nat) : Int)), Is (.bool true), Is (.bool true), Is (.agg #[.bool s1225, .slice A1225 n1225 c1225]), Is (.agg #[.bool sb, .slice Ab nb cb]), Is (.bool true), Is (.bool true), Is (.bool true), Is (.agg #[.bool sb, .slice Ab nb cb]), Is (.agg #[.bool s1352, .slice A1352 n1352 c1352]), Is (.agg #[.bool sa, .slice Aa na ca]), ZR w.heap.size (P7 - x), Is (.bool true), Is (.bool true), Is (.bool true), Is (.agg #[.bool s1352, .slice A1352 n1352 c1352]), Is (.agg #[.bool sb, .slice Ab nb cb]), Is (.bool true), Is (.bool true)] [[], [], [], [1, 2], [0, 3], [4], [5], [5], [5, 6, 7], [5, 8], [9], [10], [10], [10], [10, 12, 13], [10, 11, 14], [10, 15], [16], [17], [17], [17, 18, 19], [17, 20]] [[], [], [], [1, 2], [0, 1, 2, 3], [0, 1, 2, 3, 4], [0, 1, 2, 3, 4, 5], [0, 1, 2, 3, 4, 5], [0, 1, 2, 3, 4, 5, 6, 7], [0, 1, 2, 3, 4, 5, 6, 7, 8], [0, 1, 2, 3, 4, 5, 6, 7, 8, 9], [0, 1, 2, 3, 4, 5, 6, 7, 8, 9, 10], [0, 1, 2, 3, 4, 5, 6, 7, 8, 9, 10], [0, 1, 2, 3, 4, 5, 6, 7, 8, 9, 10], [0, 1, 2, 3, 4, 5, 6, 7, 8, 9, 10, 12, 13], [0, 1, 2, 3, 4, 5, 6, 7, 8, 9, 10, 11, 12, 13, 14], [0, 1, 2, 3, 4, 5, 6, 7, 8, 9, 10, 11, 12, 13, 14, 15], [0, 1, 2, 3, 4, 5, 6, 7, 8, 9, 10, 11, 12, 13, 14, 15, 16], [0, 1, 2, 3, 4, 5, 6, 7, 8, 9, 10, 11, 12, 13, 14, 15, 16, 17], [0, 1, 2, 3, 4, 5, 6, 7, 8, 9, 10, 11, 12, 13, 14, 15, 16, 17], [0, 1, 2, 3, 4, 5, 6, 7, 8, 9, 10, 11, 12, 13, 14, 15, 16, 17, 18, 19], [0, 1, 2, 3, 4, 5, 6, 7, 8, 9, 10, 11, 12, 13, 14, 15, 16, 17, 18, 19, 20], [0, 1, 2, 3, 4, 5, 6, 7, 8, 9, 10, 11, 12, 13, 14, 15, 16, 17, 18, 19, 20, 21]] rfl
                      (obs_cons rfl rfl (hob rfl rfl ?_) (obs_cons rfl rfl (hob rfl rfl ?_) (obs_cons rfl rfl (hob rfl rfl ?_) (obs_cons rfl rfl (hob rfl rfl ?_) (obs_cons rfl rfl (hob rfl rfl ?_) (obs_cons rfl rfl (hob rfl rfl ?_) (obs_cons rfl rfl (hob rfl rfl ?_) (obs_cons rfl rfl (hob rfl rfl ?_) (obs_cons rfl rfl (hob rfl rfl ?_) (obs_cons rfl rfl (hob rfl rfl ?_) (obs_cons rfl rfl (hob rfl rfl ?_) (obs_cons rfl rfl (hob rfl rfl ?_) (obs_cons rfl rfl (hob rfl rfl ?_) (obs_cons rfl rfl (hob rfl rfl ?_) (obs_cons rfl rfl (hob rfl rfl ?_) (obs_cons rfl rfl (hob rfl rfl ?_) (obs_cons rfl rfl (hob rfl rfl ?_) (obs_cons rfl rfl (hob rfl rfl ?_) (obs_cons rfl rfl (hob rfl rfl ?_) (obs_cons rfl rfl (hob rfl rfl ?_) (obs_cons rfl rfl (hob rfl rfl ?_) (obs_cons rfl rfl (hob rfl rfl ?_) obs_nil)))))))))))))))))))))) ?_
                    · -- 0
                      intro v1400 e1401
                      have hw32 : Ext w v1400 := hw31.trans e1401
                      refine deps_nil ?_
                      refine wl_load rfl rfl (load_agg aggInt (((((((((((((((((((hb9.ext (e14.trans (e19.trans e263))).updN u327 (by omega)).ext (e330.trans e417)).updN u481 (by omega)).ext e589).updN u668 (by omega)).ext (e671.trans (e674.trans (e677.trans (e680.trans e732))))).updN u772 (by omega)).ext (e775.trans e862)).updN u926 (by omega)).ext e1034).updN u1113 (by omega)).ext (e1116.trans e1189)).updN u1243 (by omega)).ext e1316).updN u1370 (by omega)).ext (e1376.trans (e1380.trans e1386))).updN u1393 (by omega)).ext e1401) [.bool sb, .slice Ab nb cb] rfl (Nat.le_of_ble_eq_true rfl) rfl) (by decide) ?_
                      exact pi_done rfl (Ext.refl _) rfl
                    · -- 1
                      intro v1402 e1403
                      have hw32 : Ext w v1402 := hw31.trans e1403
                      refine deps_nil ?_
                      refine wl_load rfl rfl (load_agg aggInt (((((hb1242.ext e1316).updN u1370 (by omega)).ext (e1376.trans (e1380.trans e1386))).updN u1393 (by omega)).ext e1403) [.bool s1225, .slice A1225 n1225 c1225] rfl (Nat.le_of_ble_eq_true rfl) rfl) (by decide) ?_
                      exact pi_done rfl (Ext.refl _) rfl
                    · -- 2
                      intro v1404 e1405
                      have hw32 : Ext w v1404 := hw31.trans e1405
                      refine deps_nil ?_
                      refine wl_call rfl rfl (vs := [.int .u64 1]) (by kernel_rfl) (by decide) ((g_law6_of hw32.size (by decide : 1 ≤ 18446744073709551615)).mono (Gv.imp (ZO.zr (by decide : 1 ≤ 18446744073709551615) (by decide : 1 ≠ 0)))) ?_
                      rintro _ v1406 ⟨xr1408, rfl, r1408, e1407⟩
                      refine ret_intro ?_
                      have hw33 : Ext w v1406 := hw32.trans e1407
                      obtain ⟨s1409, A1409, n1409, c1409, rfl, z1409⟩ := r1408
                      exact pi_done rfl e1407 ⟨_, _, _, _, rfl, z1409⟩
                    · -- 3
                      intro v1410 e1411
                      have hw32 : Ext w v1410 := hw31.trans e1411
                      refine deps_cons rfl rfl fun x1412 y1413 h1414 e1415 f1416 => ?_
                      obtain rfl := h1414
                      refine deps_cons rfl rfl fun x1417 y1418 h1419 e1420 f1421 => ?_
                      obtain ⟨s1422, A1422, n1422, c1422, rfl, z1422⟩ := h1419
                      have z1422 := z1422.ext f1421
                      refine deps_nil ?_
                      have L1423 : ln (P6 - ((1 : Nat) : Int)) ≤ 1048577 := Nat.le_trans (ln_sub (pw_ln hP6 hm0 Lz) (ln_w64 (by decide : 1 ≤ 18446744073709551615))) (by decide)
                      refine wl_call rfl rfl (vs := [.agg #[.bool s1225, .slice A1225 n1225 c1225], .agg #[.bool s1422, .slice A1422 n1422 c1422]]) (by kernel_rfl) (by decide) (g_ref5_Sub hw32.size ((((((z1225.updT hb1241 u1243).ext e1316).updT hb1368 u1370).ext (e1376.trans (e1380.trans e1386))).updT hb1391 u1393).ext e1411).zi (z1225.le (Nat.le_trans (pw_ln hP6 hm0 Lz) (by decide))) z1422.zi (z1422.le (Nat.le_trans (ln_w64 (by decide : 1 ≤ 18446744073709551615)) (by decide)))) ?_
                      rintro _ v1424 ⟨xr1426, rfl, r1426, e1425⟩
                      refine ret_intro ?_
                      have hw33 : Ext w v1424 := hw32.trans e1425
                      obtain ⟨s1427, A1427, n1427, c1427, rfl, z1427⟩ := r1426
                      exact pi_done rfl e1425 ⟨_, _, _, _, rfl, z1427⟩
                    · -- 4
                      intro v1428 e1429
                      have hw32 : Ext w v1428 := hw31.trans e1429
                      refine deps_cons rfl rfl fun x1430 y1431 h1432 e1433 f1434 => ?_
                      obtain rfl := h1432
                      refine deps_cons rfl rfl fun x1435 y1436 h1437 e1438 f1439 => ?_
                      obtain ⟨s1440, A1440, n1440, c1440, rfl, z1440⟩ := h1437
                      have z1440 := z1440.ext f1439
                      refine deps_nil ?_
                      refine wl_call rfl rfl (vs := [.agg #[.bool sb, .slice Ab nb cb], .agg #[.bool s1440, .slice A1440 n1440 c1440]]) (by kernel_rfl) (by decide) (g_law6_divides (hz.ext hw32) (Nat.le_trans lb (by decide)) z1440.zi (z1440.le (Nat.le_trans L1396 (by decide))) (pw_zero hP6)) ?_
                      rintro _ v1441 ⟨xr1443, rfl, r1443, e1442⟩
                      refine ret_intro ?_
                      have hw33 : Ext w v1441 := hw32.trans e1442
                      obtain rfl := r1443
                      exact pi_done rfl e1442 rfl
                    · -- 5
                      intro v1444 e1445
                      have hw32 : Ext w v1444 := hw31.trans e1445
                      refine deps_cons rfl rfl fun x1446 y1447 h1448 e1449 f1450 => ?_
                      obtain rfl := h1448
                      refine deps_nil ?_
                      refine wl_move rfl rfl (by decide) ?_
                      exact pi_done rfl (Ext.refl _) rfl
                    · -- 6
                      intro v1451 e1452
                      have hw32 : Ext w v1451 := hw31.trans e1452
                      refine deps_cons rfl rfl fun x1453 y1454 h1455 e1456 f1457 => ?_
                      obtain rfl := h1455
                      refine deps_nil ?_
                      refine wl_load rfl rfl (load_agg aggInt (((((hb1242.ext e1316).updN u1370 (by omega)).ext (e1376.trans (e1380.trans e1386))).updN u1393 (by omega)).ext e1452) [.bool s1225, .slice A1225 n1225 c1225] rfl (Nat.le_of_ble_eq_true rfl) rfl) (by decide) ?_
                      exact pi_done rfl (Ext.refl _) rfl
                    · -- 7
                      intro v1458 e1459
                      have hw32 : Ext w v1458 := hw31.trans e1459
                      refine deps_cons rfl rfl fun x1460 y1461 h1462 e1463 f1464 => ?_
                      obtain rfl := h1462
                      refine deps_nil ?_
                      refine wl_load rfl rfl (load_agg aggInt (((((((((((((((((((hb9.ext (e14.trans (e19.trans e263))).updN u327 (by omega)).ext (e330.trans e417)).updN u481 (by omega)).ext e589).updN u668 (by omega)).ext (e671.trans (e674.trans (e677.trans (e680.trans e732))))).updN u772 (by omega)).ext (e775.trans e862)).updN u926 (by omega)).ext e1034).updN u1113 (by omega)).ext (e1116.trans e1189)).updN u1243 (by omega)).ext e1316).updN u1370 (by omega)).ext (e1376.trans (e1380.trans e1386))).updN u1393 (by omega)).ext e1459) [.bool sb, .slice Ab nb cb] rfl (Nat.le_of_ble_eq_true rfl) rfl) (by decide) ?_
                      exact pi_done rfl (Ext.refl _) rfl
                    · -- 8
                      intro v1465 e1466
                      have hw32 : Ext w v1465 := hw31.trans e1466
                      refine deps_cons rfl rfl fun x1467 y1468 h1469 e1470 f1471 => ?_
                      obtain rfl := h1469
                      refine deps_cons rfl rfl fun x1472 y1473 h1474 e1475 f1476 => ?_
                      obtain rfl := h1474
                      refine deps_cons rfl rfl fun x1477 y1478 h1479 e1480 f1481 => ?_
                      obtain rfl := h1479
                      refine deps_nil ?_
                      refine wl_call rfl rfl (vs := [.agg #[.bool s1225, .slice A1225 n1225 c1225], .agg #[.bool sb, .slice Ab nb cb]]) (by kernel_rfl) (by decide) (g_law6_within ((((((z1225.updT hb1241 u1243).ext e1316).updT hb1368 u1370).ext (e1376.trans (e1380.trans e1386))).updT hb1391 u1393).ext e1466).zi (z1225.le (Nat.le_trans (pw_ln hP6 hm0 Lz) (by decide))) (hz.ext hw32) (Nat.le_trans lb (by decide)) (pw_in hP6 hm0).1 (pw_in hP6 hm0).2) ?_
                      rintro _ v1482 ⟨xr1484, rfl, r1484, e1483⟩
                      refine ret_intro ?_
                      have hw33 : Ext w v1482 := hw32.trans e1483
                      obtain rfl := r1484
                      exact pi_done rfl e1483 rfl
                    · -- 9
                      intro v1485 e1486
                      have hw32 : Ext w v1485 := hw31.trans e1486
                      refine deps_cons rfl rfl fun x1487 y1488 h1489 e1490 f1491 => ?_
                      obtain rfl := h1489
                      refine deps_cons rfl rfl fun x1492 y1493 h1494 e1495 f1496 => ?_
                      obtain rfl := h1494
                      refine deps_nil ?_
                      refine wl_pure rfl rfl (v := .bool true) (by decide) (by kernel_rfl) ?_
                      exact pi_done rfl (Ext.refl _) rfl
                    · -- 10
                      intro v1497 e1498
                      have hw32 : Ext w v1497 := hw31.trans e1498
                      refine deps_cons rfl rfl fun x1499 y1500 h1501 e1502 f1503 => ?_
                      obtain rfl := h1501
                      refine deps_nil ?_
                      refine wl_move rfl rfl (by decide) ?_
                      exact pi_done rfl (Ext.refl _) rfl
                    · -- 11
                      intro v1504 e1505
                      have hw32 : Ext w v1504 := hw31.trans e1505
                      refine deps_cons rfl rfl fun x1506 y1507 h1508 e1509 f1510 => ?_
                      obtain rfl := h1508
                      refine deps_nil ?_
                      refine wl_load rfl rfl (load_agg aggInt (((((((((((((((((((hb9.ext (e14.trans (e19.trans e263))).updN u327 (by omega)).ext (e330.trans e417)).updN u481 (by omega)).ext e589).updN u668 (by omega)).ext (e671.trans (e674.trans (e677.trans (e680.trans e732))))).updN u772 (by omega)).ext (e775.trans e862)).updN u926 (by omega)).ext e1034).updN u1113 (by omega)).ext (e1116.trans e1189)).updN u1243 (by omega)).ext e1316).updN u1370 (by omega)).ext (e1376.trans (e1380.trans e1386))).updN u1393 (by omega)).ext e1505) [.bool sb, .slice Ab nb cb] rfl (Nat.le_of_ble_eq_true rfl) rfl) (by decide) ?_
                      exact pi_done rfl (Ext.refl _) rfl
                    · -- 12
                      intro v1511 e1512
                      have hw32 : Ext w v1511 := hw31.trans e1512
                      refine deps_cons rfl rfl fun x1513 y1514 h1515 e1516 f1517 => ?_
                      obtain rfl := h1515
                      refine deps_nil ?_
                      refine wl_load rfl rfl (load_agg aggInt (((hb1369.ext (e1376.trans (e1380.trans e1386))).updN u1393 (by omega)).ext e1512) [.bool s1352, .slice A1352 n1352 c1352] rfl (Nat.le_of_ble_eq_true rfl) rfl) (by decide) ?_
                      exact pi_done rfl (Ext.refl _) rfl
                    · -- 13
                      intro v1518 e1519
                      have hw32 : Ext w v1518 := hw31.trans e1519
                      refine deps_cons rfl rfl fun x1520 y1521 h1522 e1523 f1524 => ?_
                      obtain rfl := h1522
                      refine deps_nil ?_
                      refine wl_load rfl rfl (load_agg aggInt (((((((((((((((((((hb4.ext (e8.trans (e14.trans (e19.trans e263)))).updN u327 (by omega)).ext (e330.trans e417)).updN u481 (by omega)).ext e589).updN u668 (by omega)).ext (e671.trans (e674.trans (e677.trans (e680.trans e732))))).updN u772 (by omega)).ext (e775.trans e862)).updN u926 (by omega)).ext e1034).updN u1113 (by omega)).ext (e1116.trans e1189)).updN u1243 (by omega)).ext e1316).updN u1370 (by omega)).ext (e1376.trans (e1380.trans e1386))).updN u1393 (by omega)).ext e1519) [.bool sa, .slice Aa na ca] rfl (Nat.le_of_ble_eq_true rfl) rfl) (by decide) ?_
                      exact pi_done rfl (Ext.refl _) rfl
                    · -- 14
                      intro v1525 e1526
                      have hw32 : Ext w v1525 := hw31.trans e1526
                      refine deps_cons rfl rfl fun x1527 y1528 h1529 e1530 f1531 => ?_
                      obtain rfl := h1529
                      refine deps_cons rfl rfl fun x1532 y1533 h1534 e1535 f1536 => ?_
                      obtain rfl := h1534
                      refine deps_cons rfl rfl fun x1537 y1538 h1539 e1540 f1541 => ?_
                      obtain rfl := h1539
                      refine deps_nil ?_
                      have L1542 : ln (P7 - x) ≤ 1048577 := Nat.le_trans (ln_sub (pw_ln hP7 hm0 Lz) Lx) (by decide)
                      refine wl_call rfl rfl (vs := [.agg #[.bool s1352, .slice A1352 n1352 c1352], .agg #[.bool sa, .slice Aa na ca]]) (by kernel_rfl) (by decide) (g_ref5_Sub hw32.size ((((z1352.updT hb1368 u1370).ext (e1376.trans (e1380.trans e1386))).updT hb1391 u1393).ext e1526).zi (z1352.le (Nat.le_trans (pw_ln hP7 hm0 Lz) (by decide))) (hx.ext hw32) (Nat.le_trans la (by decide))) ?_
                      rintro _ v1543 ⟨xr1545, rfl, r1545, e1544⟩
                      refine ret_intro ?_
                      have hw33 : Ext w v1543 := hw32.trans e1544
                      obtain ⟨s1546, A1546, n1546, c1546, rfl, z1546⟩ := r1545
                      exact pi_done rfl e1544 ⟨_, _, _, _, rfl, z1546⟩
                    · -- 15
                      intro v1547 e1548
                      have hw32 : Ext w v1547 := hw31.trans e1548
                      refine deps_cons rfl rfl fun x1549 y1550 h1551 e1552 f1553 => ?_
                      obtain rfl := h1551
                      refine deps_cons rfl rfl fun x1554 y1555 h1556 e1557 f1558 => ?_
                      obtain rfl := h1556
                      refine deps_cons rfl rfl fun x1559 y1560 h1561 e1562 f1563 => ?_
                      obtain ⟨s1564, A1564, n1564, c1564, rfl, z1564⟩ := h1561
                      have z1564 := z1564.ext f1563
                      refine deps_nil ?_
                      refine wl_call rfl rfl (vs := [.agg #[.bool sb, .slice Ab nb cb], .agg #[.bool s1564, .slice A1564 n1564 c1564]]) (by kernel_rfl) (by decide) (g_law6_divides (hz.ext hw32) (Nat.le_trans lb (by decide)) z1564.zi (z1564.le (Nat.le_trans L1398 (by decide))) (pw_one hP7)) ?_
                      rintro _ v1565 ⟨xr1567, rfl, r1567, e1566⟩
                      refine ret_intro ?_
                      have hw33 : Ext w v1565 := hw32.trans e1566
                      obtain rfl := r1567
                      exact pi_done rfl e1566 rfl
                    · -- 16
                      intro v1568 e1569
                      have hw32 : Ext w v1568 := hw31.trans e1569
                      refine deps_cons rfl rfl fun x1570 y1571 h1572 e1573 f1574 => ?_
                      obtain rfl := h1572
                      refine deps_cons rfl rfl fun x1575 y1576 h1577 e1578 f1579 => ?_
                      obtain rfl := h1577
                      refine deps_nil ?_
                      refine wl_pure rfl rfl (v := .bool true) (by decide) (by kernel_rfl) ?_
                      exact pi_done rfl (Ext.refl _) rfl
                    · -- 17
                      intro v1580 e1581
                      have hw32 : Ext w v1580 := hw31.trans e1581
                      refine deps_cons rfl rfl fun x1582 y1583 h1584 e1585 f1586 => ?_
                      obtain rfl := h1584
                      refine deps_nil ?_
                      refine wl_move rfl rfl (by decide) ?_
                      exact pi_done rfl (Ext.refl _) rfl
                    · -- 18
                      intro v1587 e1588
                      have hw32 : Ext w v1587 := hw31.trans e1588
                      refine deps_cons rfl rfl fun x1589 y1590 h1591 e1592 f1593 => ?_
                      obtain rfl := h1591
                      refine deps_nil ?_
                      refine wl_load rfl rfl (load_agg aggInt (((hb1369.ext (e1376.trans (e1380.trans e1386))).updN u1393 (by omega)).ext e1588) [.bool s1352, .slice A1352 n1352 c1352] rfl (Nat.le_of_ble_eq_true rfl) rfl) (by decide) ?_
                      exact pi_done rfl (Ext.refl _) rfl
                    · -- 19
                      intro v1594 e1595
                      have hw32 : Ext w v1594 := hw31.trans e1595
                      refine deps_cons rfl rfl fun x1596 y1597 h1598 e1599 f1600 => ?_
                      obtain rfl := h1598
                      refine deps_nil ?_
                      refine wl_load rfl rfl (load_agg aggInt (((((((((((((((((((hb9.ext (e14.trans (e19.trans e263))).updN u327 (by omega)).ext (e330.trans e417)).updN u481 (by omega)).ext e589).updN u668 (by omega)).ext (e671.trans (e674.trans (e677.trans (e680.trans e732))))).updN u772 (by omega)).ext (e775.trans e862)).updN u926 (by omega)).ext e1034).updN u1113 (by omega)).ext (e1116.trans e1189)).updN u1243 (by omega)).ext e1316).updN u1370 (by omega)).ext (e1376.trans (e1380.trans e1386))).updN u1393 (by omega)).ext e1595) [.bool sb, .slice Ab nb cb] rfl (Nat.le_of_ble_eq_true rfl) rfl) (by decide) ?_
                      exact pi_done rfl (Ext.refl _) rfl
                    · -- 20
                      intro v1601 e1602
                      have hw32 : Ext w v1601 := hw31.trans e1602
                      refine deps_cons rfl rfl fun x1603 y1604 h1605 e1606 f1607 => ?_
                      obtain rfl := h1605
                      refine deps_cons rfl rfl fun x1608 y1609 h1610 e1611 f1612 => ?_
                      obtain rfl := h1610
                      refine deps_cons rfl rfl fun x1613 y1614 h1615 e1616 f1617 => ?_
                      obtain rfl := h1615
                      refine deps_nil ?_
                      refine wl_call rfl rfl (vs := [.agg #[.bool s1352, .slice A1352 n1352 c1352], .agg #[.bool sb, .slice Ab nb cb]]) (by kernel_rfl) (by decide) (g_law6_within ((((z1352.updT hb1368 u1370).ext (e1376.trans (e1380.trans e1386))).updT hb1391 u1393).ext e1602).zi (z1352.le (Nat.le_trans (pw_ln hP7 hm0 Lz) (by decide))) (hz.ext hw32) (Nat.le_trans lb (by decide)) (pw_in hP7 hm0).1 (pw_in hP7 hm0).2) ?_
                      rintro _ v1618 ⟨xr1620, rfl, r1620, e1619⟩
                      refine ret_intro ?_
                      have hw33 : Ext w v1618 := hw32.trans e1619
                      obtain rfl := r1620
                      exact pi_done rfl e1619 rfl
                    · -- 21
                      intro v1621 e1622
                      have hw32 : Ext w v1621 := hw31.trans e1622
                      refine deps_cons rfl rfl fun x1623 y1624 h1625 e1626 f1627 => ?_
                      obtain rfl := h1625
                      refine deps_cons rfl rfl fun x1628 y1629 h1630 e1631 f1632 => ?_
                      obtain rfl := h1630
                      refine deps_nil ?_
                      refine wl_pure rfl rfl (v := .bool true) (by decide) (by kernel_rfl) ?_
                      exact pi_done rfl (Ext.refl _) rfl
                    · -- all
                      intro v1633 e1634
                      have hw32 : Ext w v1633 := hw31.trans e1634
                      refine deps_cons rfl rfl fun x1635 y1636 h1637 e1638 f1639 => ?_
                      obtain rfl := h1637
                      refine deps_cons rfl rfl fun x1640 y1641 h1642 e1643 f1644 => ?_
                      obtain rfl := h1642
                      refine deps_cons rfl rfl fun x1645 y1646 h1647 e1648 f1649 => ?_
                      obtain ⟨s1650, A1650, n1650, c1650, rfl, z1650⟩ := h1647
                      have z1650 := z1650.ext f1649
                      refine deps_cons rfl rfl fun x1651 y1652 h1653 e1654 f1655 => ?_
                      obtain ⟨s1656, A1656, n1656, c1656, rfl, z1656⟩ := h1653
                      have z1656 := z1656.ext f1655
                      refine deps_cons rfl rfl fun x1657 y1658 h1659 e1660 f1661 => ?_
                      obtain rfl := h1659
                      refine deps_cons rfl rfl fun x1662 y1663 h1664 e1665 f1666 => ?_
                      obtain rfl := h1664
                      refine deps_cons rfl rfl fun x1667 y1668 h1669 e1670 f1671 => ?_
                      obtain rfl := h1669
                      refine deps_cons rfl rfl fun x1672 y1673 h1674 e1675 f1676 => ?_
                      obtain rfl := h1674
                      refine deps_cons rfl rfl fun x1677 y1678 h1679 e1680 f1681 => ?_
                      obtain rfl := h1679
                      refine deps_cons rfl rfl fun x1682 y1683 h1684 e1685 f1686 => ?_
                      obtain rfl := h1684
                      refine deps_cons rfl rfl fun x1687 y1688 h1689 e1690 f1691 => ?_
                      obtain rfl := h1689
                      refine deps_cons rfl rfl fun x1692 y1693 h1694 e1695 f1696 => ?_
                      obtain rfl := h1694
                      refine deps_cons rfl rfl fun x1697 y1698 h1699 e1700 f1701 => ?_
                      obtain rfl := h1699
                      refine deps_cons rfl rfl fun x1702 y1703 h1704 e1705 f1706 => ?_
                      obtain rfl := h1704
                      refine deps_cons rfl rfl fun x1707 y1708 h1709 e1710 f1711 => ?_
                      obtain ⟨s1712, A1712, n1712, c1712, rfl, z1712⟩ := h1709
                      have z1712 := z1712.ext f1711
                      refine deps_cons rfl rfl fun x1713 y1714 h1715 e1716 f1717 => ?_
                      obtain rfl := h1715
                      refine deps_cons rfl rfl fun x1718 y1719 h1720 e1721 f1722 => ?_
                      obtain rfl := h1720
                      refine deps_cons rfl rfl fun x1723 y1724 h1725 e1726 f1727 => ?_
                      obtain rfl := h1725
                      refine deps_cons rfl rfl fun x1728 y1729 h1730 e1731 f1732 => ?_
                      obtain rfl := h1730
                      refine deps_cons rfl rfl fun x1733 y1734 h1735 e1736 f1737 => ?_
                      obtain rfl := h1735
                      refine deps_cons rfl rfl fun x1738 y1739 h1740 e1741 f1742 => ?_
                      obtain rfl := h1740
                      refine deps_cons rfl rfl fun x1743 y1744 h1745 e1746 f1747 => ?_
                      obtain rfl := h1745
                      refine deps_nil ?_
                      refine wl_assign rfl rfl (by decide) ?_
                      refine wl_nil ?_
                      refine eo_np ?_
                      refine eo_then ?_
                      refine cw_ret ?_
                      refine eo_ret [.bool true] rfl ⟨rfl, trivial⟩ ?_
                      exact bool_of _ _ ⟨_, rfl, rfl, hw32⟩
end Go.Proofs.Ytmaconeeonkdgaa
