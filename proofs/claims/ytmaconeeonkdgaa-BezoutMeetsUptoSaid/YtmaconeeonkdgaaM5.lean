/- Parts Ref5, Inv, Bo, Lg6, Upto, Zs, UptoZ, UptoA, App, Li, Ga, Crt, joined. -/
import Derived.Test.YtmaconeeonkdgaaM4
import Derived.Test.YtmaconeeonkdgaaRows
import Derived.WalkKit
import Derived.ProofKit
import Derived.OpenShut
import Derived.JoinedCond
import Derived.ChangeSame
import Derived.ChangeSlices
import Derived.Deep.Slices
import Derived.DataShut
import Derived.ArgAppend

namespace Go.Proofs.Ytmaconeeonkdgaa
open Go.RowKit
theorem Zi.sg {w : World} {s : Bool} {A : Option Addr} {n cap : Nat} {z : Int} (h : Zi w s A n cap z) : Go.Proofs.Ytmaconeeonkdgaa.sg s z.natAbs = z := by
  obtain ⟨xs, _, rfl⟩ := h
  rw [sg_abs]
theorem ln_eq_zero {x : Int} (h : ln x = 0) : x = 0 := by
  have := len_wd_zero.1 (show (wd x.natAbs).length = 0 from h)
  omega
theorem ln_sg (s : Bool) (m : Nat) : ln (sg s m) = (wd m).length := by unfold ln; rw [sg_abs]
theorem scmp_m1 {x y : Int} (h : x < y) : scmp x y = -1 := by unfold scmp; rw [if_pos h]
theorem scmp_p1 {x y : Int} (h : y < x) : scmp x y = 1 := by unfold scmp; rw [if_neg (by omega), if_neg (by omega)]
theorem scmp_z {x y : Int} (h : x = y) : scmp x y = 0 := scmp_zero.2 h
theorem cmp3_ge_t {x y : Nat} (h : y ≤ x) : cmpB .geq (cmp3 x y) 0 = some true := by
  have e : ¬ cmp3 x y < 0 := fun e => by have := cmp3_neg.1 e; omega
  exact ge_t (by omega)
theorem cmp3_ge_f {x y : Nat} (h : ¬ y ≤ x) : cmpB .geq (cmp3 x y) 0 = some false := by
  have e := cmp3_neg.2 (show x < y by omega)
  exact ge_f (by omega)
section
variable {w : World} {A B : Option Addr} {n cap m cap' i j : Nat}
theorem g_ref1_Least {b : Nat} (hb : b ≤ w.heap.size) (hx : Wi w A n cap i) (hl : n ≤ 68719476735) : Calls Try.prog 93 #[.slice A n cap] w (Gv w (WR b i)) := by
  obtain ⟨xs, h1, rfl⟩ := hx
  exact (ref1_Least h1 (by omega)).mono (gw hb)
theorem g_ref1_Add {b : Nat} (hb : b ≤ w.heap.size) (hx : Wi w A n cap i) (hl : n ≤ 68719476735) (hy : Wi w B m cap' j) (hl' : m ≤ 68719476735) : Calls Try.prog 76 #[.slice A n cap, .slice B m cap'] w (Gv w (WR b (i + j))) := by
  obtain ⟨xs, h1, rfl⟩ := hx
  obtain ⟨ys, h2, rfl⟩ := hy
  exact (ref1_Add h1 (by omega) h2 (by omega)).mono (gw hb)
theorem g_ref1_Cmp (hx : Wi w A n cap i) (hl : n ≤ 68719476735) (hy : Wi w B m cap' j) (hl' : m ≤ 68719476735) : Calls Try.prog 77 #[.slice A n cap, .slice B m cap'] w (Gv w (Is (.int .i64 (cmp3 i j)))) := by
  obtain ⟨xs, h1, rfl⟩ := hx
  obtain ⟨ys, h2, rfl⟩ := hy
  exact (ref1_Cmp h1 (by omega) h2 (by omega)).mono gcmp
theorem g_ref1_Sub {b : Nat} (hb : b ≤ w.heap.size) (hx : Wi w A n cap i) (hl : n ≤ 68719476735) (hy : Wi w B m cap' j) (hl' : m ≤ 68719476735) (hij : j ≤ i) : Calls Try.prog 78 #[.slice A n cap, .slice B m cap'] w (Gv w (T2 (WR b (i - j)) (Is (.int .i64 0)))) := by
  obtain ⟨xs, h1, rfl⟩ := hx
  obtain ⟨ys, h2, rfl⟩ := hy
  exact (ref1_Sub h1 (by omega) h2 (by omega) hij).mono (Gv.imp (T2.imp (WR.imp hb) Is.imp))
theorem g_ref3_DivMod {b : Nat} (hb : b ≤ w.heap.size) (hx : Wi w A n cap i) (hl : n ≤ 68719476735) (hy : Wi w B m cap' j) (hl' : m ≤ 68719476735) (h0 : j ≠ 0) : Calls Try.prog 99 #[.slice A n cap, .slice B m cap'] w (Gv w (T3 (WR b (i / j)) (WR b (i % j)) (Is (.int .i64 0)))) := by
  obtain ⟨xs, h1, rfl⟩ := hx
  obtain ⟨ys, h2, rfl⟩ := hy
  exact (ref3_DivMod_ok h1 (by omega) h2 (by omega) h0).mono (Gv.imp (T3.imp (WR.imp hb) (WR.imp hb) Is.imp))
end
set_option maxHeartbeats 4000000 in
theorem g_ref5_madeI {w : World} {s : Bool} {A : Option Addr} {n cap m : Nat} (hx : Wi w A n cap m) (hl : n ≤ 68719476735)  :
    Calls Try.prog 74 #[.bool s, .slice A n cap] w (Gv w (ZR w.heap.size (sg s m))) := by
  refine sx_enter Try.func74 rfl (n := 16) rfl (Nat.le_of_ble_eq_true rfl) (args := [.bool s, .slice A n cap]) ?_
  refine cw_keep [(0, .bool s), (1, .slice A n cap)] ⟨rfl, rfl, trivial⟩ ?_
  refine cw_seq ?_
  refine cw_region ?_
  refine wl_alloc rfl (z := .agg #[.bool false, .slice none 0 0]) (vs := [.bool false, .slice none 0 0]) (fun _ => by kernel_rfl) rfl (by decide) fun g1 v2 nb => ?_
  have hb4 := nb.bk
  have ge5 : w.heap.size ≤ g1 := by rw [← nb.at_]; exact (Ext.refl w).size
  have e3 := nb.ext
  clear nb
  have hw1 : Ext w v2 := (Ext.refl w).trans e3
  refine wl_nil ?_
  refine eo_then ?_
  refine cw_seq ?_
  refine cw_region ?_
  refine wl_move rfl rfl (by decide) ?_
  refine wl_call rfl rfl (vs := [.slice A n cap]) (by kernel_rfl) (by decide) (g_ref1_Least hw1.size (hx.ext hw1) (Nat.le_trans hl (by decide))) ?_
  rintro _ v6 ⟨xr8, rfl, r8, e7⟩
  refine ret_intro ?_
  have hw2 : Ext w v6 := hw1.trans e7
  obtain ⟨A9, n9, c9, rfl, j9, o9⟩ := r8
  refine wl_assign rfl rfl (by decide) ?_
  refine wl_nil ?_
  refine eo_then ?_
  refine cw_seq ?_
  by_cases hs : s = true
  ·
    subst hs
    by_cases hm0 : m = 0
    ·
      have hn0 : n9 = 0 := by rw [j9, hm0, wd_zero]; rfl
      refine cw_region ?_
      refine wl_move rfl rfl (by decide) ?_
      refine wl_move rfl rfl (by decide) ?_
      refine wl_move rfl rfl (by decide) ?_
      refine wl_pure rfl rfl (v := .int .i64 ((n9 : Nat) : Int)) (by decide) (by kernel_rfl) ?_
      refine wl_cmp rfl rfl rfl false (gt_f (by omega)) (by decide) ?_
      refine wl_pure rfl rfl (v := .bool false) (by decide) (by kernel_rfl) ?_
      refine wl_move rfl rfl (by decide) ?_
      refine wl_pure rfl rfl (v := .agg #[.bool false, .slice A9 n9 c9]) (by decide) (by kernel_rfl) ?_
      have hb11 := (hb4.ext e7)
      refine wl_stored rfl rfl rfl aggInt rfl hb11 (Nat.le_of_ble_eq_true rfl) rfl [.bool false, .slice A9 n9 c9] rfl fun v10 hb12 u13 hs14 => ?_
      have hw3 : Ext w v10 := u13.ext hw2 ge5
      refine wl_nil ?_
      refine eo_then ?_
      refine cw_ret ?_
      refine eo_ret [.agg #[.bool false, .slice A9 n9 c9]] rfl ⟨⟨_, rfl, load_agg aggInt hb12 [.bool false, .slice A9 n9 c9] rfl (Nat.le_of_ble_eq_true rfl) rfl⟩, trivial⟩ ?_
      exact ⟨_, rfl, ⟨_, _, _, _, rfl, ((Zr_of (m := m) (s := true) (z := sg true m) (by rw [sg_lt, hm0]; rfl) j9 o9 rfl).updT hb11 u13)⟩, hw3⟩
    ·
      have hn0 : n9 ≠ 0 := fun e => hm0 (len_wd_zero.1 (by rw [← j9, e]))
      refine cw_region ?_
      refine wl_move rfl rfl (by decide) ?_
      refine wl_move rfl rfl (by decide) ?_
      refine wl_move rfl rfl (by decide) ?_
      refine wl_pure rfl rfl (v := .int .i64 ((n9 : Nat) : Int)) (by decide) (by kernel_rfl) ?_
      refine wl_cmp rfl rfl rfl true (gt_t (by omega)) (by decide) ?_
      refine wl_pure rfl rfl (v := .bool true) (by decide) (by kernel_rfl) ?_
      refine wl_move rfl rfl (by decide) ?_
      refine wl_pure rfl rfl (v := .agg #[.bool true, .slice A9 n9 c9]) (by decide) (by kernel_rfl) ?_
      have hb16 := (hb4.ext e7)
      refine wl_stored rfl rfl rfl aggInt rfl hb16 (Nat.le_of_ble_eq_true rfl) rfl [.bool true, .slice A9 n9 c9] rfl fun v15 hb17 u18 hs19 => ?_
      have hw3 : Ext w v15 := u18.ext hw2 ge5
      refine wl_nil ?_
      refine eo_then ?_
      refine cw_ret ?_
      refine eo_ret [.agg #[.bool true, .slice A9 n9 c9]] rfl ⟨⟨_, rfl, load_agg aggInt hb17 [.bool true, .slice A9 n9 c9] rfl (Nat.le_of_ble_eq_true rfl) rfl⟩, trivial⟩ ?_
      exact ⟨_, rfl, ⟨_, _, _, _, rfl, ((Zr_of (m := m) (s := true) (z := sg true m) (by rw [sg_lt, decide_eq_true (Nat.pos_of_ne_zero hm0)]; rfl) j9 o9 rfl).updT hb16 u18)⟩, hw3⟩
  ·
    replace hs : s = false := by simpa using hs
    subst hs
    refine cw_region ?_
    refine wl_move rfl rfl (by decide) ?_
    refine wl_move rfl rfl (by decide) ?_
    refine wl_off rfl (by decide) ?_
    refine wl_off rfl (by decide) ?_
    refine wl_off rfl (by decide) ?_
    refine wl_pure rfl rfl (v := .bool false) (by decide) (by kernel_rfl) ?_
    refine wl_move rfl rfl (by decide) ?_
    refine wl_pure rfl rfl (v := .agg #[.bool false, .slice A9 n9 c9]) (by decide) (by kernel_rfl) ?_
    have hb21 := (hb4.ext e7)
    refine wl_stored rfl rfl rfl aggInt rfl hb21 (Nat.le_of_ble_eq_true rfl) rfl [.bool false, .slice A9 n9 c9] rfl fun v20 hb22 u23 hs24 => ?_
    have hw3 : Ext w v20 := u23.ext hw2 ge5
    refine wl_nil ?_
    refine eo_then ?_
    refine cw_ret ?_
    refine eo_ret [.agg #[.bool false, .slice A9 n9 c9]] rfl ⟨⟨_, rfl, load_agg aggInt hb22 [.bool false, .slice A9 n9 c9] rfl (Nat.le_of_ble_eq_true rfl) rfl⟩, trivial⟩ ?_
    exact ⟨_, rfl, ⟨_, _, _, _, rfl, ((Zr_of (m := m) (s := false) (z := sg false m) (by rw [sg_lt]; rfl) j9 o9 rfl).updT hb21 u23)⟩, hw3⟩
theorem g_ref5_made {w : World} {s : Bool} {A : Option Addr} {n cap m : Nat} {b : Nat} (hb : b ≤ w.heap.size)  (hx : Wi w A n cap m) (hl : n ≤ 68719476735)  :
    Calls Try.prog 74 #[.bool s, .slice A n cap] w (Gv w (ZR b (sg s m))) := (g_ref5_madeI hx hl).mono (Gv.imp (ZR.imp hb))
set_option maxHeartbeats 4000000 in
theorem g_ref5_LeastI {w : World} {sa : Bool} {Aa : Option Addr} {na ca : Nat} {x : Int} (hx : Zi w sa Aa na ca x) (la : na ≤ 17179869183)  :
    Calls Try.prog 72 #[.agg #[.bool sa, .slice Aa na ca]] w (Gv w (ZR w.heap.size (x))) := by
  have Lx : ln x ≤ 17179869183 := Nat.le_trans hx.ln la
  refine sx_enter Try.func72 rfl (n := 8) rfl (Nat.le_of_ble_eq_true rfl) (args := [.agg #[.bool sa, .slice Aa na ca]]) ?_
  refine cw_keep [(0, .agg #[.bool sa, .slice Aa na ca])] ⟨rfl, trivial⟩ ?_
  refine cw_seq ?_
  refine cw_region ?_
  refine wl_box rfl rfl (vs := [.bool sa, .slice Aa na ca]) rfl (by decide) fun g1 v2 nb => ?_
  have hb4 := nb.bk
  have ge5 : w.heap.size ≤ g1 := by rw [← nb.at_]; exact (Ext.refl w).size
  have e3 := nb.ext
  clear nb
  have hw1 : Ext w v2 := (Ext.refl w).trans e3
  refine wl_alloc rfl (z := .agg #[.bool false, .slice none 0 0]) (vs := [.bool false, .slice none 0 0]) (fun _ => by kernel_rfl) rfl (by decide) fun g6 v7 nb => ?_
  have hb9 := nb.bk
  have ge10 : w.heap.size ≤ g6 := by rw [← nb.at_]; exact hw1.size
  have q11 : g1 < g6 := by rw [← nb.at_]; exact hb4.lt
  have e8 := nb.ext
  clear nb
  have hw2 : Ext w v7 := hw1.trans e8
  refine wl_nil ?_
  refine eo_then ?_
  refine cw_seq ?_
  refine cw_region ?_
  refine wl_pure rfl rfl (v := .pointer (some ⟨g1, 0, none⟩)) (by decide) (by kernel_rfl) ?_
  refine wl_load rfl rfl (load_cell cellBool (hb4.ext e8) rfl) (by decide) ?_
  refine wl_pure rfl rfl (v := .pointer (some ⟨g1, 1, none⟩)) (by decide) (by kernel_rfl) ?_
  refine wl_load rfl rfl (load_cell cellWords (hb4.ext e8) rfl) (by decide) ?_
  have L12 : ln (sg sa (Int.natAbs x)) ≤ 17179869183 := by rw [ln_sg]; exact Lx
  refine wl_call rfl rfl (vs := [.bool sa, .slice Aa na ca]) (by kernel_rfl) (by decide) (g_ref5_made hw2.size (hx.ext hw2).wi (Nat.le_trans la (by decide))) ?_
  rintro _ v13 ⟨xr15, rfl, r15, e14⟩
  refine ret_intro ?_
  have hw3 : Ext w v13 := hw2.trans e14
  obtain ⟨s16, A16, n16, c16, rfl, z16⟩ := r15
  have hb18 := (hb9.ext e14)
  refine wl_stored rfl rfl rfl aggInt rfl hb18 (Nat.le_of_ble_eq_true rfl) rfl [.bool s16, .slice A16 n16 c16] rfl fun v17 hb19 u20 hs21 => ?_
  have hw4 : Ext w v17 := u20.ext hw3 ge10
  refine wl_nil ?_
  refine eo_then ?_
  refine cw_ret ?_
  refine eo_ret [.agg #[.bool s16, .slice A16 n16 c16]] rfl ⟨⟨_, rfl, load_agg aggInt hb19 [.bool s16, .slice A16 n16 c16] rfl (Nat.le_of_ble_eq_true rfl) rfl⟩, trivial⟩ ?_
  exact ⟨_, rfl, ⟨_, _, _, _, rfl, ((z16.updT hb18 u20)).cast (hx.sg)⟩, hw4⟩
theorem g_ref5_Least {w : World} {sa : Bool} {Aa : Option Addr} {na ca : Nat} {x : Int} {b : Nat} (hb : b ≤ w.heap.size)  (hx : Zi w sa Aa na ca x) (la : na ≤ 17179869183)  :
    Calls Try.prog 72 #[.agg #[.bool sa, .slice Aa na ca]] w (Gv w (ZR b (x))) := (g_ref5_LeastI hx la).mono (Gv.imp (ZR.imp hb))
set_option maxHeartbeats 4000000 in
theorem g_ref5_Sign {w : World} {sa : Bool} {Aa : Option Addr} {na ca : Nat} {x : Int} (hx : Zi w sa Aa na ca x) (la : na ≤ 17179869183)  :
    Calls Try.prog 30 #[.agg #[.bool sa, .slice Aa na ca]] w (Gv w (Is (.int .i64 (scmp x 0)))) := by
  have Lx : ln x ≤ 17179869183 := Nat.le_trans hx.ln la
  refine sx_enter Try.func30 rfl (n := 12) rfl (Nat.le_of_ble_eq_true rfl) (args := [.agg #[.bool sa, .slice Aa na ca]]) ?_
  refine cw_keep [(0, .agg #[.bool sa, .slice Aa na ca])] ⟨rfl, trivial⟩ ?_
  refine cw_seq ?_
  refine cw_region ?_
  refine wl_box rfl rfl (vs := [.bool sa, .slice Aa na ca]) rfl (by decide) fun g1 v2 nb => ?_
  have hb4 := nb.bk
  have ge5 : w.heap.size ≤ g1 := by rw [← nb.at_]; exact (Ext.refl w).size
  have e3 := nb.ext
  clear nb
  have hw1 : Ext w v2 := (Ext.refl w).trans e3
  refine wl_assign rfl rfl (by decide) ?_
  refine wl_nil ?_
  refine eo_then ?_
  refine cw_seq ?_
  refine cw_region ?_
  refine wl_load rfl rfl (load_agg aggInt hb4 [.bool sa, .slice Aa na ca] rfl (Nat.le_of_ble_eq_true rfl) rfl) (by decide) ?_
  refine wl_call rfl rfl (vs := [.agg #[.bool sa, .slice Aa na ca]]) (by kernel_rfl) (by decide) (g_ref5_Least hw1.size (hx.ext hw1) (Nat.le_trans la (by decide))) ?_
  rintro _ v6 ⟨xr8, rfl, r8, e7⟩
  refine ret_intro ?_
  have hw2 : Ext w v6 := hw1.trans e7
  obtain ⟨s9, A9, n9, c9, rfl, z9⟩ := r8
  refine wl_alloc rfl (z := .agg #[.bool false, .slice none 0 0]) (vs := [.bool false, .slice none 0 0]) (fun _ => by kernel_rfl) rfl (by decide) fun g10 v11 nb => ?_
  have hb13 := nb.bk
  have ge14 : w.heap.size ≤ g10 := by rw [← nb.at_]; exact hw2.size
  have q15 : g1 < g10 := by rw [← nb.at_]; exact (hb4.ext e7).lt
  have e12 := nb.ext
  clear nb
  have hw3 : Ext w v11 := hw2.trans e12
  have hb17 := hb13
  refine wl_stored rfl rfl rfl aggInt rfl hb17 (Nat.le_of_ble_eq_true rfl) rfl [.bool s9, .slice A9 n9 c9] rfl fun v16 hb18 u19 hs20 => ?_
  have hw4 : Ext w v16 := u19.ext hw3 ge14
  refine wl_nil ?_
  refine eo_then ?_
  refine cw_seq ?_
  refine cw_seq ?_
  by_cases hx0 : x < 0
  ·
    obtain rfl : s9 = true := by rw [(((z9.ext e12).updT hb17 u19)).sgn]; exact decide_eq_true hx0
    refine cw_region ?_
    refine wl_pure rfl rfl (v := .pointer (some ⟨g10, 0, none⟩)) (by decide) (by kernel_rfl) ?_
    refine wl_load rfl rfl (load_cell cellBool hb18 rfl) (by decide) ?_
    refine wl_nil ?_
    refine eo_then ?_
    refine cw_true rfl ?_
    refine cw_seq ?_
    refine cw_region ?_
    refine wl_assign rfl rfl (by decide) ?_
    refine wl_nil ?_
    refine eo_then ?_
    refine cw_ret ?_
    refine eo_thenR ?_
    refine eo_ret [.int .i64 (-1)] rfl ⟨rfl, trivial⟩ ?_
    exact ⟨_, rfl, (show (.int .i64 (-1) : Value) = Value.int .i64 (scmp x 0) by rw [scmp_m1 hx0]), hw4⟩
  ·
    obtain rfl : s9 = false := by rw [(((z9.ext e12).updT hb17 u19)).sgn]; exact decide_eq_false hx0
    have hnl : n9 = ln x := (((z9.ext e12).updT hb17 u19)).len
    by_cases hxz : x = 0
    ·
      have hn0 : n9 = 0 := by rw [hnl, hxz]; rfl
      refine cw_region ?_
      refine wl_pure rfl rfl (v := .pointer (some ⟨g10, 0, none⟩)) (by decide) (by kernel_rfl) ?_
      refine wl_load rfl rfl (load_cell cellBool hb18 rfl) (by decide) ?_
      refine wl_nil ?_
      refine eo_then ?_
      refine cw_false rfl ?_
      refine cw_skip ?_
      refine eo_then ?_
      refine cw_seq ?_
      refine cw_seq ?_
      refine cw_region ?_
      refine wl_pure rfl rfl (v := .pointer (some ⟨g10, 1, none⟩)) (by decide) (by kernel_rfl) ?_
      refine wl_load rfl rfl (load_cell cellWords hb18 rfl) (by decide) ?_
      refine wl_pure rfl rfl (v := .int .i64 ((n9 : Nat) : Int)) (by decide) (by kernel_rfl) ?_
      refine wl_cmp rfl rfl rfl false (gt_f (by omega)) (by decide) ?_
      refine wl_nil ?_
      refine eo_then ?_
      refine cw_false rfl ?_
      refine cw_skip ?_
      refine eo_then ?_
      refine cw_seq ?_
      refine cw_region ?_
      refine wl_assign rfl rfl (by decide) ?_
      refine wl_nil ?_
      refine eo_then ?_
      refine cw_ret ?_
      refine eo_ret [.int .i64 0] rfl ⟨rfl, trivial⟩ ?_
      exact ⟨_, rfl, (show (.int .i64 0 : Value) = Value.int .i64 (scmp x 0) by rw [scmp_z hxz]), hw4⟩
    ·
      have hn0 : n9 ≠ 0 := fun e => hxz (ln_eq_zero (by rw [← hnl, e]))
      refine cw_region ?_
      refine wl_pure rfl rfl (v := .pointer (some ⟨g10, 0, none⟩)) (by decide) (by kernel_rfl) ?_
      refine wl_load rfl rfl (load_cell cellBool hb18 rfl) (by decide) ?_
      refine wl_nil ?_
      refine eo_then ?_
      refine cw_false rfl ?_
      refine cw_skip ?_
      refine eo_then ?_
      refine cw_seq ?_
      refine cw_seq ?_
      refine cw_region ?_
      refine wl_pure rfl rfl (v := .pointer (some ⟨g10, 1, none⟩)) (by decide) (by kernel_rfl) ?_
      refine wl_load rfl rfl (load_cell cellWords hb18 rfl) (by decide) ?_
      refine wl_pure rfl rfl (v := .int .i64 ((n9 : Nat) : Int)) (by decide) (by kernel_rfl) ?_
      refine wl_cmp rfl rfl rfl true (gt_t (by omega)) (by decide) ?_
      refine wl_nil ?_
      refine eo_then ?_
      refine cw_true rfl ?_
      refine cw_seq ?_
      refine cw_region ?_
      refine wl_assign rfl rfl (by decide) ?_
      refine wl_nil ?_
      refine eo_then ?_
      refine cw_ret ?_
      refine eo_thenR ?_
      refine eo_ret [.int .i64 1] rfl ⟨rfl, trivial⟩ ?_
      exact ⟨_, rfl, (show (.int .i64 1 : Value) = Value.int .i64 (scmp x 0) by rw [scmp_p1 (by omega)]), hw4⟩
set_option maxHeartbeats 4000000 in
theorem g_ref5_CmpAbs {w : World} {sa : Bool} {Aa : Option Addr} {na ca : Nat} {x : Int} {sb : Bool} {Ab : Option Addr} {nb cb : Nat} {y : Int} (hx : Zi w sa Aa na ca x) (la : na ≤ 17179869183) (hy : Zi w sb Ab nb cb y) (lb : nb ≤ 17179869183)  :
    Calls Try.prog 45 #[.agg #[.bool sa, .slice Aa na ca], .agg #[.bool sb, .slice Ab nb cb]] w (Gv w (Is (.int .i64 (cmp3 (Int.natAbs x) (Int.natAbs y))))) := by
  have Lx : ln x ≤ 17179869183 := Nat.le_trans hx.ln la
  have Ly : ln y ≤ 17179869183 := Nat.le_trans hy.ln lb
  refine sx_enter Try.func45 rfl (n := 10) rfl (Nat.le_of_ble_eq_true rfl) (args := [.agg #[.bool sa, .slice Aa na ca], .agg #[.bool sb, .slice Ab nb cb]]) ?_
  refine cw_keep [(0, .agg #[.bool sa, .slice Aa na ca]), (1, .agg #[.bool sb, .slice Ab nb cb])] ⟨rfl, rfl, trivial⟩ ?_
  refine cw_seq ?_
  refine cw_region ?_
  refine wl_box rfl rfl (vs := [.bool sa, .slice Aa na ca]) rfl (by decide) fun g1 v2 nb => ?_
  have hb4 := nb.bk
  have ge5 : w.heap.size ≤ g1 := by rw [← nb.at_]; exact (Ext.refl w).size
  have e3 := nb.ext
  clear nb
  have hw1 : Ext w v2 := (Ext.refl w).trans e3
  refine wl_box rfl rfl (vs := [.bool sb, .slice Ab nb cb]) rfl (by decide) fun g6 v7 nb => ?_
  have hb9 := nb.bk
  have ge10 : w.heap.size ≤ g6 := by rw [← nb.at_]; exact hw1.size
  have q11 : g1 < g6 := by rw [← nb.at_]; exact hb4.lt
  have e8 := nb.ext
  clear nb
  have hw2 : Ext w v7 := hw1.trans e8
  refine wl_assign rfl rfl (by decide) ?_
  refine wl_nil ?_
  refine eo_then ?_
  refine cw_seq ?_
  refine cw_region ?_
  refine wl_pure rfl rfl (v := .pointer (some ⟨g1, 1, none⟩)) (by decide) (by kernel_rfl) ?_
  refine wl_load rfl rfl (load_cell cellWords (hb4.ext e8) rfl) (by decide) ?_
  refine wl_pure rfl rfl (v := .pointer (some ⟨g6, 1, none⟩)) (by decide) (by kernel_rfl) ?_
  refine wl_load rfl rfl (load_cell cellWords hb9 rfl) (by decide) ?_
  refine wl_call rfl rfl (vs := [.slice Aa na ca, .slice Ab nb cb]) (by kernel_rfl) (by decide) (g_ref1_Cmp (hx.ext hw2).wi (Nat.le_trans la (by decide)) (hy.ext hw2).wi (Nat.le_trans lb (by decide))) ?_
  rintro _ v12 ⟨xr14, rfl, r14, e13⟩
  refine ret_intro ?_
  have hw3 : Ext w v12 := hw2.trans e13
  obtain rfl := r14
  refine wl_assign rfl rfl (by decide) ?_
  refine wl_nil ?_
  refine eo_then ?_
  refine cw_ret ?_
  refine eo_ret [.int .i64 (cmp3 (Int.natAbs x) (Int.natAbs y))] rfl ⟨rfl, trivial⟩ ?_
  exact ⟨_, rfl, rfl, hw3⟩
set_option maxHeartbeats 4000000 in
theorem g_ref5_AddI {w : World} {sa : Bool} {Aa : Option Addr} {na ca : Nat} {x : Int} {sb : Bool} {Ab : Option Addr} {nb cb : Nat} {y : Int} (hx : Zi w sa Aa na ca x) (la : na ≤ 17179869183) (hy : Zi w sb Ab nb cb y) (lb : nb ≤ 17179869183)  :
    Calls Try.prog 40 #[.agg #[.bool sa, .slice Aa na ca], .agg #[.bool sb, .slice Ab nb cb]] w (Gv w (ZR w.heap.size (x + y))) := by
  have Lx : ln x ≤ 17179869183 := Nat.le_trans hx.ln la
  have Ly : ln y ≤ 17179869183 := Nat.le_trans hy.ln lb
  refine sx_enter Try.func40 rfl (n := 54) rfl (Nat.le_of_ble_eq_true rfl) (args := [.agg #[.bool sa, .slice Aa na ca], .agg #[.bool sb, .slice Ab nb cb]]) ?_
  refine cw_keep [(0, .agg #[.bool sa, .slice Aa na ca]), (1, .agg #[.bool sb, .slice Ab nb cb])] ⟨rfl, rfl, trivial⟩ ?_
  refine cw_seq ?_
  refine cw_region ?_
  refine wl_box rfl rfl (vs := [.bool sa, .slice Aa na ca]) rfl (by decide) fun g1 v2 nb => ?_
  have hb4 := nb.bk
  have ge5 : w.heap.size ≤ g1 := by rw [← nb.at_]; exact (Ext.refl w).size
  have e3 := nb.ext
  clear nb
  have hw1 : Ext w v2 := (Ext.refl w).trans e3
  refine wl_box rfl rfl (vs := [.bool sb, .slice Ab nb cb]) rfl (by decide) fun g6 v7 nb => ?_
  have hb9 := nb.bk
  have ge10 : w.heap.size ≤ g6 := by rw [← nb.at_]; exact hw1.size
  have q11 : g1 < g6 := by rw [← nb.at_]; exact hb4.lt
  have e8 := nb.ext
  clear nb
  have hw2 : Ext w v7 := hw1.trans e8
  refine wl_alloc rfl (z := .agg #[.bool false, .slice none 0 0]) (vs := [.bool false, .slice none 0 0]) (fun _ => by kernel_rfl) rfl (by decide) fun g12 v13 nb => ?_
  have hb15 := nb.bk
  have ge16 : w.heap.size ≤ g12 := by rw [← nb.at_]; exact hw2.size
  have q17 : g6 < g12 := by rw [← nb.at_]; exact hb9.lt
  have e14 := nb.ext
  clear nb
  have hw3 : Ext w v13 := hw2.trans e14
  refine wl_nil ?_
  refine eo_then ?_
  refine cw_seq ?_
  refine cw_seq ?_
  by_cases hsa : sa = true
  ·
    subst hsa
    by_cases hsb : sb = true
    ·
      subst hsb
      refine cw_region ?_
      refine wl_pure rfl rfl (v := .pointer (some ⟨g1, 0, none⟩)) (by decide) (by kernel_rfl) ?_
      refine wl_load rfl rfl (load_cell cellBool (hb4.ext (e8.trans e14)) rfl) (by decide) ?_
      refine wl_pure rfl rfl (v := .pointer (some ⟨g6, 0, none⟩)) (by decide) (by kernel_rfl) ?_
      refine wl_load rfl rfl (load_cell cellBool (hb9.ext e14) rfl) (by decide) ?_
      refine wl_pure rfl rfl (v := .bool true) (by decide) (by kernel_rfl) ?_
      refine wl_nil ?_
      refine eo_then ?_
      refine cw_true rfl ?_
      refine cw_seq ?_
      refine cw_region ?_
      refine wl_pure rfl rfl (v := .pointer (some ⟨g1, 1, none⟩)) (by decide) (by kernel_rfl) ?_
      refine wl_load rfl rfl (load_cell cellWords (hb4.ext (e8.trans e14)) rfl) (by decide) ?_
      refine wl_pure rfl rfl (v := .pointer (some ⟨g6, 1, none⟩)) (by decide) (by kernel_rfl) ?_
      refine wl_load rfl rfl (load_cell cellWords (hb9.ext e14) rfl) (by decide) ?_
      have L18 : (wd ((Int.natAbs x) + (Int.natAbs y))).length ≤ 17179869184 := Nat.le_trans (len_wd_add _ _) (Nat.succ_le_succ (Nat.max_le.2 ⟨Nat.le_trans Lx (by decide), Nat.le_trans Ly (by decide)⟩))
      refine wl_call rfl rfl (vs := [.slice Aa na ca, .slice Ab nb cb]) (by kernel_rfl) (by decide) (g_ref1_Add hw3.size (hx.ext hw3).wi (Nat.le_trans la (by decide)) (hy.ext hw3).wi (Nat.le_trans lb (by decide))) ?_
      rintro _ v19 ⟨xr21, rfl, r21, e20⟩
      refine ret_intro ?_
      have hw4 : Ext w v19 := hw3.trans e20
      obtain ⟨A22, n22, c22, rfl, j22, o22⟩ := r21
      refine wl_assign rfl rfl (by decide) ?_
      refine wl_nil ?_
      refine eo_then ?_
      refine cw_seq ?_
      refine cw_region ?_
      refine wl_pure rfl rfl (v := .pointer (some ⟨g1, 0, none⟩)) (by decide) (by kernel_rfl) ?_
      refine wl_load rfl rfl (load_cell cellBool (hb4.ext (e8.trans (e14.trans e20))) rfl) (by decide) ?_
      refine wl_move rfl rfl (by decide) ?_
      have L23 : ln (sg true ((Int.natAbs x) + (Int.natAbs y))) ≤ 17179869184 := by rw [ln_sg]; exact L18
      refine wl_call rfl rfl (vs := [.bool true, .slice A22 n22 c22]) (by kernel_rfl) (by decide) (g_ref5_made hw4.size o22.wi (by rw [j22]; exact Nat.le_trans L18 (by decide))) ?_
      rintro _ v24 ⟨xr26, rfl, r26, e25⟩
      refine ret_intro ?_
      have hw5 : Ext w v24 := hw4.trans e25
      obtain ⟨s27, A27, n27, c27, rfl, z27⟩ := r26
      have hb29 := (hb15.ext (e20.trans e25))
      refine wl_stored rfl rfl rfl aggInt rfl hb29 (Nat.le_of_ble_eq_true rfl) rfl [.bool s27, .slice A27 n27 c27] rfl fun v28 hb30 u31 hs32 => ?_
      have hw6 : Ext w v28 := u31.ext hw5 ge16
      refine wl_nil ?_
      refine eo_then ?_
      refine cw_ret ?_
      refine eo_thenR ?_
      refine eo_ret [.agg #[.bool s27, .slice A27 n27 c27]] rfl ⟨⟨_, rfl, load_agg aggInt hb30 [.bool s27, .slice A27 n27 c27] rfl (Nat.le_of_ble_eq_true rfl) rfl⟩, trivial⟩ ?_
      exact ⟨_, rfl, ⟨_, _, _, _, rfl, ((z27.updT hb29 u31)).cast (by rw [sg_add, hx.sg, hy.sg])⟩, hw6⟩
    ·
      replace hsb : sb = false := by simpa using hsb
      subst hsb
      refine cw_region ?_
      refine wl_pure rfl rfl (v := .pointer (some ⟨g1, 0, none⟩)) (by decide) (by kernel_rfl) ?_
      refine wl_load rfl rfl (load_cell cellBool (hb4.ext (e8.trans e14)) rfl) (by decide) ?_
      refine wl_pure rfl rfl (v := .pointer (some ⟨g6, 0, none⟩)) (by decide) (by kernel_rfl) ?_
      refine wl_load rfl rfl (load_cell cellBool (hb9.ext e14) rfl) (by decide) ?_
      refine wl_pure rfl rfl (v := .bool false) (by decide) (by kernel_rfl) ?_
      refine wl_nil ?_
      refine eo_then ?_
      refine cw_false rfl ?_
      refine cw_skip ?_
      refine eo_then ?_
      refine cw_seq ?_
      refine cw_seq ?_
      by_cases hxy : Int.natAbs y ≤ Int.natAbs x
      ·
        refine cw_region ?_
        refine wl_pure rfl rfl (v := .pointer (some ⟨g1, 1, none⟩)) (by decide) (by kernel_rfl) ?_
        refine wl_load rfl rfl (load_cell cellWords (hb4.ext (e8.trans e14)) rfl) (by decide) ?_
        refine wl_pure rfl rfl (v := .pointer (some ⟨g6, 1, none⟩)) (by decide) (by kernel_rfl) ?_
        refine wl_load rfl rfl (load_cell cellWords (hb9.ext e14) rfl) (by decide) ?_
        refine wl_call rfl rfl (vs := [.slice Aa na ca, .slice Ab nb cb]) (by kernel_rfl) (by decide) (g_ref1_Cmp (hx.ext hw3).wi (Nat.le_trans la (by decide)) (hy.ext hw3).wi (Nat.le_trans lb (by decide))) ?_
        rintro _ v33 ⟨xr35, rfl, r35, e34⟩
        refine ret_intro ?_
        have hw4 : Ext w v33 := hw3.trans e34
        obtain rfl := r35
        refine wl_cmp rfl rfl rfl true (cmp3_ge_t hxy) (by decide) ?_
        refine wl_nil ?_
        refine eo_then ?_
        refine cw_true rfl ?_
        refine cw_seq ?_
        refine cw_region ?_
        refine wl_pure rfl rfl (v := .pointer (some ⟨g1, 1, none⟩)) (by decide) (by kernel_rfl) ?_
        refine wl_load rfl rfl (load_cell cellWords (hb4.ext (e8.trans (e14.trans e34))) rfl) (by decide) ?_
        refine wl_pure rfl rfl (v := .pointer (some ⟨g6, 1, none⟩)) (by decide) (by kernel_rfl) ?_
        refine wl_load rfl rfl (load_cell cellWords (hb9.ext (e14.trans e34)) rfl) (by decide) ?_
        have L36 : (wd ((Int.natAbs x) - (Int.natAbs y))).length ≤ 17179869183 := Nat.le_trans (len_wd_mono (Nat.sub_le _ _)) Lx
        refine wl_call rfl rfl (vs := [.slice Aa na ca, .slice Ab nb cb]) (by kernel_rfl) (by decide) (g_ref1_Sub hw4.size (hx.ext hw4).wi (Nat.le_trans la (by decide)) (hy.ext hw4).wi (Nat.le_trans lb (by decide)) hxy) ?_
        rintro _ v37 ⟨xr39, rfl, r39, e38⟩
        refine ret_intro ?_
        have hw5 : Ext w v37 := hw4.trans e38
        obtain ⟨a40_0, a40_1, rfl, r40_0, r40_1⟩ := r39
        obtain ⟨A41, n41, c41, rfl, j41, o41⟩ := r40_0
        obtain rfl := r40_1
        refine wl_move rfl rfl (by decide) ?_
        refine wl_pure rfl rfl (v := .slice A41 n41 c41) (by decide) (by kernel_rfl) ?_
        refine wl_pure rfl rfl (v := .int .i64 0) (by decide) (by kernel_rfl) ?_
        refine wl_assign rfl rfl (by decide) ?_
        refine wl_assign rfl rfl (by decide) ?_
        refine wl_nil ?_
        refine eo_then ?_
        refine cw_seq ?_
        refine cw_region ?_
        refine wl_pure rfl rfl (v := .pointer (some ⟨g1, 0, none⟩)) (by decide) (by kernel_rfl) ?_
        refine wl_load rfl rfl (load_cell cellBool (hb4.ext (e8.trans (e14.trans (e34.trans e38)))) rfl) (by decide) ?_
        refine wl_move rfl rfl (by decide) ?_
        have L42 : ln (sg true ((Int.natAbs x) - (Int.natAbs y))) ≤ 17179869183 := by rw [ln_sg]; exact L36
        refine wl_call rfl rfl (vs := [.bool true, .slice A41 n41 c41]) (by kernel_rfl) (by decide) (g_ref5_made hw5.size o41.wi (by rw [j41]; exact Nat.le_trans L36 (by decide))) ?_
        rintro _ v43 ⟨xr45, rfl, r45, e44⟩
        refine ret_intro ?_
        have hw6 : Ext w v43 := hw5.trans e44
        obtain ⟨s46, A46, n46, c46, rfl, z46⟩ := r45
        have hb48 := (hb15.ext (e34.trans (e38.trans e44)))
        refine wl_stored rfl rfl rfl aggInt rfl hb48 (Nat.le_of_ble_eq_true rfl) rfl [.bool s46, .slice A46 n46 c46] rfl fun v47 hb49 u50 hs51 => ?_
        have hw7 : Ext w v47 := u50.ext hw6 ge16
        refine wl_nil ?_
        refine eo_then ?_
        refine cw_ret ?_
        refine eo_thenR ?_
        refine eo_ret [.agg #[.bool s46, .slice A46 n46 c46]] rfl ⟨⟨_, rfl, load_agg aggInt hb49 [.bool s46, .slice A46 n46 c46] rfl (Nat.le_of_ble_eq_true rfl) rfl⟩, trivial⟩ ?_
        exact ⟨_, rfl, ⟨_, _, _, _, rfl, ((z46.updT hb48 u50)).cast (by rw [sg_sub hxy]; show sg true _ + sg false _ = _; rw [hx.sg, hy.sg])⟩, hw7⟩
      ·
        refine cw_region ?_
        refine wl_pure rfl rfl (v := .pointer (some ⟨g1, 1, none⟩)) (by decide) (by kernel_rfl) ?_
        refine wl_load rfl rfl (load_cell cellWords (hb4.ext (e8.trans e14)) rfl) (by decide) ?_
        refine wl_pure rfl rfl (v := .pointer (some ⟨g6, 1, none⟩)) (by decide) (by kernel_rfl) ?_
        refine wl_load rfl rfl (load_cell cellWords (hb9.ext e14) rfl) (by decide) ?_
        refine wl_call rfl rfl (vs := [.slice Aa na ca, .slice Ab nb cb]) (by kernel_rfl) (by decide) (g_ref1_Cmp (hx.ext hw3).wi (Nat.le_trans la (by decide)) (hy.ext hw3).wi (Nat.le_trans lb (by decide))) ?_
        rintro _ v52 ⟨xr54, rfl, r54, e53⟩
        refine ret_intro ?_
        have hw4 : Ext w v52 := hw3.trans e53
        obtain rfl := r54
        refine wl_cmp rfl rfl rfl false (cmp3_ge_f hxy) (by decide) ?_
        refine wl_nil ?_
        refine eo_then ?_
        refine cw_false rfl ?_
        refine cw_skip ?_
        refine eo_then ?_
        refine cw_seq ?_
        refine cw_region ?_
        refine wl_pure rfl rfl (v := .pointer (some ⟨g6, 1, none⟩)) (by decide) (by kernel_rfl) ?_
        refine wl_load rfl rfl (load_cell cellWords (hb9.ext (e14.trans e53)) rfl) (by decide) ?_
        refine wl_pure rfl rfl (v := .pointer (some ⟨g1, 1, none⟩)) (by decide) (by kernel_rfl) ?_
        refine wl_load rfl rfl (load_cell cellWords (hb4.ext (e8.trans (e14.trans e53))) rfl) (by decide) ?_
        have L55 : (wd ((Int.natAbs y) - (Int.natAbs x))).length ≤ 17179869183 := Nat.le_trans (len_wd_mono (Nat.sub_le _ _)) Ly
        refine wl_call rfl rfl (vs := [.slice Ab nb cb, .slice Aa na ca]) (by kernel_rfl) (by decide) (g_ref1_Sub hw4.size (hy.ext hw4).wi (Nat.le_trans lb (by decide)) (hx.ext hw4).wi (Nat.le_trans la (by decide)) (by omega)) ?_
        rintro _ v56 ⟨xr58, rfl, r58, e57⟩
        refine ret_intro ?_
        have hw5 : Ext w v56 := hw4.trans e57
        obtain ⟨a59_0, a59_1, rfl, r59_0, r59_1⟩ := r58
        obtain ⟨A60, n60, c60, rfl, j60, o60⟩ := r59_0
        obtain rfl := r59_1
        refine wl_move rfl rfl (by decide) ?_
        refine wl_pure rfl rfl (v := .slice A60 n60 c60) (by decide) (by kernel_rfl) ?_
        refine wl_pure rfl rfl (v := .int .i64 0) (by decide) (by kernel_rfl) ?_
        refine wl_assign rfl rfl (by decide) ?_
        refine wl_assign rfl rfl (by decide) ?_
        refine wl_nil ?_
        refine eo_then ?_
        refine cw_seq ?_
        refine cw_region ?_
        refine wl_pure rfl rfl (v := .pointer (some ⟨g6, 0, none⟩)) (by decide) (by kernel_rfl) ?_
        refine wl_load rfl rfl (load_cell cellBool (hb9.ext (e14.trans (e53.trans e57))) rfl) (by decide) ?_
        refine wl_move rfl rfl (by decide) ?_
        have L61 : ln (sg false ((Int.natAbs y) - (Int.natAbs x))) ≤ 17179869183 := by rw [ln_sg]; exact L55
        refine wl_call rfl rfl (vs := [.bool false, .slice A60 n60 c60]) (by kernel_rfl) (by decide) (g_ref5_made hw5.size o60.wi (by rw [j60]; exact Nat.le_trans L55 (by decide))) ?_
        rintro _ v62 ⟨xr64, rfl, r64, e63⟩
        refine ret_intro ?_
        have hw6 : Ext w v62 := hw5.trans e63
        obtain ⟨s65, A65, n65, c65, rfl, z65⟩ := r64
        have hb67 := (hb15.ext (e53.trans (e57.trans e63)))
        refine wl_stored rfl rfl rfl aggInt rfl hb67 (Nat.le_of_ble_eq_true rfl) rfl [.bool s65, .slice A65 n65 c65] rfl fun v66 hb68 u69 hs70 => ?_
        have hw7 : Ext w v66 := u69.ext hw6 ge16
        refine wl_nil ?_
        refine eo_then ?_
        refine cw_ret ?_
        refine eo_ret [.agg #[.bool s65, .slice A65 n65 c65]] rfl ⟨⟨_, rfl, load_agg aggInt hb68 [.bool s65, .slice A65 n65 c65] rfl (Nat.le_of_ble_eq_true rfl) rfl⟩, trivial⟩ ?_
        exact ⟨_, rfl, ⟨_, _, _, _, rfl, ((z65.updT hb67 u69)).cast (by rw [sg_sub (by omega)]; show sg false _ + sg true _ = _; rw [hx.sg, hy.sg, Int.add_comm])⟩, hw7⟩
  ·
    replace hsa : sa = false := by simpa using hsa
    subst hsa
    by_cases hsb : sb = true
    ·
      subst hsb
      refine cw_region ?_
      refine wl_pure rfl rfl (v := .pointer (some ⟨g1, 0, none⟩)) (by decide) (by kernel_rfl) ?_
      refine wl_load rfl rfl (load_cell cellBool (hb4.ext (e8.trans e14)) rfl) (by decide) ?_
      refine wl_pure rfl rfl (v := .pointer (some ⟨g6, 0, none⟩)) (by decide) (by kernel_rfl) ?_
      refine wl_load rfl rfl (load_cell cellBool (hb9.ext e14) rfl) (by decide) ?_
      refine wl_pure rfl rfl (v := .bool false) (by decide) (by kernel_rfl) ?_
      refine wl_nil ?_
      refine eo_then ?_
      refine cw_false rfl ?_
      refine cw_skip ?_
      refine eo_then ?_
      refine cw_seq ?_
      refine cw_seq ?_
      by_cases hxy : Int.natAbs y ≤ Int.natAbs x
      ·
        refine cw_region ?_
        refine wl_pure rfl rfl (v := .pointer (some ⟨g1, 1, none⟩)) (by decide) (by kernel_rfl) ?_
        refine wl_load rfl rfl (load_cell cellWords (hb4.ext (e8.trans e14)) rfl) (by decide) ?_
        refine wl_pure rfl rfl (v := .pointer (some ⟨g6, 1, none⟩)) (by decide) (by kernel_rfl) ?_
        refine wl_load rfl rfl (load_cell cellWords (hb9.ext e14) rfl) (by decide) ?_
        refine wl_call rfl rfl (vs := [.slice Aa na ca, .slice Ab nb cb]) (by kernel_rfl) (by decide) (g_ref1_Cmp (hx.ext hw3).wi (Nat.le_trans la (by decide)) (hy.ext hw3).wi (Nat.le_trans lb (by decide))) ?_
        rintro _ v71 ⟨xr73, rfl, r73, e72⟩
        refine ret_intro ?_
        have hw4 : Ext w v71 := hw3.trans e72
        obtain rfl := r73
        refine wl_cmp rfl rfl rfl true (cmp3_ge_t hxy) (by decide) ?_
        refine wl_nil ?_
        refine eo_then ?_
        refine cw_true rfl ?_
        refine cw_seq ?_
        refine cw_region ?_
        refine wl_pure rfl rfl (v := .pointer (some ⟨g1, 1, none⟩)) (by decide) (by kernel_rfl) ?_
        refine wl_load rfl rfl (load_cell cellWords (hb4.ext (e8.trans (e14.trans e72))) rfl) (by decide) ?_
        refine wl_pure rfl rfl (v := .pointer (some ⟨g6, 1, none⟩)) (by decide) (by kernel_rfl) ?_
        refine wl_load rfl rfl (load_cell cellWords (hb9.ext (e14.trans e72)) rfl) (by decide) ?_
        have L74 : (wd ((Int.natAbs x) - (Int.natAbs y))).length ≤ 17179869183 := Nat.le_trans (len_wd_mono (Nat.sub_le _ _)) Lx
        refine wl_call rfl rfl (vs := [.slice Aa na ca, .slice Ab nb cb]) (by kernel_rfl) (by decide) (g_ref1_Sub hw4.size (hx.ext hw4).wi (Nat.le_trans la (by decide)) (hy.ext hw4).wi (Nat.le_trans lb (by decide)) hxy) ?_
        rintro _ v75 ⟨xr77, rfl, r77, e76⟩
        refine ret_intro ?_
        have hw5 : Ext w v75 := hw4.trans e76
        obtain ⟨a78_0, a78_1, rfl, r78_0, r78_1⟩ := r77
        obtain ⟨A79, n79, c79, rfl, j79, o79⟩ := r78_0
        obtain rfl := r78_1
        refine wl_move rfl rfl (by decide) ?_
        refine wl_pure rfl rfl (v := .slice A79 n79 c79) (by decide) (by kernel_rfl) ?_
        refine wl_pure rfl rfl (v := .int .i64 0) (by decide) (by kernel_rfl) ?_
        refine wl_assign rfl rfl (by decide) ?_
        refine wl_assign rfl rfl (by decide) ?_
        refine wl_nil ?_
        refine eo_then ?_
        refine cw_seq ?_
        refine cw_region ?_
        refine wl_pure rfl rfl (v := .pointer (some ⟨g1, 0, none⟩)) (by decide) (by kernel_rfl) ?_
        refine wl_load rfl rfl (load_cell cellBool (hb4.ext (e8.trans (e14.trans (e72.trans e76)))) rfl) (by decide) ?_
        refine wl_move rfl rfl (by decide) ?_
        have L80 : ln (sg false ((Int.natAbs x) - (Int.natAbs y))) ≤ 17179869183 := by rw [ln_sg]; exact L74
        refine wl_call rfl rfl (vs := [.bool false, .slice A79 n79 c79]) (by kernel_rfl) (by decide) (g_ref5_made hw5.size o79.wi (by rw [j79]; exact Nat.le_trans L74 (by decide))) ?_
        rintro _ v81 ⟨xr83, rfl, r83, e82⟩
        refine ret_intro ?_
        have hw6 : Ext w v81 := hw5.trans e82
        obtain ⟨s84, A84, n84, c84, rfl, z84⟩ := r83
        have hb86 := (hb15.ext (e72.trans (e76.trans e82)))
        refine wl_stored rfl rfl rfl aggInt rfl hb86 (Nat.le_of_ble_eq_true rfl) rfl [.bool s84, .slice A84 n84 c84] rfl fun v85 hb87 u88 hs89 => ?_
        have hw7 : Ext w v85 := u88.ext hw6 ge16
        refine wl_nil ?_
        refine eo_then ?_
        refine cw_ret ?_
        refine eo_thenR ?_
        refine eo_ret [.agg #[.bool s84, .slice A84 n84 c84]] rfl ⟨⟨_, rfl, load_agg aggInt hb87 [.bool s84, .slice A84 n84 c84] rfl (Nat.le_of_ble_eq_true rfl) rfl⟩, trivial⟩ ?_
        exact ⟨_, rfl, ⟨_, _, _, _, rfl, ((z84.updT hb86 u88)).cast (by rw [sg_sub hxy]; show sg false _ + sg true _ = _; rw [hx.sg, hy.sg])⟩, hw7⟩
      ·
        refine cw_region ?_
        refine wl_pure rfl rfl (v := .pointer (some ⟨g1, 1, none⟩)) (by decide) (by kernel_rfl) ?_
        refine wl_load rfl rfl (load_cell cellWords (hb4.ext (e8.trans e14)) rfl) (by decide) ?_
        refine wl_pure rfl rfl (v := .pointer (some ⟨g6, 1, none⟩)) (by decide) (by kernel_rfl) ?_
        refine wl_load rfl rfl (load_cell cellWords (hb9.ext e14) rfl) (by decide) ?_
        refine wl_call rfl rfl (vs := [.slice Aa na ca, .slice Ab nb cb]) (by kernel_rfl) (by decide) (g_ref1_Cmp (hx.ext hw3).wi (Nat.le_trans la (by decide)) (hy.ext hw3).wi (Nat.le_trans lb (by decide))) ?_
        rintro _ v90 ⟨xr92, rfl, r92, e91⟩
        refine ret_intro ?_
        have hw4 : Ext w v90 := hw3.trans e91
        obtain rfl := r92
        refine wl_cmp rfl rfl rfl false (cmp3_ge_f hxy) (by decide) ?_
        refine wl_nil ?_
        refine eo_then ?_
        refine cw_false rfl ?_
        refine cw_skip ?_
        refine eo_then ?_
        refine cw_seq ?_
        refine cw_region ?_
        refine wl_pure rfl rfl (v := .pointer (some ⟨g6, 1, none⟩)) (by decide) (by kernel_rfl) ?_
        refine wl_load rfl rfl (load_cell cellWords (hb9.ext (e14.trans e91)) rfl) (by decide) ?_
        refine wl_pure rfl rfl (v := .pointer (some ⟨g1, 1, none⟩)) (by decide) (by kernel_rfl) ?_
        refine wl_load rfl rfl (load_cell cellWords (hb4.ext (e8.trans (e14.trans e91))) rfl) (by decide) ?_
        have L93 : (wd ((Int.natAbs y) - (Int.natAbs x))).length ≤ 17179869183 := Nat.le_trans (len_wd_mono (Nat.sub_le _ _)) Ly
        refine wl_call rfl rfl (vs := [.slice Ab nb cb, .slice Aa na ca]) (by kernel_rfl) (by decide) (g_ref1_Sub hw4.size (hy.ext hw4).wi (Nat.le_trans lb (by decide)) (hx.ext hw4).wi (Nat.le_trans la (by decide)) (by omega)) ?_
        rintro _ v94 ⟨xr96, rfl, r96, e95⟩
        refine ret_intro ?_
        have hw5 : Ext w v94 := hw4.trans e95
        obtain ⟨a97_0, a97_1, rfl, r97_0, r97_1⟩ := r96
        obtain ⟨A98, n98, c98, rfl, j98, o98⟩ := r97_0
        obtain rfl := r97_1
        refine wl_move rfl rfl (by decide) ?_
        refine wl_pure rfl rfl (v := .slice A98 n98 c98) (by decide) (by kernel_rfl) ?_
        refine wl_pure rfl rfl (v := .int .i64 0) (by decide) (by kernel_rfl) ?_
        refine wl_assign rfl rfl (by decide) ?_
        refine wl_assign rfl rfl (by decide) ?_
        refine wl_nil ?_
        refine eo_then ?_
        refine cw_seq ?_
        refine cw_region ?_
        refine wl_pure rfl rfl (v := .pointer (some ⟨g6, 0, none⟩)) (by decide) (by kernel_rfl) ?_
        refine wl_load rfl rfl (load_cell cellBool (hb9.ext (e14.trans (e91.trans e95))) rfl) (by decide) ?_
        refine wl_move rfl rfl (by decide) ?_
        have L99 : ln (sg true ((Int.natAbs y) - (Int.natAbs x))) ≤ 17179869183 := by rw [ln_sg]; exact L93
        refine wl_call rfl rfl (vs := [.bool true, .slice A98 n98 c98]) (by kernel_rfl) (by decide) (g_ref5_made hw5.size o98.wi (by rw [j98]; exact Nat.le_trans L93 (by decide))) ?_
        rintro _ v100 ⟨xr102, rfl, r102, e101⟩
        refine ret_intro ?_
        have hw6 : Ext w v100 := hw5.trans e101
        obtain ⟨s103, A103, n103, c103, rfl, z103⟩ := r102
        have hb105 := (hb15.ext (e91.trans (e95.trans e101)))
        refine wl_stored rfl rfl rfl aggInt rfl hb105 (Nat.le_of_ble_eq_true rfl) rfl [.bool s103, .slice A103 n103 c103] rfl fun v104 hb106 u107 hs108 => ?_
        have hw7 : Ext w v104 := u107.ext hw6 ge16
        refine wl_nil ?_
        refine eo_then ?_
        refine cw_ret ?_
        refine eo_ret [.agg #[.bool s103, .slice A103 n103 c103]] rfl ⟨⟨_, rfl, load_agg aggInt hb106 [.bool s103, .slice A103 n103 c103] rfl (Nat.le_of_ble_eq_true rfl) rfl⟩, trivial⟩ ?_
        exact ⟨_, rfl, ⟨_, _, _, _, rfl, ((z103.updT hb105 u107)).cast (by rw [sg_sub (by omega)]; show sg true _ + sg false _ = _; rw [hx.sg, hy.sg, Int.add_comm])⟩, hw7⟩
    ·
      replace hsb : sb = false := by simpa using hsb
      subst hsb
      refine cw_region ?_
      refine wl_pure rfl rfl (v := .pointer (some ⟨g1, 0, none⟩)) (by decide) (by kernel_rfl) ?_
      refine wl_load rfl rfl (load_cell cellBool (hb4.ext (e8.trans e14)) rfl) (by decide) ?_
      refine wl_pure rfl rfl (v := .pointer (some ⟨g6, 0, none⟩)) (by decide) (by kernel_rfl) ?_
      refine wl_load rfl rfl (load_cell cellBool (hb9.ext e14) rfl) (by decide) ?_
      refine wl_pure rfl rfl (v := .bool true) (by decide) (by kernel_rfl) ?_
      refine wl_nil ?_
      refine eo_then ?_
      refine cw_true rfl ?_
      refine cw_seq ?_
      refine cw_region ?_
      refine wl_pure rfl rfl (v := .pointer (some ⟨g1, 1, none⟩)) (by decide) (by kernel_rfl) ?_
      refine wl_load rfl rfl (load_cell cellWords (hb4.ext (e8.trans e14)) rfl) (by decide) ?_
      refine wl_pure rfl rfl (v := .pointer (some ⟨g6, 1, none⟩)) (by decide) (by kernel_rfl) ?_
      refine wl_load rfl rfl (load_cell cellWords (hb9.ext e14) rfl) (by decide) ?_
      have L109 : (wd ((Int.natAbs x) + (Int.natAbs y))).length ≤ 17179869184 := Nat.le_trans (len_wd_add _ _) (Nat.succ_le_succ (Nat.max_le.2 ⟨Nat.le_trans Lx (by decide), Nat.le_trans Ly (by decide)⟩))
      refine wl_call rfl rfl (vs := [.slice Aa na ca, .slice Ab nb cb]) (by kernel_rfl) (by decide) (g_ref1_Add hw3.size (hx.ext hw3).wi (Nat.le_trans la (by decide)) (hy.ext hw3).wi (Nat.le_trans lb (by decide))) ?_
      rintro _ v110 ⟨xr112, rfl, r112, e111⟩
      refine ret_intro ?_
      have hw4 : Ext w v110 := hw3.trans e111
      obtain ⟨A113, n113, c113, rfl, j113, o113⟩ := r112
      refine wl_assign rfl rfl (by decide) ?_
      refine wl_nil ?_
      refine eo_then ?_
      refine cw_seq ?_
      refine cw_region ?_
      refine wl_pure rfl rfl (v := .pointer (some ⟨g1, 0, none⟩)) (by decide) (by kernel_rfl) ?_
      refine wl_load rfl rfl (load_cell cellBool (hb4.ext (e8.trans (e14.trans e111))) rfl) (by decide) ?_
      refine wl_move rfl rfl (by decide) ?_
      have L114 : ln (sg false ((Int.natAbs x) + (Int.natAbs y))) ≤ 17179869184 := by rw [ln_sg]; exact L109
      refine wl_call rfl rfl (vs := [.bool false, .slice A113 n113 c113]) (by kernel_rfl) (by decide) (g_ref5_made hw4.size o113.wi (by rw [j113]; exact Nat.le_trans L109 (by decide))) ?_
      rintro _ v115 ⟨xr117, rfl, r117, e116⟩
      refine ret_intro ?_
      have hw5 : Ext w v115 := hw4.trans e116
      obtain ⟨s118, A118, n118, c118, rfl, z118⟩ := r117
      have hb120 := (hb15.ext (e111.trans e116))
      refine wl_stored rfl rfl rfl aggInt rfl hb120 (Nat.le_of_ble_eq_true rfl) rfl [.bool s118, .slice A118 n118 c118] rfl fun v119 hb121 u122 hs123 => ?_
      have hw6 : Ext w v119 := u122.ext hw5 ge16
      refine wl_nil ?_
      refine eo_then ?_
      refine cw_ret ?_
      refine eo_thenR ?_
      refine eo_ret [.agg #[.bool s118, .slice A118 n118 c118]] rfl ⟨⟨_, rfl, load_agg aggInt hb121 [.bool s118, .slice A118 n118 c118] rfl (Nat.le_of_ble_eq_true rfl) rfl⟩, trivial⟩ ?_
      exact ⟨_, rfl, ⟨_, _, _, _, rfl, ((z118.updT hb120 u122)).cast (by rw [sg_add, hx.sg, hy.sg])⟩, hw6⟩
theorem g_ref5_Add {w : World} {sa : Bool} {Aa : Option Addr} {na ca : Nat} {x : Int} {sb : Bool} {Ab : Option Addr} {nb cb : Nat} {y : Int} {b : Nat} (hb : b ≤ w.heap.size)  (hx : Zi w sa Aa na ca x) (la : na ≤ 17179869183) (hy : Zi w sb Ab nb cb y) (lb : nb ≤ 17179869183)  :
    Calls Try.prog 40 #[.agg #[.bool sa, .slice Aa na ca], .agg #[.bool sb, .slice Ab nb cb]] w (Gv w (ZR b (x + y))) := (g_ref5_AddI hx la hy lb).mono (Gv.imp (ZR.imp hb))
set_option maxHeartbeats 4000000 in
theorem g_ref5_SubI {w : World} {sa : Bool} {Aa : Option Addr} {na ca : Nat} {x : Int} {sb : Bool} {Ab : Option Addr} {nb cb : Nat} {y : Int} (hx : Zi w sa Aa na ca x) (la : na ≤ 17179869183) (hy : Zi w sb Ab nb cb y) (lb : nb ≤ 17179869183)  :
    Calls Try.prog 34 #[.agg #[.bool sa, .slice Aa na ca], .agg #[.bool sb, .slice Ab nb cb]] w (Gv w (ZR w.heap.size (x - y))) := by
  have Lx : ln x ≤ 17179869183 := Nat.le_trans hx.ln la
  have Ly : ln y ≤ 17179869183 := Nat.le_trans hy.ln lb
  refine sx_enter Try.func34 rfl (n := 13) rfl (Nat.le_of_ble_eq_true rfl) (args := [.agg #[.bool sa, .slice Aa na ca], .agg #[.bool sb, .slice Ab nb cb]]) ?_
  refine cw_keep [(0, .agg #[.bool sa, .slice Aa na ca]), (1, .agg #[.bool sb, .slice Ab nb cb])] ⟨rfl, rfl, trivial⟩ ?_
  refine cw_seq ?_
  refine cw_region ?_
  refine wl_box rfl rfl (vs := [.bool sa, .slice Aa na ca]) rfl (by decide) fun g1 v2 nb => ?_
  have hb4 := nb.bk
  have ge5 : w.heap.size ≤ g1 := by rw [← nb.at_]; exact (Ext.refl w).size
  have e3 := nb.ext
  clear nb
  have hw1 : Ext w v2 := (Ext.refl w).trans e3
  refine wl_box rfl rfl (vs := [.bool sb, .slice Ab nb cb]) rfl (by decide) fun g6 v7 nb => ?_
  have hb9 := nb.bk
  have ge10 : w.heap.size ≤ g6 := by rw [← nb.at_]; exact hw1.size
  have q11 : g1 < g6 := by rw [← nb.at_]; exact hb4.lt
  have e8 := nb.ext
  clear nb
  have hw2 : Ext w v7 := hw1.trans e8
  refine wl_alloc rfl (z := .agg #[.bool false, .slice none 0 0]) (vs := [.bool false, .slice none 0 0]) (fun _ => by kernel_rfl) rfl (by decide) fun g12 v13 nb => ?_
  have hb15 := nb.bk
  have ge16 : w.heap.size ≤ g12 := by rw [← nb.at_]; exact hw2.size
  have q17 : g6 < g12 := by rw [← nb.at_]; exact hb9.lt
  have e14 := nb.ext
  clear nb
  have hw3 : Ext w v13 := hw2.trans e14
  refine wl_nil ?_
  refine eo_then ?_
  refine cw_seq ?_
  refine cw_region ?_
  refine wl_load rfl rfl (load_agg aggInt (hb4.ext (e8.trans e14)) [.bool sa, .slice Aa na ca] rfl (Nat.le_of_ble_eq_true rfl) rfl) (by decide) ?_
  refine wl_pure rfl rfl (v := .pointer (some ⟨g6, 0, none⟩)) (by decide) (by kernel_rfl) ?_
  refine wl_load rfl rfl (load_cell cellBool (hb9.ext e14) rfl) (by decide) ?_
  refine wl_pure rfl rfl (v := .bool (!sb)) (by decide) (by kernel_rfl) ?_
  refine wl_pure rfl rfl (v := .pointer (some ⟨g6, 1, none⟩)) (by decide) (by kernel_rfl) ?_
  refine wl_load rfl rfl (load_cell cellWords (hb9.ext e14) rfl) (by decide) ?_
  refine wl_pure rfl rfl (v := .agg #[.bool (!sb), .slice Ab nb cb]) (by decide) (by kernel_rfl) ?_
  have L18 : ln (x + (-y)) ≤ 17179869184 := Nat.le_trans (ln_add Lx (show ln (-y) ≤ 17179869183 by rw [ln_neg]; exact Ly)) (by decide)
  refine wl_call rfl rfl (vs := [.agg #[.bool sa, .slice Aa na ca], .agg #[.bool (!sb), .slice Ab nb cb]]) (by kernel_rfl) (by decide) (g_ref5_Add hw3.size (hx.ext hw3) (Nat.le_trans la (by decide)) (hy.ext hw3).not (Nat.le_trans lb (by decide))) ?_
  rintro _ v19 ⟨xr21, rfl, r21, e20⟩
  refine ret_intro ?_
  have hw4 : Ext w v19 := hw3.trans e20
  obtain ⟨s22, A22, n22, c22, rfl, z22⟩ := r21
  have hb24 := (hb15.ext e20)
  refine wl_stored rfl rfl rfl aggInt rfl hb24 (Nat.le_of_ble_eq_true rfl) rfl [.bool s22, .slice A22 n22 c22] rfl fun v23 hb25 u26 hs27 => ?_
  have hw5 : Ext w v23 := u26.ext hw4 ge16
  refine wl_nil ?_
  refine eo_then ?_
  refine cw_ret ?_
  refine eo_ret [.agg #[.bool s22, .slice A22 n22 c22]] rfl ⟨⟨_, rfl, load_agg aggInt hb25 [.bool s22, .slice A22 n22 c22] rfl (Nat.le_of_ble_eq_true rfl) rfl⟩, trivial⟩ ?_
  exact ⟨_, rfl, ⟨_, _, _, _, rfl, ((z22.updT hb24 u26)).cast (by omega)⟩, hw5⟩
theorem g_ref5_Sub {w : World} {sa : Bool} {Aa : Option Addr} {na ca : Nat} {x : Int} {sb : Bool} {Ab : Option Addr} {nb cb : Nat} {y : Int} {b : Nat} (hb : b ≤ w.heap.size)  (hx : Zi w sa Aa na ca x) (la : na ≤ 17179869183) (hy : Zi w sb Ab nb cb y) (lb : nb ≤ 17179869183)  :
    Calls Try.prog 34 #[.agg #[.bool sa, .slice Aa na ca], .agg #[.bool sb, .slice Ab nb cb]] w (Gv w (ZR b (x - y))) := (g_ref5_SubI hx la hy lb).mono (Gv.imp (ZR.imp hb))
set_option maxHeartbeats 4000000 in
theorem g_ref5_TruncI {w : World} {sa : Bool} {Aa : Option Addr} {na ca : Nat} {x : Int} {sb : Bool} {Ab : Option Addr} {nb cb : Nat} {y : Int} (hx : Zi w sa Aa na ca x) (la : na ≤ 17179869183) (hy : Zi w sb Ab nb cb y) (lb : nb ≤ 17179869183) (h0 : y ≠ 0) :
    Calls Try.prog 79 #[.agg #[.bool sa, .slice Aa na ca], .agg #[.bool sb, .slice Ab nb cb]] w (Gv w (T3 (ZR w.heap.size (x.tdiv y)) (ZR w.heap.size (x.tmod y)) (Is (.int .i64 0)))) := by
  have Lx : ln x ≤ 17179869183 := Nat.le_trans hx.ln la
  have Ly : ln y ≤ 17179869183 := Nat.le_trans hy.ln lb
  have hy0 : Int.natAbs y ≠ 0 := by omega
  refine sx_enter Try.func79 rfl (n := 34) rfl (Nat.le_of_ble_eq_true rfl) (args := [.agg #[.bool sa, .slice Aa na ca], .agg #[.bool sb, .slice Ab nb cb]]) ?_
  refine cw_keep [(0, .agg #[.bool sa, .slice Aa na ca]), (1, .agg #[.bool sb, .slice Ab nb cb])] ⟨rfl, rfl, trivial⟩ ?_
  refine cw_seq ?_
  refine cw_region ?_
  refine wl_box rfl rfl (vs := [.bool sa, .slice Aa na ca]) rfl (by decide) fun g1 v2 nb => ?_
  have hb4 := nb.bk
  have ge5 : w.heap.size ≤ g1 := by rw [← nb.at_]; exact (Ext.refl w).size
  have e3 := nb.ext
  clear nb
  have hw1 : Ext w v2 := (Ext.refl w).trans e3
  refine wl_box rfl rfl (vs := [.bool sb, .slice Ab nb cb]) rfl (by decide) fun g6 v7 nb => ?_
  have hb9 := nb.bk
  have ge10 : w.heap.size ≤ g6 := by rw [← nb.at_]; exact hw1.size
  have q11 : g1 < g6 := by rw [← nb.at_]; exact hb4.lt
  have e8 := nb.ext
  clear nb
  have hw2 : Ext w v7 := hw1.trans e8
  refine wl_alloc rfl (z := .agg #[.bool false, .slice none 0 0]) (vs := [.bool false, .slice none 0 0]) (fun _ => by kernel_rfl) rfl (by decide) fun g12 v13 nb => ?_
  have hb15 := nb.bk
  have ge16 : w.heap.size ≤ g12 := by rw [← nb.at_]; exact hw2.size
  have q17 : g6 < g12 := by rw [← nb.at_]; exact hb9.lt
  have e14 := nb.ext
  clear nb
  have hw3 : Ext w v13 := hw2.trans e14
  refine wl_alloc rfl (z := .agg #[.bool false, .slice none 0 0]) (vs := [.bool false, .slice none 0 0]) (fun _ => by kernel_rfl) rfl (by decide) fun g18 v19 nb => ?_
  have hb21 := nb.bk
  have ge22 : w.heap.size ≤ g18 := by rw [← nb.at_]; exact hw3.size
  have q23 : g12 < g18 := by rw [← nb.at_]; exact hb15.lt
  have e20 := nb.ext
  clear nb
  have hw4 : Ext w v19 := hw3.trans e20
  refine wl_assign rfl rfl (by decide) ?_
  refine wl_nil ?_
  refine eo_then ?_
  refine cw_seq ?_
  refine cw_region ?_
  refine wl_pure rfl rfl (v := .pointer (some ⟨g1, 1, none⟩)) (by decide) (by kernel_rfl) ?_
  refine wl_load rfl rfl (load_cell cellWords (hb4.ext (e8.trans (e14.trans e20))) rfl) (by decide) ?_
  refine wl_pure rfl rfl (v := .pointer (some ⟨g6, 1, none⟩)) (by decide) (by kernel_rfl) ?_
  refine wl_load rfl rfl (load_cell cellWords (hb9.ext (e14.trans e20)) rfl) (by decide) ?_
  have L24 : (wd ((Int.natAbs x) / (Int.natAbs y))).length ≤ 17179869183 := Nat.le_trans (len_wd_mono (Nat.div_le_self _ _)) Lx
  have L25 : (wd ((Int.natAbs x) % (Int.natAbs y))).length ≤ 17179869183 := Nat.le_trans (len_wd_mono (Nat.mod_le _ _)) Lx
  refine wl_call rfl rfl (vs := [.slice Aa na ca, .slice Ab nb cb]) (by kernel_rfl) (by decide) (g_ref3_DivMod hw4.size (hx.ext hw4).wi (Nat.le_trans la (by decide)) (hy.ext hw4).wi (Nat.le_trans lb (by decide)) hy0) ?_
  rintro _ v26 ⟨xr28, rfl, r28, e27⟩
  refine ret_intro ?_
  have hw5 : Ext w v26 := hw4.trans e27
  obtain ⟨a29_0, a29_1, a29_2, rfl, r29_0, r29_1, r29_2⟩ := r28
  obtain ⟨A30, n30, c30, rfl, j30, o30⟩ := r29_0
  obtain ⟨A31, n31, c31, rfl, j31, o31⟩ := r29_1
  obtain rfl := r29_2
  refine wl_move rfl rfl (by decide) ?_
  refine wl_pure rfl rfl (v := .slice A30 n30 c30) (by decide) (by kernel_rfl) ?_
  refine wl_pure rfl rfl (v := .slice A31 n31 c31) (by decide) (by kernel_rfl) ?_
  refine wl_pure rfl rfl (v := .int .i64 0) (by decide) (by kernel_rfl) ?_
  refine wl_assign rfl rfl (by decide) ?_
  refine wl_assign rfl rfl (by decide) ?_
  refine wl_assign rfl rfl (by decide) ?_
  refine wl_nil ?_
  refine eo_then ?_
  refine cw_seq ?_
  refine cw_seq ?_
  refine cw_region ?_
  refine wl_move rfl rfl (by decide) ?_
  refine wl_pure rfl rfl (v := .bool false) (by decide) (by kernel_rfl) ?_
  refine wl_nil ?_
  refine eo_then ?_
  refine cw_false rfl ?_
  refine cw_skip ?_
  refine eo_then ?_
  refine cw_seq ?_
  have L32 : ln (sg (!(sa == sb)) ((Int.natAbs x) / (Int.natAbs y))) ≤ 17179869183 := by rw [ln_sg]; exact L24
  have L34 : ln (sg sa ((Int.natAbs x) % (Int.natAbs y))) ≤ 17179869183 := by rw [ln_sg]; exact L25
  refine cw_draw mix 11 [] [Is (.pointer (some ⟨g1, 0, none⟩)), Is (.bool sa), Is (.pointer (some ⟨g6, 0, none⟩)), Is (.bool sb), Is (.bool (!(sa == sb))), Is (.slice A30 n30 c30), ZR w.heap.size (sg (!(sa == sb)) ((Int.natAbs x) / (Int.natAbs y))), Is (.pointer (some ⟨g1, 0, none⟩)), Is (.bool sa), Is (.slice A31 n31 c31), ZR w.heap.size (sg sa ((Int.natAbs x) % (Int.natAbs y)))] [[], [0], [], [2], [1, 3], [], [4, 5], [], [7], [], [8, 9]] [[], [0], [], [2], [0, 1, 2, 3], [], [0, 1, 2, 3, 4, 5], [], [7], [], [0, 1, 2, 3, 4, 5, 6, 7, 8, 9], [0, 1, 2, 3, 4, 5, 6, 7, 8, 9, 10], [0, 1, 2, 3, 4, 5, 6, 7, 8, 9, 10, 11], [0, 1, 2, 3, 4, 5, 6, 7, 8, 9, 10, 11, 12]] rfl
    (obs_cons rfl rfl (hob rfl rfl ?_) (obs_cons rfl rfl (hob rfl rfl ?_) (obs_cons rfl rfl (hob rfl rfl ?_) (obs_cons rfl rfl (hob rfl rfl ?_) (obs_cons rfl rfl (hob rfl rfl ?_) (obs_cons rfl rfl (hob rfl rfl ?_) (obs_cons rfl rfl (hob rfl rfl ?_) (obs_cons rfl rfl (hob rfl rfl ?_) (obs_cons rfl rfl (hob rfl rfl ?_) (obs_cons rfl rfl (hob rfl rfl ?_) (obs_cons rfl rfl (hob rfl rfl ?_) obs_nil))))))))))) ?_
  · -- 0
    intro v36 e37
    have hw6 : Ext w v36 := hw5.trans e37
    refine deps_nil ?_
    refine wl_pure rfl rfl (v := .pointer (some ⟨g1, 0, none⟩)) (by decide) (by kernel_rfl) ?_
    exact pi_done rfl (Ext.refl _) rfl
  · -- 1
    intro v38 e39
    have hw6 : Ext w v38 := hw5.trans e39
    refine deps_cons rfl rfl fun x40 y41 h42 e43 f44 => ?_
    obtain rfl := h42
    refine deps_nil ?_
    refine wl_load rfl rfl (load_cell cellBool (hb4.ext (e8.trans (e14.trans (e20.trans (e27.trans e39))))) rfl) (by decide) ?_
    exact pi_done rfl (Ext.refl _) rfl
  · -- 2
    intro v45 e46
    have hw6 : Ext w v45 := hw5.trans e46
    refine deps_nil ?_
    refine wl_pure rfl rfl (v := .pointer (some ⟨g6, 0, none⟩)) (by decide) (by kernel_rfl) ?_
    exact pi_done rfl (Ext.refl _) rfl
  · -- 3
    intro v47 e48
    have hw6 : Ext w v47 := hw5.trans e48
    refine deps_cons rfl rfl fun x49 y50 h51 e52 f53 => ?_
    obtain rfl := h51
    refine deps_nil ?_
    refine wl_load rfl rfl (load_cell cellBool (hb9.ext (e14.trans (e20.trans (e27.trans e48)))) rfl) (by decide) ?_
    exact pi_done rfl (Ext.refl _) rfl
  · -- 4
    intro v54 e55
    have hw6 : Ext w v54 := hw5.trans e55
    refine deps_cons rfl rfl fun x56 y57 h58 e59 f60 => ?_
    obtain rfl := h58
    refine deps_cons rfl rfl fun x61 y62 h63 e64 f65 => ?_
    obtain rfl := h63
    refine deps_nil ?_
    refine wl_pure rfl rfl (v := .bool (!(sa == sb))) (by decide) (by kernel_rfl) ?_
    exact pi_done rfl (Ext.refl _) rfl
  · -- 5
    intro v66 e67
    have hw6 : Ext w v66 := hw5.trans e67
    refine deps_nil ?_
    refine wl_move rfl rfl (by decide) ?_
    exact pi_done rfl (Ext.refl _) rfl
  · -- 6
    intro v68 e69
    have hw6 : Ext w v68 := hw5.trans e69
    refine deps_cons rfl rfl fun x70 y71 h72 e73 f74 => ?_
    obtain rfl := h72
    refine deps_cons rfl rfl fun x75 y76 h77 e78 f79 => ?_
    obtain rfl := h77
    refine deps_nil ?_
    have L80 : ln (sg (!(sa == sb)) ((Int.natAbs x) / (Int.natAbs y))) ≤ 17179869183 := by rw [ln_sg]; exact L24
    refine wl_call rfl rfl (vs := [.bool (!(sa == sb)), .slice A30 n30 c30]) (by kernel_rfl) (by decide) (g_ref5_made hw6.size (o30.ext e69).wi (by rw [j30]; exact Nat.le_trans L24 (by decide))) ?_
    rintro _ v81 ⟨xr83, rfl, r83, e82⟩
    refine ret_intro ?_
    have hw7 : Ext w v81 := hw6.trans e82
    obtain ⟨s84, A84, n84, c84, rfl, z84⟩ := r83
    exact pi_done rfl e82 ⟨_, _, _, _, rfl, z84⟩
  · -- 7
    intro v85 e86
    have hw6 : Ext w v85 := hw5.trans e86
    refine deps_nil ?_
    refine wl_pure rfl rfl (v := .pointer (some ⟨g1, 0, none⟩)) (by decide) (by kernel_rfl) ?_
    exact pi_done rfl (Ext.refl _) rfl
  · -- 8
    intro v87 e88
    have hw6 : Ext w v87 := hw5.trans e88
    refine deps_cons rfl rfl fun x89 y90 h91 e92 f93 => ?_
    obtain rfl := h91
    refine deps_nil ?_
    refine wl_load rfl rfl (load_cell cellBool (hb4.ext (e8.trans (e14.trans (e20.trans (e27.trans e88))))) rfl) (by decide) ?_
    exact pi_done rfl (Ext.refl _) rfl
  · -- 9
    intro v94 e95
    have hw6 : Ext w v94 := hw5.trans e95
    refine deps_nil ?_
    refine wl_move rfl rfl (by decide) ?_
    exact pi_done rfl (Ext.refl _) rfl
  · -- 10
    intro v96 e97
    have hw6 : Ext w v96 := hw5.trans e97
    refine deps_cons rfl rfl fun x98 y99 h100 e101 f102 => ?_
    obtain rfl := h100
    refine deps_cons rfl rfl fun x103 y104 h105 e106 f107 => ?_
    obtain rfl := h105
    refine deps_nil ?_
    have L108 : ln (sg sa ((Int.natAbs x) % (Int.natAbs y))) ≤ 17179869183 := by rw [ln_sg]; exact L25
    refine wl_call rfl rfl (vs := [.bool sa, .slice A31 n31 c31]) (by kernel_rfl) (by decide) (g_ref5_made hw6.size (o31.ext e97).wi (by rw [j31]; exact Nat.le_trans L25 (by decide))) ?_
    rintro _ v109 ⟨xr111, rfl, r111, e110⟩
    refine ret_intro ?_
    have hw7 : Ext w v109 := hw6.trans e110
    obtain ⟨s112, A112, n112, c112, rfl, z112⟩ := r111
    exact pi_done rfl e110 ⟨_, _, _, _, rfl, z112⟩
  · -- all
    intro v113 e114
    have hw6 : Ext w v113 := hw5.trans e114
    refine deps_cons rfl rfl fun x115 y116 h117 e118 f119 => ?_
    obtain rfl := h117
    refine deps_cons rfl rfl fun x120 y121 h122 e123 f124 => ?_
    obtain rfl := h122
    refine deps_cons rfl rfl fun x125 y126 h127 e128 f129 => ?_
    obtain rfl := h127
    refine deps_cons rfl rfl fun x130 y131 h132 e133 f134 => ?_
    obtain rfl := h132
    refine deps_cons rfl rfl fun x135 y136 h137 e138 f139 => ?_
    obtain rfl := h137
    refine deps_cons rfl rfl fun x140 y141 h142 e143 f144 => ?_
    obtain rfl := h142
    refine deps_cons rfl rfl fun x145 y146 h147 e148 f149 => ?_
    obtain ⟨s150, A150, n150, c150, rfl, z150⟩ := h147
    have z150 := z150.ext f149
    refine deps_cons rfl rfl fun x151 y152 h153 e154 f155 => ?_
    obtain rfl := h153
    refine deps_cons rfl rfl fun x156 y157 h158 e159 f160 => ?_
    obtain rfl := h158
    refine deps_cons rfl rfl fun x161 y162 h163 e164 f165 => ?_
    obtain rfl := h163
    refine deps_cons rfl rfl fun x166 y167 h168 e169 f170 => ?_
    obtain ⟨s171, A171, n171, c171, rfl, z171⟩ := h168
    have z171 := z171.ext f170
    refine deps_nil ?_
    have hb173 := (hb15.ext (e20.trans (e27.trans e114)))
    refine wl_stored rfl rfl rfl aggInt rfl hb173 (Nat.le_of_ble_eq_true rfl) rfl [.bool s150, .slice A150 n150 c150] rfl fun v172 hb174 u175 hs176 => ?_
    have hw7 : Ext w v172 := u175.ext hw6 ge16
    have hb178 := ((hb21.ext (e27.trans e114)).updN u175 (by omega))
    refine wl_stored rfl rfl rfl aggInt rfl hb178 (Nat.le_of_ble_eq_true rfl) rfl [.bool s171, .slice A171 n171 c171] rfl fun v177 hb179 u180 hs181 => ?_
    have hw8 : Ext w v177 := u180.ext hw7 ge22
    refine wl_assign rfl rfl (by decide) ?_
    refine wl_nil ?_
    refine eo_np ?_
    refine eo_then ?_
    refine cw_ret ?_
    refine eo_ret [.agg #[.bool s150, .slice A150 n150 c150], .agg #[.bool s171, .slice A171 n171 c171], .int .i64 0] rfl ⟨⟨_, rfl, load_agg aggInt (hb174.updN u180 (by omega)) [.bool s150, .slice A150 n150 c150] rfl (Nat.le_of_ble_eq_true rfl) rfl⟩, ⟨_, rfl, load_agg aggInt hb179 [.bool s171, .slice A171 n171 c171] rfl (Nat.le_of_ble_eq_true rfl) rfl⟩, rfl, trivial⟩ ?_
    exact ⟨_, rfl, ⟨_, _, _, rfl, ⟨_, _, _, _, rfl, (((z150.updT hb173 u175).updT hb178 u180)).cast ((sg_tdiv _ _ _ _).trans (by rw [hx.sg, hy.sg]))⟩, ⟨_, _, _, _, rfl, (((z171.updT hb173 u175).updT hb178 u180)).cast ((sg_tmod sa sb _ _).trans (by rw [hx.sg, hy.sg]))⟩, rfl⟩, hw8⟩
theorem g_ref5_Trunc {w : World} {sa : Bool} {Aa : Option Addr} {na ca : Nat} {x : Int} {sb : Bool} {Ab : Option Addr} {nb cb : Nat} {y : Int} {b : Nat} (hb : b ≤ w.heap.size)  (hx : Zi w sa Aa na ca x) (la : na ≤ 17179869183) (hy : Zi w sb Ab nb cb y) (lb : nb ≤ 17179869183) (h0 : y ≠ 0) :
    Calls Try.prog 79 #[.agg #[.bool sa, .slice Aa na ca], .agg #[.bool sb, .slice Ab nb cb]] w (Gv w (T3 (ZR b (x.tdiv y)) (ZR b (x.tmod y)) (Is (.int .i64 0)))) := (g_ref5_TruncI hx la hy lb h0).mono (Gv.imp (T3.imp (ZR.imp hb) (ZR.imp hb) Is.imp))
theorem tmod_zero_iff {x y : Int} : x.tmod y = 0 ↔ x.natAbs % y.natAbs = 0 := by rw [← Int.natAbs_tmod, Int.natAbs_eq_zero]
set_option maxHeartbeats 4000000 in
theorem g_ref5_Exact_okI {w : World} {sa : Bool} {Aa : Option Addr} {na ca : Nat} {x : Int} {sb : Bool} {Ab : Option Addr} {nb cb : Nat} {y : Int} (hx : Zi w sa Aa na ca x) (la : na ≤ 17179869183) (hy : Zi w sb Ab nb cb y) (lb : nb ≤ 17179869183) (h0 : y ≠ 0) (h1 : x.natAbs % y.natAbs = 0) :
    Calls Try.prog 44 #[.agg #[.bool sa, .slice Aa na ca], .agg #[.bool sb, .slice Ab nb cb]] w (Gv w (T2 (ZR w.heap.size (x.tdiv y)) (Is (.int .i64 0)))) := by
  have Lx : ln x ≤ 17179869183 := Nat.le_trans hx.ln la
  have Ly : ln y ≤ 17179869183 := Nat.le_trans hy.ln lb
  refine sx_enter Try.func44 rfl (n := 25) rfl (Nat.le_of_ble_eq_true rfl) (args := [.agg #[.bool sa, .slice Aa na ca], .agg #[.bool sb, .slice Ab nb cb]]) ?_
  refine cw_keep [(0, .agg #[.bool sa, .slice Aa na ca]), (1, .agg #[.bool sb, .slice Ab nb cb])] ⟨rfl, rfl, trivial⟩ ?_
  refine cw_seq ?_
  refine cw_region ?_
  refine wl_box rfl rfl (vs := [.bool sa, .slice Aa na ca]) rfl (by decide) fun g1 v2 nb => ?_
  have hb4 := nb.bk
  have ge5 : w.heap.size ≤ g1 := by rw [← nb.at_]; exact (Ext.refl w).size
  have e3 := nb.ext
  clear nb
  have hw1 : Ext w v2 := (Ext.refl w).trans e3
  refine wl_box rfl rfl (vs := [.bool sb, .slice Ab nb cb]) rfl (by decide) fun g6 v7 nb => ?_
  have hb9 := nb.bk
  have ge10 : w.heap.size ≤ g6 := by rw [← nb.at_]; exact hw1.size
  have q11 : g1 < g6 := by rw [← nb.at_]; exact hb4.lt
  have e8 := nb.ext
  clear nb
  have hw2 : Ext w v7 := hw1.trans e8
  refine wl_alloc rfl (z := .agg #[.bool false, .slice none 0 0]) (vs := [.bool false, .slice none 0 0]) (fun _ => by kernel_rfl) rfl (by decide) fun g12 v13 nb => ?_
  have hb15 := nb.bk
  have ge16 : w.heap.size ≤ g12 := by rw [← nb.at_]; exact hw2.size
  have q17 : g6 < g12 := by rw [← nb.at_]; exact hb9.lt
  have e14 := nb.ext
  clear nb
  have hw3 : Ext w v13 := hw2.trans e14
  refine wl_assign rfl rfl (by decide) ?_
  refine wl_nil ?_
  refine eo_then ?_
  refine cw_seq ?_
  refine cw_region ?_
  refine wl_load rfl rfl (load_agg aggInt (hb4.ext (e8.trans e14)) [.bool sa, .slice Aa na ca] rfl (Nat.le_of_ble_eq_true rfl) rfl) (by decide) ?_
  refine wl_load rfl rfl (load_agg aggInt (hb9.ext e14) [.bool sb, .slice Ab nb cb] rfl (Nat.le_of_ble_eq_true rfl) rfl) (by decide) ?_
  have L18 : ln ((x).tdiv y) ≤ 17179869183 := Nat.le_trans (ln_tdiv _ _) Lx
  have L19 : ln ((x).tmod y) ≤ 17179869183 := Nat.le_trans (ln_tmod _ _) Lx
  refine wl_call rfl rfl (vs := [.agg #[.bool sa, .slice Aa na ca], .agg #[.bool sb, .slice Ab nb cb]]) (by kernel_rfl) (by decide) (g_ref5_Trunc hw3.size (hx.ext hw3) (Nat.le_trans la (by decide)) (hy.ext hw3) (Nat.le_trans lb (by decide)) h0) ?_
  rintro _ v20 ⟨xr22, rfl, r22, e21⟩
  refine ret_intro ?_
  have hw4 : Ext w v20 := hw3.trans e21
  obtain ⟨a23_0, a23_1, a23_2, rfl, r23_0, r23_1, r23_2⟩ := r22
  obtain ⟨s24, A24, n24, c24, rfl, z24⟩ := r23_0
  obtain ⟨s25, A25, n25, c25, rfl, z25⟩ := r23_1
  obtain rfl := r23_2
  refine wl_move rfl rfl (by decide) ?_
  refine wl_pure rfl rfl (v := .agg #[.bool s24, .slice A24 n24 c24]) (by decide) (by kernel_rfl) ?_
  refine wl_pure rfl rfl (v := .agg #[.bool s25, .slice A25 n25 c25]) (by decide) (by kernel_rfl) ?_
  refine wl_pure rfl rfl (v := .int .i64 0) (by decide) (by kernel_rfl) ?_
  refine wl_alloc rfl (z := .agg #[.bool false, .slice none 0 0]) (vs := [.bool false, .slice none 0 0]) (fun _ => by kernel_rfl) rfl (by decide) fun g26 v27 nb => ?_
  have hb29 := nb.bk
  have ge30 : w.heap.size ≤ g26 := by rw [← nb.at_]; exact hw4.size
  have q31 : g12 < g26 := by rw [← nb.at_]; exact (hb15.ext e21).lt
  have e28 := nb.ext
  clear nb
  have hw5 : Ext w v27 := hw4.trans e28
  refine wl_alloc rfl (z := .agg #[.bool false, .slice none 0 0]) (vs := [.bool false, .slice none 0 0]) (fun _ => by kernel_rfl) rfl (by decide) fun g32 v33 nb => ?_
  have hb35 := nb.bk
  have ge36 : w.heap.size ≤ g32 := by rw [← nb.at_]; exact hw5.size
  have q37 : g26 < g32 := by rw [← nb.at_]; exact hb29.lt
  have e34 := nb.ext
  clear nb
  have hw6 : Ext w v33 := hw5.trans e34
  have hb39 := (hb29.ext e34)
  refine wl_stored rfl rfl rfl aggInt rfl hb39 (Nat.le_of_ble_eq_true rfl) rfl [.bool s24, .slice A24 n24 c24] rfl fun v38 hb40 u41 hs42 => ?_
  have hw7 : Ext w v38 := u41.ext hw6 ge30
  have hb44 := (hb35.updN u41 (by omega))
  refine wl_stored rfl rfl rfl aggInt rfl hb44 (Nat.le_of_ble_eq_true rfl) rfl [.bool s25, .slice A25 n25 c25] rfl fun v43 hb45 u46 hs47 => ?_
  have hw8 : Ext w v43 := u46.ext hw7 ge36
  refine wl_assign rfl rfl (by decide) ?_
  refine wl_nil ?_
  refine eo_then ?_
  refine cw_seq ?_
  refine cw_seq ?_
  refine cw_region ?_
  refine wl_move rfl rfl (by decide) ?_
  refine wl_pure rfl rfl (v := .bool false) (by decide) (by kernel_rfl) ?_
  refine wl_nil ?_
  refine eo_then ?_
  refine cw_false rfl ?_
  refine cw_skip ?_
  refine eo_then ?_
  refine cw_seq ?_
  refine cw_seq ?_
  refine cw_region ?_
  refine wl_load rfl rfl (load_agg aggInt hb45 [.bool s25, .slice A25 n25 c25] rfl (Nat.le_of_ble_eq_true rfl) rfl) (by decide) ?_
  refine wl_call rfl rfl (vs := [.agg #[.bool s25, .slice A25 n25 c25]]) (by kernel_rfl) (by decide) (g_ref5_Sign (((z25.ext (e28.trans e34)).updT hb39 u41).updT hb44 u46).zi (z25.le (Nat.le_trans L19 (by decide)))) ?_
  rintro _ v48 ⟨xr50, rfl, r50, e49⟩
  refine ret_intro ?_
  have hw9 : Ext w v48 := hw8.trans e49
  obtain rfl := r50
  refine wl_cmp rfl rfl rfl false (scmp_ne_f (tmod_zero_iff.2 h1)) (by decide) ?_
  refine wl_nil ?_
  refine eo_then ?_
  refine cw_false rfl ?_
  refine cw_skip ?_
  refine eo_then ?_
  refine cw_seq ?_
  refine cw_region ?_
  refine wl_load rfl rfl (load_agg aggInt ((hb40.updN u46 (by omega)).ext e49) [.bool s24, .slice A24 n24 c24] rfl (Nat.le_of_ble_eq_true rfl) rfl) (by decide) ?_
  have hb52 := ((((hb15.ext (e21.trans (e28.trans e34))).updN u41 (by omega)).updN u46 (by omega)).ext e49)
  refine wl_stored rfl rfl rfl aggInt rfl hb52 (Nat.le_of_ble_eq_true rfl) rfl [.bool s24, .slice A24 n24 c24] rfl fun v51 hb53 u54 hs55 => ?_
  have hw10 : Ext w v51 := u54.ext hw9 ge16
  refine wl_assign rfl rfl (by decide) ?_
  refine wl_nil ?_
  refine eo_then ?_
  refine cw_ret ?_
  refine eo_ret [.agg #[.bool s24, .slice A24 n24 c24], .int .i64 0] rfl ⟨⟨_, rfl, load_agg aggInt hb53 [.bool s24, .slice A24 n24 c24] rfl (Nat.le_of_ble_eq_true rfl) rfl⟩, rfl, trivial⟩ ?_
  exact ⟨_, rfl, ⟨_, _, rfl, ⟨_, _, _, _, rfl, (((((z24.ext (e28.trans e34)).updT hb39 u41).updT hb44 u46).ext e49).updT hb52 u54)⟩, rfl⟩, hw10⟩
theorem g_ref5_Exact_ok {w : World} {sa : Bool} {Aa : Option Addr} {na ca : Nat} {x : Int} {sb : Bool} {Ab : Option Addr} {nb cb : Nat} {y : Int} {b : Nat} (hb : b ≤ w.heap.size)  (hx : Zi w sa Aa na ca x) (la : na ≤ 17179869183) (hy : Zi w sb Ab nb cb y) (lb : nb ≤ 17179869183) (h0 : y ≠ 0) (h1 : x.natAbs % y.natAbs = 0) :
    Calls Try.prog 44 #[.agg #[.bool sa, .slice Aa na ca], .agg #[.bool sb, .slice Ab nb cb]] w (Gv w (T2 (ZR b (x.tdiv y)) (Is (.int .i64 0)))) := (g_ref5_Exact_okI hx la hy lb h0 h1).mono (Gv.imp (T2.imp (ZR.imp hb) Is.imp))
set_option maxHeartbeats 4000000 in
theorem g_ref5_Exact_notI {w : World} {sa : Bool} {Aa : Option Addr} {na ca : Nat} {x : Int} {sb : Bool} {Ab : Option Addr} {nb cb : Nat} {y : Int} (hx : Zi w sa Aa na ca x) (la : na ≤ 17179869183) (hy : Zi w sb Ab nb cb y) (lb : nb ≤ 17179869183) (h0 : y ≠ 0) (h1 : x.natAbs % y.natAbs ≠ 0) :
    Calls Try.prog 44 #[.agg #[.bool sa, .slice Aa na ca], .agg #[.bool sb, .slice Ab nb cb]] w (Gv w (T2 (ZR w.heap.size (0)) (Is (.int .i64 8)))) := by
  have Lx : ln x ≤ 17179869183 := Nat.le_trans hx.ln la
  have Ly : ln y ≤ 17179869183 := Nat.le_trans hy.ln lb
  refine sx_enter Try.func44 rfl (n := 25) rfl (Nat.le_of_ble_eq_true rfl) (args := [.agg #[.bool sa, .slice Aa na ca], .agg #[.bool sb, .slice Ab nb cb]]) ?_
  refine cw_keep [(0, .agg #[.bool sa, .slice Aa na ca]), (1, .agg #[.bool sb, .slice Ab nb cb])] ⟨rfl, rfl, trivial⟩ ?_
  refine cw_seq ?_
  refine cw_region ?_
  refine wl_box rfl rfl (vs := [.bool sa, .slice Aa na ca]) rfl (by decide) fun g1 v2 nb => ?_
  have hb4 := nb.bk
  have ge5 : w.heap.size ≤ g1 := by rw [← nb.at_]; exact (Ext.refl w).size
  have e3 := nb.ext
  clear nb
  have hw1 : Ext w v2 := (Ext.refl w).trans e3
  refine wl_box rfl rfl (vs := [.bool sb, .slice Ab nb cb]) rfl (by decide) fun g6 v7 nb => ?_
  have hb9 := nb.bk
  have ge10 : w.heap.size ≤ g6 := by rw [← nb.at_]; exact hw1.size
  have q11 : g1 < g6 := by rw [← nb.at_]; exact hb4.lt
  have e8 := nb.ext
  clear nb
  have hw2 : Ext w v7 := hw1.trans e8
  refine wl_alloc rfl (z := .agg #[.bool false, .slice none 0 0]) (vs := [.bool false, .slice none 0 0]) (fun _ => by kernel_rfl) rfl (by decide) fun g12 v13 nb => ?_
  have hb15 := nb.bk
  have ge16 : w.heap.size ≤ g12 := by rw [← nb.at_]; exact hw2.size
  have q17 : g6 < g12 := by rw [← nb.at_]; exact hb9.lt
  have e14 := nb.ext
  clear nb
  have hw3 : Ext w v13 := hw2.trans e14
  refine wl_assign rfl rfl (by decide) ?_
  refine wl_nil ?_
  refine eo_then ?_
  refine cw_seq ?_
  refine cw_region ?_
  refine wl_load rfl rfl (load_agg aggInt (hb4.ext (e8.trans e14)) [.bool sa, .slice Aa na ca] rfl (Nat.le_of_ble_eq_true rfl) rfl) (by decide) ?_
  refine wl_load rfl rfl (load_agg aggInt (hb9.ext e14) [.bool sb, .slice Ab nb cb] rfl (Nat.le_of_ble_eq_true rfl) rfl) (by decide) ?_
  have L18 : ln ((x).tdiv y) ≤ 17179869183 := Nat.le_trans (ln_tdiv _ _) Lx
  have L19 : ln ((x).tmod y) ≤ 17179869183 := Nat.le_trans (ln_tmod _ _) Lx
  refine wl_call rfl rfl (vs := [.agg #[.bool sa, .slice Aa na ca], .agg #[.bool sb, .slice Ab nb cb]]) (by kernel_rfl) (by decide) (g_ref5_Trunc hw3.size (hx.ext hw3) (Nat.le_trans la (by decide)) (hy.ext hw3) (Nat.le_trans lb (by decide)) h0) ?_
  rintro _ v20 ⟨xr22, rfl, r22, e21⟩
  refine ret_intro ?_
  have hw4 : Ext w v20 := hw3.trans e21
  obtain ⟨a23_0, a23_1, a23_2, rfl, r23_0, r23_1, r23_2⟩ := r22
  obtain ⟨s24, A24, n24, c24, rfl, z24⟩ := r23_0
  obtain ⟨s25, A25, n25, c25, rfl, z25⟩ := r23_1
  obtain rfl := r23_2
  refine wl_move rfl rfl (by decide) ?_
  refine wl_pure rfl rfl (v := .agg #[.bool s24, .slice A24 n24 c24]) (by decide) (by kernel_rfl) ?_
  refine wl_pure rfl rfl (v := .agg #[.bool s25, .slice A25 n25 c25]) (by decide) (by kernel_rfl) ?_
  refine wl_pure rfl rfl (v := .int .i64 0) (by decide) (by kernel_rfl) ?_
  refine wl_alloc rfl (z := .agg #[.bool false, .slice none 0 0]) (vs := [.bool false, .slice none 0 0]) (fun _ => by kernel_rfl) rfl (by decide) fun g26 v27 nb => ?_
  have hb29 := nb.bk
  have ge30 : w.heap.size ≤ g26 := by rw [← nb.at_]; exact hw4.size
  have q31 : g12 < g26 := by rw [← nb.at_]; exact (hb15.ext e21).lt
  have e28 := nb.ext
  clear nb
  have hw5 : Ext w v27 := hw4.trans e28
  refine wl_alloc rfl (z := .agg #[.bool false, .slice none 0 0]) (vs := [.bool false, .slice none 0 0]) (fun _ => by kernel_rfl) rfl (by decide) fun g32 v33 nb => ?_
  have hb35 := nb.bk
  have ge36 : w.heap.size ≤ g32 := by rw [← nb.at_]; exact hw5.size
  have q37 : g26 < g32 := by rw [← nb.at_]; exact hb29.lt
  have e34 := nb.ext
  clear nb
  have hw6 : Ext w v33 := hw5.trans e34
  have hb39 := (hb29.ext e34)
  refine wl_stored rfl rfl rfl aggInt rfl hb39 (Nat.le_of_ble_eq_true rfl) rfl [.bool s24, .slice A24 n24 c24] rfl fun v38 hb40 u41 hs42 => ?_
  have hw7 : Ext w v38 := u41.ext hw6 ge30
  have hb44 := (hb35.updN u41 (by omega))
  refine wl_stored rfl rfl rfl aggInt rfl hb44 (Nat.le_of_ble_eq_true rfl) rfl [.bool s25, .slice A25 n25 c25] rfl fun v43 hb45 u46 hs47 => ?_
  have hw8 : Ext w v43 := u46.ext hw7 ge36
  refine wl_assign rfl rfl (by decide) ?_
  refine wl_nil ?_
  refine eo_then ?_
  refine cw_seq ?_
  refine cw_seq ?_
  refine cw_region ?_
  refine wl_move rfl rfl (by decide) ?_
  refine wl_pure rfl rfl (v := .bool false) (by decide) (by kernel_rfl) ?_
  refine wl_nil ?_
  refine eo_then ?_
  refine cw_false rfl ?_
  refine cw_skip ?_
  refine eo_then ?_
  refine cw_seq ?_
  refine cw_seq ?_
  refine cw_region ?_
  refine wl_load rfl rfl (load_agg aggInt hb45 [.bool s25, .slice A25 n25 c25] rfl (Nat.le_of_ble_eq_true rfl) rfl) (by decide) ?_
  refine wl_call rfl rfl (vs := [.agg #[.bool s25, .slice A25 n25 c25]]) (by kernel_rfl) (by decide) (g_ref5_Sign (((z25.ext (e28.trans e34)).updT hb39 u41).updT hb44 u46).zi (z25.le (Nat.le_trans L19 (by decide)))) ?_
  rintro _ v48 ⟨xr50, rfl, r50, e49⟩
  refine ret_intro ?_
  have hw9 : Ext w v48 := hw8.trans e49
  obtain rfl := r50
  refine wl_cmp rfl rfl rfl true (scmp_ne_t (fun e => h1 (tmod_zero_iff.1 e))) (by decide) ?_
  refine wl_nil ?_
  refine eo_then ?_
  refine cw_true rfl ?_
  refine cw_seq ?_
  refine cw_region ?_
  refine wl_pure rfl rfl (v := .agg #[.bool false, .slice none 0 0]) (by decide) (by kernel_rfl) ?_
  have hb52 := ((((hb15.ext (e21.trans (e28.trans e34))).updN u41 (by omega)).updN u46 (by omega)).ext e49)
  refine wl_stored rfl rfl rfl aggInt rfl hb52 (Nat.le_of_ble_eq_true rfl) rfl [.bool false, .slice none 0 0] rfl fun v51 hb53 u54 hs55 => ?_
  have hw10 : Ext w v51 := u54.ext hw9 ge16
  refine wl_assign rfl rfl (by decide) ?_
  refine wl_nil ?_
  refine eo_then ?_
  refine cw_ret ?_
  refine eo_thenR ?_
  refine eo_ret [.agg #[.bool false, .slice none 0 0], .int .i64 8] rfl ⟨⟨_, rfl, load_agg aggInt hb53 [.bool false, .slice none 0 0] rfl (Nat.le_of_ble_eq_true rfl) rfl⟩, rfl, trivial⟩ ?_
  exact ⟨_, rfl, ⟨_, _, rfl, ⟨_, _, _, _, rfl, ((Zr.zero (w := v48) (base := w.heap.size)).updT hb52 u54)⟩, rfl⟩, hw10⟩
theorem g_ref5_Exact_not {w : World} {sa : Bool} {Aa : Option Addr} {na ca : Nat} {x : Int} {sb : Bool} {Ab : Option Addr} {nb cb : Nat} {y : Int} {b : Nat} (hb : b ≤ w.heap.size)  (hx : Zi w sa Aa na ca x) (la : na ≤ 17179869183) (hy : Zi w sb Ab nb cb y) (lb : nb ≤ 17179869183) (h0 : y ≠ 0) (h1 : x.natAbs % y.natAbs ≠ 0) :
    Calls Try.prog 44 #[.agg #[.bool sa, .slice Aa na ca], .agg #[.bool sb, .slice Ab nb cb]] w (Gv w (T2 (ZR b (0)) (Is (.int .i64 8)))) := (g_ref5_Exact_notI hx la hy lb h0 h1).mono (Gv.imp (T2.imp (ZR.imp hb) Is.imp))
end Go.Proofs.Ytmaconeeonkdgaa

namespace Go.Proofs.Ytmaconeeonkdgaa
open Go.RowKit
theorem Bez.ln_u {x y u v : Int} {N : Nat} (h : Bez x y u v) (hx : ln x ≤ N) (hy : ln y ≤ N) : ln u ≤ N + 1 := by
  by_cases h0 : y = 0
  · rw [(h.zero h0).1]
    refine Nat.le_trans (ln_w1 (x := x.sign) ?_ ?_) (by omega) <;> (rcases Int.lt_trichotomy x 0 with h | h | h <;> simp [Int.sign_eq_neg_one_of_neg, Int.sign_eq_one_of_pos, h])
  · refine Nat.le_trans (ln_mono (y := y) ?_) (Nat.le_succ_of_le hy)
    have h1 := h.lo h0
    have h2 := h.hi h0
    have h3 : 0 < Int.gcd x y := Int.gcd_pos_of_ne_zero_right x h0
    have h4 : u * 1 ≤ u * (Int.gcd x y : Int) := Int.mul_le_mul_of_nonneg_left (by omega) h1
    omega
theorem Bez.ln_v {x y u v : Int} {N : Nat} (h : Bez x y u v) (hx : ln x ≤ N) (hy : ln y ≤ N) : ln v ≤ N + 1 := by
  by_cases h0 : y = 0
  · rw [(h.zero h0).2, ln_zero]; omega
  · refine Nat.le_trans (ln_mono (y := x.natAbs + 1) ?_) (Nat.le_trans (ln_add (a := N) (b := 1) (by rw [ln_abs]; exact hx) (by rw [ln_one]; exact Nat.le_refl _)) ?_)
    · have h1 := h.lo h0
      have h2 := h.hi h0
      have h3 : 0 < Int.gcd x y := Int.gcd_pos_of_ne_zero_right x h0
      have e := h.eq
      have h4 : u * 1 ≤ u * (Int.gcd x y : Int) := Int.mul_le_mul_of_nonneg_left (by omega) h1
      have h5 : u.natAbs ≤ y.natAbs := by omega
      have hgy : Int.gcd x y ≤ y.natAbs := Nat.le_of_dvd (by omega) (Int.gcd_dvd_natAbs_right x y)
      have h6 : (y * v).natAbs ≤ (x.natAbs + 1) * y.natAbs := by
        have e2 : y * v = Int.gcd x y - x * u := by omega
        have h7 : (x * u).natAbs ≤ x.natAbs * y.natAbs := by rw [Int.natAbs_mul]; exact Nat.mul_le_mul_left _ h5
        rw [e2, Nat.add_mul, Nat.one_mul]
        omega
      rw [Int.natAbs_mul, Nat.mul_comm] at h6
      have h8 := Nat.le_of_mul_le_mul_right h6 (by omega)
      omega
    · refine Nat.le_of_eq ?_
      have : 1 ≤ N := by
        refine Nat.pos_of_ne_zero fun hN => h0 ?_
        have h1 : ln y = 0 := by omega
        have := len_wd_zero.1 (show (wd y.natAbs).length = 0 from h1)
        omega
      omega
end Go.Proofs.Ytmaconeeonkdgaa

namespace Go.Proofs.Ytmaconeeonkdgaa
open Go.RowKit
theorem bool_of {w : World} {c : Bool} (e : Ending) (w' : World) (h : Gv w (Is (.bool c)) e w') : BoolP c w e w' := by
  obtain ⟨v, rfl, h1, h2⟩ := h
  exact ⟨by rw [h1], h2⟩
end Go.Proofs.Ytmaconeeonkdgaa

namespace Go.Proofs.Ytmaconeeonkdgaa
open Go.RowKit
theorem ln_w64 {x : Nat} (h : x ≤ 18446744073709551615) : ln ((x : Nat) : Int) ≤ 1 := ln_w1 (by omega) (by omega)
theorem ZO.zr {b x : Nat} (hx : x ≤ 18446744073709551615) (h0 : x ≠ 0) (v : Value) (w : World) (h : ZO b x v w) : ZR b (x : Int) v w := by
  obtain ⟨A, rfl, ho⟩ := h
  exact ⟨_, _, _, _, rfl, Zr_nat (len1 hx h0) (own1_wd ho hx h0)⟩
theorem ZO.imp {b b' x : Nat} (hb : b ≤ b') (v : Value) (w : World) (h : ZO b' x v w) : ZO b x v w := by
  obtain ⟨A, rfl, ho⟩ := h
  exact ⟨A, rfl, ho.mono hb⟩
theorem g_same {w : World} {b b' : Nat} {A B : Option Addr} {n c m d k : Nat} (hx : Own w b 47 1 A n c ((wd k).map W64)) (hl : n ≤ 1099511627776) (hy : Own w b' 47 1 B m d ((wd k).map W64)) (hl' : m ≤ 1099511627776) :
    Calls Try.prog 58 #[.slice A n c, .slice B m d] w (Gv w (Is (.bool true))) := by
  have h := ref1_Same (hx.rd (Wf_wd _)) hl (hy.rd (Wf_wd _)) hl'
  rw [decide_eq_true rfl] at h
  exact h.mono gbool
theorem cmp3_lt_t {x y : Nat} (h : x < y) : cmpB .lss (cmp3 x y) 0 = some true := lt_t (cmp3_neg.2 h)
theorem wd_topI {x : Int} (h : x ≠ 0) : (wd x.natAbs).getD (ln x - 1) 0 ≠ 0 := by
  have h1 := db_top (b := WB) (by decide) x.natAbs
  rw [← wd_db] at h1
  have h2 : (wd x.natAbs).length ≠ 0 := fun e => h (ln_eq_zero e)
  rcases h1 with h1 | h1
  · exact absurd h1 h2
  · exact h1
theorem wakes_nums {u v : Int} (h : Bez 12 18 u v) : (Int.gcd 12 18 : Int) = 6 ∧ u = 2 ∧ v = -1 := by
  have h1 := h.eq
  have h2 := h.lo (by decide)
  have h3 := h.hi (by decide)
  have e : (Int.gcd 12 18 : Int) = 6 := by decide +kernel
  rw [e] at h1 h3
  have e2 : Int.natAbs 18 = 18 := rfl
  rw [e2] at h3
  refine ⟨e, ?_, ?_⟩ <;> omega
set_option maxHeartbeats 4000000 in
theorem g_law6_ofI {w : World} {x : Nat} (hx : x ≤ 18446744073709551615)  :
    Calls Try.prog 29 #[.int .u64 ((x : Nat) : Int)] w (Gv w (ZO w.heap.size (x))) := by
  refine sx_enter Try.func29 rfl (n := 6) rfl (Nat.le_of_ble_eq_true rfl) (args := [.int .u64 ((x : Nat) : Int)]) ?_
  refine cw_keep [(0, .int .u64 ((x : Nat) : Int))] ⟨rfl, trivial⟩ ?_
  refine cw_seq ?_
  refine cw_region ?_
  refine wl_alloc rfl (z := .agg #[.bool false, .slice none 0 0]) (vs := [.bool false, .slice none 0 0]) (fun _ => by kernel_rfl) rfl (by decide) fun g1 v2 nb => ?_
  have hb4 := nb.bk
  have ge5 : w.heap.size ≤ g1 := by rw [← nb.at_]; exact (Ext.refl w).size
  have e3 := nb.ext
  clear nb
  have hw1 : Ext w v2 := (Ext.refl w).trans e3
  refine wl_nil ?_
  refine eo_then ?_
  refine cw_seq ?_
  refine cw_region ?_
  refine wl_move rfl rfl (by decide) ?_
  refine wl_bslice rfl rfl (by decide) (k := 1) (e := 47) [.int .u64 ((x : Nat) : Int)] (fun _ => by kernel_rfl) fun g6 v7 nb8 => ?_
  have o9 := O1.mk_ (x := x) (b := w.heap.size) nb8 hw1.size
  have e10 := nb8.ext
  have hw2 : Ext w v7 := hw1.trans e10
  refine wl_pure rfl rfl (v := .agg #[.bool false, .slice (some ⟨g6, 0, none⟩) 1 1]) (by decide) (by kernel_rfl) ?_
  have hb14 := (hb4.ext e10)
  refine wl_stored rfl rfl rfl aggInt rfl hb14 (Nat.le_of_ble_eq_true rfl) rfl [.bool false, .slice (some ⟨g6, 0, none⟩) 1 1] rfl fun v13 hb15 u16 hs17 => ?_
  have hw3 : Ext w v13 := u16.ext hw2 ge5
  refine wl_nil ?_
  refine eo_then ?_
  refine cw_ret ?_
  refine eo_ret [.agg #[.bool false, .slice (some ⟨g6, 0, none⟩) 1 1]] rfl ⟨⟨_, rfl, load_agg aggInt hb15 [.bool false, .slice (some ⟨g6, 0, none⟩) 1 1] rfl (Nat.le_of_ble_eq_true rfl) rfl⟩, trivial⟩ ?_
  exact ⟨_, rfl, ⟨_, rfl, (o9.updT hb14 (by decide) u16)⟩, hw3⟩
theorem g_law6_of {w : World} {x : Nat} {b : Nat} (hb : b ≤ w.heap.size)  (hx : x ≤ 18446744073709551615)  :
    Calls Try.prog 29 #[.int .u64 ((x : Nat) : Int)] w (Gv w (ZO b (x))) := (g_law6_ofI hx).mono (Gv.imp (ZO.imp hb))
set_option maxHeartbeats 4000000 in
theorem g_law6_alike {w : World} {b1 b2 : Nat} {sa sb : Bool} {Aa Ab : Option Addr} {na ca nb cb : Nat} {x : Int} (ha : Zr w b1 sa Aa na ca x) (la : na ≤ 1099511627776) (hb : Zr w b2 sb Ab nb cb x) (lb : nb ≤ 1099511627776)  :
    Calls Try.prog 31 #[.agg #[.bool sa, .slice Aa na ca], .agg #[.bool sb, .slice Ab nb cb]] w (Gv w (Is (.bool true))) := by
  refine sx_enter Try.func31 rfl (n := 19) rfl (Nat.le_of_ble_eq_true rfl) (args := [.agg #[.bool sa, .slice Aa na ca], .agg #[.bool sb, .slice Ab nb cb]]) ?_
  refine cw_keep [(0, .agg #[.bool sa, .slice Aa na ca]), (1, .agg #[.bool sb, .slice Ab nb cb])] ⟨rfl, rfl, trivial⟩ ?_
  refine cw_seq ?_
  refine cw_region ?_
  refine wl_box rfl rfl (vs := [.bool sa, .slice Aa na ca]) rfl (by decide) fun g1 v2 nb => ?_
  have hb4 := nb.bk
  have ge5 : w.heap.size ≤ g1 := by rw [← nb.at_]; exact (Ext.refl w).size
  have e3 := nb.ext
  clear nb
  have hw1 : Ext w v2 := (Ext.refl w).trans e3
  refine wl_box rfl rfl (vs := [.bool sb, .slice Ab nb cb]) rfl (by decide) fun g6 v7 nb => ?_
  have hb9 := nb.bk
  have ge10 : w.heap.size ≤ g6 := by rw [← nb.at_]; exact hw1.size
  have q11 : g1 < g6 := by rw [← nb.at_]; exact hb4.lt
  have e8 := nb.ext
  clear nb
  have hw2 : Ext w v7 := hw1.trans e8
  refine wl_assign rfl rfl (by decide) ?_
  refine wl_nil ?_
  refine eo_then ?_
  refine cw_seq ?_
  refine cw_region ?_
  refine wl_pure rfl rfl (v := .pointer (some ⟨g1, 1, none⟩)) (by decide) (by kernel_rfl) ?_
  refine wl_load rfl rfl (load_cell cellWords (hb4.ext e8) rfl) (by decide) ?_
  refine wl_pure rfl rfl (v := .pointer (some ⟨g6, 1, none⟩)) (by decide) (by kernel_rfl) ?_
  refine wl_load rfl rfl (load_cell cellWords hb9 rfl) (by decide) ?_
  refine wl_call rfl rfl (vs := [.slice Aa na ca, .slice Ab nb cb]) (by kernel_rfl) (by decide) (g_same (ha.ext (e3.trans e8)).own la (hb.ext (e3.trans e8)).own lb) ?_
  rintro _ v12 ⟨xr14, rfl, r14, e13⟩
  refine ret_intro ?_
  have hw3 : Ext w v12 := hw2.trans e13
  obtain rfl := r14
  refine wl_assign rfl rfl (by decide) ?_
  refine wl_nil ?_
  refine eo_then ?_
  refine cw_seq ?_
  refine cw_region ?_
  refine wl_move rfl rfl (by decide) ?_
  refine wl_move rfl rfl (by decide) ?_
  refine wl_pure rfl rfl (v := .pointer (some ⟨g1, 0, none⟩)) (by decide) (by kernel_rfl) ?_
  refine wl_load rfl rfl (load_cell cellBool (hb4.ext (e8.trans e13)) rfl) (by decide) ?_
  refine wl_pure rfl rfl (v := .pointer (some ⟨g6, 0, none⟩)) (by decide) (by kernel_rfl) ?_
  refine wl_load rfl rfl (load_cell cellBool (hb9.ext e13) rfl) (by decide) ?_
  refine wl_pure rfl rfl (v := .bool (sa == sb)) (by decide) (by kernel_rfl) ?_
  refine wl_pure rfl rfl (v := .bool (sa == sb)) (by decide) (by kernel_rfl) ?_
  refine wl_assign rfl rfl (by decide) ?_
  refine wl_nil ?_
  refine eo_then ?_
  refine cw_ret ?_
  refine eo_ret [.bool (sa == sb)] rfl ⟨rfl, trivial⟩ ?_
  exact ⟨_, rfl, (show Value.bool (sa == sb) = .bool true by rw [ha.sgn, hb.sgn, beq_self_eq_true]), hw3⟩
set_option maxHeartbeats 4000000 in
theorem g_law6_least {w : World} {b1 : Nat} {sa : Bool} {Aa : Option Addr} {na ca : Nat} {x : Int} (ha : Zr w b1 sa Aa na ca x)  :
    Calls Try.prog 32 #[.agg #[.bool sa, .slice Aa na ca]] w (Gv w (Is (.bool true))) := by
  refine sx_enter Try.func32 rfl (n := 27) rfl (Nat.le_of_ble_eq_true rfl) (args := [.agg #[.bool sa, .slice Aa na ca]]) ?_
  refine cw_keep [(0, .agg #[.bool sa, .slice Aa na ca])] ⟨rfl, trivial⟩ ?_
  refine cw_seq ?_
  refine cw_region ?_
  refine wl_box rfl rfl (vs := [.bool sa, .slice Aa na ca]) rfl (by decide) fun g1 v2 nb => ?_
  have hb4 := nb.bk
  have ge5 : w.heap.size ≤ g1 := by rw [← nb.at_]; exact (Ext.refl w).size
  have e3 := nb.ext
  clear nb
  have hw1 : Ext w v2 := (Ext.refl w).trans e3
  refine wl_assign rfl rfl (by decide) ?_
  refine wl_nil ?_
  refine eo_then ?_
  refine cw_seq ?_
  have hn := ha.len
  have hle := ha.rd.rv.le
  by_cases hx0 : x = 0
  ·
    have hn0 : na = 0 := by rw [hn, hx0]; rfl
    obtain rfl : sa = false := by rw [ha.sgn, hx0]; rfl
    refine cw_region ?_
    refine wl_pure rfl rfl (v := .pointer (some ⟨g1, 1, none⟩)) (by decide) (by kernel_rfl) ?_
    refine wl_load rfl rfl (load_cell cellWords hb4 rfl) (by decide) ?_
    refine wl_pure rfl rfl (v := .int .i64 ((na : Nat) : Int)) (by decide) (by kernel_rfl) ?_
    refine wl_assign rfl rfl (by decide) ?_
    refine wl_nil ?_
    refine eo_then ?_
    refine cw_seq ?_
    refine cw_region ?_
    refine wl_move rfl rfl (by decide) ?_
    refine wl_cmp rfl rfl rfl true (eq_t (by omega)) (by decide) ?_
    refine wl_move rfl rfl (by decide) ?_
    refine wl_pure rfl rfl (v := .pointer (some ⟨g1, 0, none⟩)) (by decide) (by kernel_rfl) ?_
    refine wl_load rfl rfl (load_cell cellBool hb4 rfl) (by decide) ?_
    refine wl_pure rfl rfl (v := .bool true) (by decide) (by kernel_rfl) ?_
    refine wl_pure rfl rfl (v := .bool true) (by decide) (by kernel_rfl) ?_
    refine wl_move rfl rfl (by decide) ?_
    refine wl_off rfl (by decide) ?_
    refine wl_off rfl (by decide) ?_
    refine wl_off rfl (by decide) ?_
    refine wl_off rfl (by decide) ?_
    refine wl_off rfl (by decide) ?_
    refine wl_off rfl (by decide) ?_
    refine wl_off rfl (by decide) ?_
    refine wl_off rfl (by decide) ?_
    refine wl_off rfl (by decide) ?_
    refine wl_off rfl (by decide) ?_
    refine wl_off rfl (by decide) ?_
    refine wl_pure rfl rfl (v := .bool true) (by decide) (by kernel_rfl) ?_
    refine wl_assign rfl rfl (by decide) ?_
    refine wl_nil ?_
    refine eo_then ?_
    refine cw_ret ?_
    refine eo_ret [.bool true] rfl ⟨rfl, trivial⟩ ?_
    exact ⟨_, rfl, rfl, hw1⟩
  ·
    have hn0 : na ≠ 0 := fun e => hx0 (ln_eq_zero (by rw [← hn, e]))
    have htop := wd_topI hx0
    rw [← hn] at htop
    refine cw_region ?_
    refine wl_pure rfl rfl (v := .pointer (some ⟨g1, 1, none⟩)) (by decide) (by kernel_rfl) ?_
    refine wl_load rfl rfl (load_cell cellWords hb4 rfl) (by decide) ?_
    refine wl_pure rfl rfl (v := .int .i64 ((na : Nat) : Int)) (by decide) (by kernel_rfl) ?_
    refine wl_assign rfl rfl (by decide) ?_
    refine wl_nil ?_
    refine eo_then ?_
    refine cw_seq ?_
    refine cw_region ?_
    refine wl_move rfl rfl (by decide) ?_
    refine wl_cmp rfl rfl rfl false (eq_f (by omega)) (by decide) ?_
    refine wl_move rfl rfl (by decide) ?_
    refine wl_off rfl (by decide) ?_
    refine wl_off rfl (by decide) ?_
    refine wl_off rfl (by decide) ?_
    refine wl_pure rfl rfl (v := .bool false) (by decide) (by kernel_rfl) ?_
    refine wl_move rfl rfl (by decide) ?_
    refine wl_move rfl rfl (by decide) ?_
    refine wl_cmp rfl rfl rfl true (gt_t (by omega)) (by decide) ?_
    refine wl_move rfl rfl (by decide) ?_
    refine wl_pure rfl rfl (v := .pointer (some ⟨g1, 1, none⟩)) (by decide) (by kernel_rfl) ?_
    refine wl_load rfl rfl (load_cell cellWords hb4 rfl) (by decide) ?_
    refine wl_move rfl rfl (by decide) ?_
    refine wl_ar rfl rfl rfl ((na - 1 : Nat) : Int) (ar_i64s (by omega) (by omega) (by have := ha.rd.rv.max; rw [len_maxLen] at this; omega)) (by decide) ?_
    obtain ⟨p9, hp9, hc9, hv9⟩ := (ha.ext e3).rd.at (i := na - 1) (by omega)
    refine wl_idx rfl rfl rfl un_u64 sz_u64 (na - 1) rfl (by omega) p9 hp9 (by decide) ?_
    refine wl_load rfl rfl (load_cell1 ag_u64 hc9) (by decide) ?_
    refine wl_cmp rfl rfl rfl true (ne_t (by omega)) (by decide) ?_
    refine wl_pure rfl rfl (v := .bool true) (by decide) (by kernel_rfl) ?_
    refine wl_pure rfl rfl (v := .bool true) (by decide) (by kernel_rfl) ?_
    refine wl_assign rfl rfl (by decide) ?_
    refine wl_nil ?_
    refine eo_then ?_
    refine cw_ret ?_
    refine eo_ret [.bool true] rfl ⟨rfl, trivial⟩ ?_
    exact ⟨_, rfl, rfl, hw1⟩
set_option maxHeartbeats 4000000 in
theorem g_law6_within {w : World} {sa : Bool} {Aa : Option Addr} {na ca : Nat} {x : Int} {sb : Bool} {Ab : Option Addr} {nb cb : Nat} {y : Int} (hx : Zi w sa Aa na ca x) (la : na ≤ 17179869183) (hy : Zi w sb Ab nb cb y) (lb : nb ≤ 17179869183) (h0 : 0 ≤ x) (h1 : x < y.natAbs) :
    Calls Try.prog 33 #[.agg #[.bool sa, .slice Aa na ca], .agg #[.bool sb, .slice Ab nb cb]] w (Gv w (Is (.bool true))) := by
  have Lx : ln x ≤ 17179869183 := Nat.le_trans hx.ln la
  have Ly : ln y ≤ 17179869183 := Nat.le_trans hy.ln lb
  refine sx_enter Try.func33 rfl (n := 16) rfl (Nat.le_of_ble_eq_true rfl) (args := [.agg #[.bool sa, .slice Aa na ca], .agg #[.bool sb, .slice Ab nb cb]]) ?_
  refine cw_keep [(0, .agg #[.bool sa, .slice Aa na ca]), (1, .agg #[.bool sb, .slice Ab nb cb])] ⟨rfl, rfl, trivial⟩ ?_
  refine cw_seq ?_
  refine cw_region ?_
  refine wl_box rfl rfl (vs := [.bool sa, .slice Aa na ca]) rfl (by decide) fun g1 v2 nb => ?_
  have hb4 := nb.bk
  have ge5 : w.heap.size ≤ g1 := by rw [← nb.at_]; exact (Ext.refl w).size
  have e3 := nb.ext
  clear nb
  have hw1 : Ext w v2 := (Ext.refl w).trans e3
  refine wl_box rfl rfl (vs := [.bool sb, .slice Ab nb cb]) rfl (by decide) fun g6 v7 nb => ?_
  have hb9 := nb.bk
  have ge10 : w.heap.size ≤ g6 := by rw [← nb.at_]; exact hw1.size
  have q11 : g1 < g6 := by rw [← nb.at_]; exact hb4.lt
  have e8 := nb.ext
  clear nb
  have hw2 : Ext w v7 := hw1.trans e8
  refine wl_assign rfl rfl (by decide) ?_
  refine wl_nil ?_
  refine eo_then ?_
  refine cw_seq ?_
  refine cw_region ?_
  refine wl_load rfl rfl (load_agg aggInt (hb4.ext e8) [.bool sa, .slice Aa na ca] rfl (Nat.le_of_ble_eq_true rfl) rfl) (by decide) ?_
  refine wl_call rfl rfl (vs := [.agg #[.bool sa, .slice Aa na ca]]) (by kernel_rfl) (by decide) (g_ref5_Sign (hx.ext hw2) (Nat.le_trans la (by decide))) ?_
  rintro _ v12 ⟨xr14, rfl, r14, e13⟩
  refine ret_intro ?_
  have hw3 : Ext w v12 := hw2.trans e13
  obtain rfl := r14
  refine wl_assign rfl rfl (by decide) ?_
  refine wl_nil ?_
  refine eo_then ?_
  refine cw_seq ?_
  refine cw_region ?_
  refine wl_move rfl rfl (by decide) ?_
  refine wl_cmp rfl rfl rfl true (scmp_ge_t h0) (by decide) ?_
  refine wl_move rfl rfl (by decide) ?_
  refine wl_load rfl rfl (load_agg aggInt (hb4.ext (e8.trans e13)) [.bool sa, .slice Aa na ca] rfl (Nat.le_of_ble_eq_true rfl) rfl) (by decide) ?_
  refine wl_load rfl rfl (load_agg aggInt (hb9.ext e13) [.bool sb, .slice Ab nb cb] rfl (Nat.le_of_ble_eq_true rfl) rfl) (by decide) ?_
  refine wl_call rfl rfl (vs := [.agg #[.bool sa, .slice Aa na ca], .agg #[.bool sb, .slice Ab nb cb]]) (by kernel_rfl) (by decide) (g_ref5_CmpAbs (hx.ext hw3) (Nat.le_trans la (by decide)) (hy.ext hw3) (Nat.le_trans lb (by decide))) ?_
  rintro _ v15 ⟨xr17, rfl, r17, e16⟩
  refine ret_intro ?_
  have hw4 : Ext w v15 := hw3.trans e16
  obtain rfl := r17
  refine wl_cmp rfl rfl rfl true (cmp3_lt_t (by omega)) (by decide) ?_
  refine wl_pure rfl rfl (v := .bool true) (by decide) (by kernel_rfl) ?_
  refine wl_assign rfl rfl (by decide) ?_
  refine wl_nil ?_
  refine eo_then ?_
  refine cw_ret ?_
  refine eo_ret [.bool true] rfl ⟨rfl, trivial⟩ ?_
  exact ⟨_, rfl, rfl, hw4⟩
theorem dvd_mod {x y : Int} : x ∣ y ↔ y.natAbs % x.natAbs = 0 := by rw [← Int.natAbs_dvd_natAbs]; exact Nat.dvd_iff_mod_eq_zero
set_option maxHeartbeats 4000000 in
theorem g_law6_divides {w : World} {sa : Bool} {Aa : Option Addr} {na ca : Nat} {x : Int} {sb : Bool} {Ab : Option Addr} {nb cb : Nat} {y : Int} (hx : Zi w sa Aa na ca x) (la : na ≤ 17179869183) (hy : Zi w sb Ab nb cb y) (lb : nb ≤ 17179869183) (h : x ∣ y) :
    Calls Try.prog 36 #[.agg #[.bool sa, .slice Aa na ca], .agg #[.bool sb, .slice Ab nb cb]] w (Gv w (Is (.bool true))) := by
  have Lx : ln x ≤ 17179869183 := Nat.le_trans hx.ln la
  have Ly : ln y ≤ 17179869183 := Nat.le_trans hy.ln lb
  refine sx_enter Try.func36 rfl (n := 21) rfl (Nat.le_of_ble_eq_true rfl) (args := [.agg #[.bool sa, .slice Aa na ca], .agg #[.bool sb, .slice Ab nb cb]]) ?_
  refine cw_keep [(0, .agg #[.bool sa, .slice Aa na ca]), (1, .agg #[.bool sb, .slice Ab nb cb])] ⟨rfl, rfl, trivial⟩ ?_
  refine cw_seq ?_
  refine cw_region ?_
  refine wl_box rfl rfl (vs := [.bool sa, .slice Aa na ca]) rfl (by decide) fun g1 v2 nb => ?_
  have hb4 := nb.bk
  have ge5 : w.heap.size ≤ g1 := by rw [← nb.at_]; exact (Ext.refl w).size
  have e3 := nb.ext
  clear nb
  have hw1 : Ext w v2 := (Ext.refl w).trans e3
  refine wl_box rfl rfl (vs := [.bool sb, .slice Ab nb cb]) rfl (by decide) fun g6 v7 nb => ?_
  have hb9 := nb.bk
  have ge10 : w.heap.size ≤ g6 := by rw [← nb.at_]; exact hw1.size
  have q11 : g1 < g6 := by rw [← nb.at_]; exact hb4.lt
  have e8 := nb.ext
  clear nb
  have hw2 : Ext w v7 := hw1.trans e8
  refine wl_assign rfl rfl (by decide) ?_
  refine wl_nil ?_
  refine eo_then ?_
  refine cw_seq ?_
  refine cw_seq ?_
  by_cases hx0 : x = 0
  ·
    refine cw_region ?_
    refine wl_load rfl rfl (load_agg aggInt (hb4.ext e8) [.bool sa, .slice Aa na ca] rfl (Nat.le_of_ble_eq_true rfl) rfl) (by decide) ?_
    refine wl_call rfl rfl (vs := [.agg #[.bool sa, .slice Aa na ca]]) (by kernel_rfl) (by decide) (g_ref5_Sign (hx.ext hw2) (Nat.le_trans la (by decide))) ?_
    rintro _ v12 ⟨xr14, rfl, r14, e13⟩
    refine ret_intro ?_
    have hw3 : Ext w v12 := hw2.trans e13
    obtain rfl := r14
    refine wl_cmp rfl rfl rfl true (scmp_eq_t hx0) (by decide) ?_
    refine wl_nil ?_
    refine eo_then ?_
    refine cw_true rfl ?_
    refine cw_seq ?_
    refine cw_region ?_
    refine wl_load rfl rfl (load_agg aggInt (hb9.ext e13) [.bool sb, .slice Ab nb cb] rfl (Nat.le_of_ble_eq_true rfl) rfl) (by decide) ?_
    refine wl_call rfl rfl (vs := [.agg #[.bool sb, .slice Ab nb cb]]) (by kernel_rfl) (by decide) (g_ref5_Sign (hy.ext hw3) (Nat.le_trans lb (by decide))) ?_
    rintro _ v15 ⟨xr17, rfl, r17, e16⟩
    refine ret_intro ?_
    have hw4 : Ext w v15 := hw3.trans e16
    obtain rfl := r17
    refine wl_cmp rfl rfl rfl true (scmp_eq_t (Int.zero_dvd.1 (hx0 ▸ h))) (by decide) ?_
    refine wl_assign rfl rfl (by decide) ?_
    refine wl_nil ?_
    refine eo_then ?_
    refine cw_ret ?_
    refine eo_thenR ?_
    refine eo_ret [.bool true] rfl ⟨rfl, trivial⟩ ?_
    exact ⟨_, rfl, rfl, hw4⟩
  ·
    refine cw_region ?_
    refine wl_load rfl rfl (load_agg aggInt (hb4.ext e8) [.bool sa, .slice Aa na ca] rfl (Nat.le_of_ble_eq_true rfl) rfl) (by decide) ?_
    refine wl_call rfl rfl (vs := [.agg #[.bool sa, .slice Aa na ca]]) (by kernel_rfl) (by decide) (g_ref5_Sign (hx.ext hw2) (Nat.le_trans la (by decide))) ?_
    rintro _ v18 ⟨xr20, rfl, r20, e19⟩
    refine ret_intro ?_
    have hw3 : Ext w v18 := hw2.trans e19
    obtain rfl := r20
    refine wl_cmp rfl rfl rfl false (scmp_eq_f hx0) (by decide) ?_
    refine wl_nil ?_
    refine eo_then ?_
    refine cw_false rfl ?_
    refine cw_skip ?_
    refine eo_then ?_
    refine cw_seq ?_
    refine cw_region ?_
    refine wl_load rfl rfl (load_agg aggInt (hb9.ext e19) [.bool sb, .slice Ab nb cb] rfl (Nat.le_of_ble_eq_true rfl) rfl) (by decide) ?_
    refine wl_load rfl rfl (load_agg aggInt (hb4.ext (e8.trans e19)) [.bool sa, .slice Aa na ca] rfl (Nat.le_of_ble_eq_true rfl) rfl) (by decide) ?_
    have L21 : ln (y.tdiv x) ≤ 17179869183 := Nat.le_trans (ln_tdiv _ _) Ly
    refine wl_call rfl rfl (vs := [.agg #[.bool sb, .slice Ab nb cb], .agg #[.bool sa, .slice Aa na ca]]) (by kernel_rfl) (by decide) (g_ref5_Exact_ok hw3.size (hy.ext hw3) (Nat.le_trans lb (by decide)) (hx.ext hw3) (Nat.le_trans la (by decide)) hx0 (dvd_mod.1 h)) ?_
    rintro _ v22 ⟨xr24, rfl, r24, e23⟩
    refine ret_intro ?_
    have hw4 : Ext w v22 := hw3.trans e23
    obtain ⟨a25_0, a25_1, rfl, r25_0, r25_1⟩ := r24
    obtain ⟨s26, A26, n26, c26, rfl, z26⟩ := r25_0
    obtain rfl := r25_1
    refine wl_move rfl rfl (by decide) ?_
    refine wl_pure rfl rfl (v := .agg #[.bool s26, .slice A26 n26 c26]) (by decide) (by kernel_rfl) ?_
    refine wl_pure rfl rfl (v := .int .i64 0) (by decide) (by kernel_rfl) ?_
    refine wl_alloc rfl (z := .agg #[.bool false, .slice none 0 0]) (vs := [.bool false, .slice none 0 0]) (fun _ => by kernel_rfl) rfl (by decide) fun g27 v28 nb => ?_
    have hb30 := nb.bk
    have ge31 : w.heap.size ≤ g27 := by rw [← nb.at_]; exact hw4.size
    have q32 : g6 < g27 := by rw [← nb.at_]; exact (hb9.ext (e19.trans e23)).lt
    have e29 := nb.ext
    clear nb
    have hw5 : Ext w v28 := hw4.trans e29
    have hb34 := hb30
    refine wl_stored rfl rfl rfl aggInt rfl hb34 (Nat.le_of_ble_eq_true rfl) rfl [.bool s26, .slice A26 n26 c26] rfl fun v33 hb35 u36 hs37 => ?_
    have hw6 : Ext w v33 := u36.ext hw5 ge31
    refine wl_assign rfl rfl (by decide) ?_
    refine wl_nil ?_
    refine eo_then ?_
    refine cw_seq ?_
    refine cw_region ?_
    refine wl_move rfl rfl (by decide) ?_
    refine wl_pure rfl rfl (v := .bool true) (by decide) (by kernel_rfl) ?_
    refine wl_assign rfl rfl (by decide) ?_
    refine wl_nil ?_
    refine eo_then ?_
    refine cw_ret ?_
    refine eo_ret [.bool true] rfl ⟨rfl, trivial⟩ ?_
    exact ⟨_, rfl, rfl, hw6⟩
set_option maxHeartbeats 4000000 in
theorem g_law6_divides_f {w : World} {sa : Bool} {Aa : Option Addr} {na ca : Nat} {x : Int} {sb : Bool} {Ab : Option Addr} {nb cb : Nat} {y : Int} (hx : Zi w sa Aa na ca x) (la : na ≤ 17179869183) (hy : Zi w sb Ab nb cb y) (lb : nb ≤ 17179869183) (h : ¬ x ∣ y) :
    Calls Try.prog 36 #[.agg #[.bool sa, .slice Aa na ca], .agg #[.bool sb, .slice Ab nb cb]] w (Gv w (Is (.bool false))) := by
  have Lx : ln x ≤ 17179869183 := Nat.le_trans hx.ln la
  have Ly : ln y ≤ 17179869183 := Nat.le_trans hy.ln lb
  refine sx_enter Try.func36 rfl (n := 21) rfl (Nat.le_of_ble_eq_true rfl) (args := [.agg #[.bool sa, .slice Aa na ca], .agg #[.bool sb, .slice Ab nb cb]]) ?_
  refine cw_keep [(0, .agg #[.bool sa, .slice Aa na ca]), (1, .agg #[.bool sb, .slice Ab nb cb])] ⟨rfl, rfl, trivial⟩ ?_
  refine cw_seq ?_
  refine cw_region ?_
  refine wl_box rfl rfl (vs := [.bool sa, .slice Aa na ca]) rfl (by decide) fun g1 v2 nb => ?_
  have hb4 := nb.bk
  have ge5 : w.heap.size ≤ g1 := by rw [← nb.at_]; exact (Ext.refl w).size
  have e3 := nb.ext
  clear nb
  have hw1 : Ext w v2 := (Ext.refl w).trans e3
  refine wl_box rfl rfl (vs := [.bool sb, .slice Ab nb cb]) rfl (by decide) fun g6 v7 nb => ?_
  have hb9 := nb.bk
  have ge10 : w.heap.size ≤ g6 := by rw [← nb.at_]; exact hw1.size
  have q11 : g1 < g6 := by rw [← nb.at_]; exact hb4.lt
  have e8 := nb.ext
  clear nb
  have hw2 : Ext w v7 := hw1.trans e8
  refine wl_assign rfl rfl (by decide) ?_
  refine wl_nil ?_
  refine eo_then ?_
  refine cw_seq ?_
  refine cw_seq ?_
  by_cases hx0 : x = 0
  ·
    refine cw_region ?_
    refine wl_load rfl rfl (load_agg aggInt (hb4.ext e8) [.bool sa, .slice Aa na ca] rfl (Nat.le_of_ble_eq_true rfl) rfl) (by decide) ?_
    refine wl_call rfl rfl (vs := [.agg #[.bool sa, .slice Aa na ca]]) (by kernel_rfl) (by decide) (g_ref5_Sign (hx.ext hw2) (Nat.le_trans la (by decide))) ?_
    rintro _ v12 ⟨xr14, rfl, r14, e13⟩
    refine ret_intro ?_
    have hw3 : Ext w v12 := hw2.trans e13
    obtain rfl := r14
    refine wl_cmp rfl rfl rfl true (scmp_eq_t hx0) (by decide) ?_
    refine wl_nil ?_
    refine eo_then ?_
    refine cw_true rfl ?_
    refine cw_seq ?_
    refine cw_region ?_
    refine wl_load rfl rfl (load_agg aggInt (hb9.ext e13) [.bool sb, .slice Ab nb cb] rfl (Nat.le_of_ble_eq_true rfl) rfl) (by decide) ?_
    refine wl_call rfl rfl (vs := [.agg #[.bool sb, .slice Ab nb cb]]) (by kernel_rfl) (by decide) (g_ref5_Sign (hy.ext hw3) (Nat.le_trans lb (by decide))) ?_
    rintro _ v15 ⟨xr17, rfl, r17, e16⟩
    refine ret_intro ?_
    have hw4 : Ext w v15 := hw3.trans e16
    obtain rfl := r17
    refine wl_cmp rfl rfl rfl false (scmp_eq_f (fun e => h (by rw [hx0, e]; exact Int.dvd_refl 0))) (by decide) ?_
    refine wl_assign rfl rfl (by decide) ?_
    refine wl_nil ?_
    refine eo_then ?_
    refine cw_ret ?_
    refine eo_thenR ?_
    refine eo_ret [.bool false] rfl ⟨rfl, trivial⟩ ?_
    exact ⟨_, rfl, rfl, hw4⟩
  ·
    refine cw_region ?_
    refine wl_load rfl rfl (load_agg aggInt (hb4.ext e8) [.bool sa, .slice Aa na ca] rfl (Nat.le_of_ble_eq_true rfl) rfl) (by decide) ?_
    refine wl_call rfl rfl (vs := [.agg #[.bool sa, .slice Aa na ca]]) (by kernel_rfl) (by decide) (g_ref5_Sign (hx.ext hw2) (Nat.le_trans la (by decide))) ?_
    rintro _ v18 ⟨xr20, rfl, r20, e19⟩
    refine ret_intro ?_
    have hw3 : Ext w v18 := hw2.trans e19
    obtain rfl := r20
    refine wl_cmp rfl rfl rfl false (scmp_eq_f hx0) (by decide) ?_
    refine wl_nil ?_
    refine eo_then ?_
    refine cw_false rfl ?_
    refine cw_skip ?_
    refine eo_then ?_
    refine cw_seq ?_
    refine cw_region ?_
    refine wl_load rfl rfl (load_agg aggInt (hb9.ext e19) [.bool sb, .slice Ab nb cb] rfl (Nat.le_of_ble_eq_true rfl) rfl) (by decide) ?_
    refine wl_load rfl rfl (load_agg aggInt (hb4.ext (e8.trans e19)) [.bool sa, .slice Aa na ca] rfl (Nat.le_of_ble_eq_true rfl) rfl) (by decide) ?_
    refine wl_call rfl rfl (vs := [.agg #[.bool sb, .slice Ab nb cb], .agg #[.bool sa, .slice Aa na ca]]) (by kernel_rfl) (by decide) (g_ref5_Exact_not hw3.size (hy.ext hw3) (Nat.le_trans lb (by decide)) (hx.ext hw3) (Nat.le_trans la (by decide)) hx0 (fun e => h (dvd_mod.2 e))) ?_
    rintro _ v21 ⟨xr23, rfl, r23, e22⟩
    refine ret_intro ?_
    have hw4 : Ext w v21 := hw3.trans e22
    obtain ⟨a24_0, a24_1, rfl, r24_0, r24_1⟩ := r23
    obtain ⟨s25, A25, n25, c25, rfl, z25⟩ := r24_0
    obtain rfl := r24_1
    refine wl_move rfl rfl (by decide) ?_
    refine wl_pure rfl rfl (v := .agg #[.bool s25, .slice A25 n25 c25]) (by decide) (by kernel_rfl) ?_
    refine wl_pure rfl rfl (v := .int .i64 8) (by decide) (by kernel_rfl) ?_
    refine wl_alloc rfl (z := .agg #[.bool false, .slice none 0 0]) (vs := [.bool false, .slice none 0 0]) (fun _ => by kernel_rfl) rfl (by decide) fun g26 v27 nb => ?_
    have hb29 := nb.bk
    have ge30 : w.heap.size ≤ g26 := by rw [← nb.at_]; exact hw4.size
    have q31 : g6 < g26 := by rw [← nb.at_]; exact (hb9.ext (e19.trans e22)).lt
    have e28 := nb.ext
    clear nb
    have hw5 : Ext w v27 := hw4.trans e28
    have hb33 := hb29
    refine wl_stored rfl rfl rfl aggInt rfl hb33 (Nat.le_of_ble_eq_true rfl) rfl [.bool s25, .slice A25 n25 c25] rfl fun v32 hb34 u35 hs36 => ?_
    have hw6 : Ext w v32 := u35.ext hw5 ge30
    refine wl_assign rfl rfl (by decide) ?_
    refine wl_nil ?_
    refine eo_then ?_
    refine cw_seq ?_
    refine cw_region ?_
    refine wl_move rfl rfl (by decide) ?_
    refine wl_pure rfl rfl (v := .bool false) (by decide) (by kernel_rfl) ?_
    refine wl_assign rfl rfl (by decide) ?_
    refine wl_nil ?_
    refine eo_then ?_
    refine cw_ret ?_
    refine eo_ret [.bool false] rfl ⟨rfl, trivial⟩ ?_
    exact ⟨_, rfl, rfl, hw6⟩
set_option maxHeartbeats 4000000 in
theorem g_law6_wakes (w : World)  :
    Calls Try.prog 27 #[] w (Gv w (Is (.bool true))) := by
  refine sx_enter Try.func27 rfl (n := 25) rfl (Nat.le_of_ble_eq_true rfl) (args := []) ?_
  refine cw_keep [] trivial ?_
  refine cw_seq ?_
  refine cw_region ?_
  refine wl_assign rfl rfl (by decide) ?_
  refine wl_nil ?_
  refine eo_then ?_
  refine cw_seq ?_
  refine cw_region ?_
  refine wl_call rfl rfl (vs := [.int .u64 12]) (by kernel_rfl) (by decide) ((g_law6_of (Ext.refl w).size (by decide : 12 ≤ 18446744073709551615)).mono (Gv.imp (ZO.zr (by decide : 12 ≤ 18446744073709551615) (by decide : 12 ≠ 0)))) ?_
  rintro _ v1 ⟨xr3, rfl, r3, e2⟩
  refine ret_intro ?_
  have hw1 : Ext w v1 := (Ext.refl w).trans e2
  obtain ⟨s4, A4, n4, c4, rfl, z4⟩ := r3
  refine wl_call rfl rfl (vs := [.int .u64 18]) (by kernel_rfl) (by decide) ((g_law6_of hw1.size (by decide : 18 ≤ 18446744073709551615)).mono (Gv.imp (ZO.zr (by decide : 18 ≤ 18446744073709551615) (by decide : 18 ≠ 0)))) ?_
  rintro _ v5 ⟨xr7, rfl, r7, e6⟩
  refine ret_intro ?_
  have hw2 : Ext w v5 := hw1.trans e6
  obtain ⟨s8, A8, n8, c8, rfl, z8⟩ := r7
  refine wl_call rfl rfl (vs := [.agg #[.bool s4, .slice A4 n4 c4], .agg #[.bool s8, .slice A8 n8 c8]]) (by kernel_rfl) (by decide) (g_bezout_Ext hw2.size (z4.ext e6).zi (z4.le (Nat.le_trans (ln_w64 (by decide : 12 ≤ 18446744073709551615)) (by decide))) z8.zi (z8.le (Nat.le_trans (ln_w64 (by decide : 18 ≤ 18446744073709551615)) (by decide)))) ?_
  rintro _ v9 ⟨u12, v13, p14, xr11, rfl, r11, e10⟩
  have L15 : ln ((Int.gcd ((12 : Nat) : Int) ((18 : Nat) : Int) : Int)) ≤ 1 := Nat.le_trans (ln_gcd _ _) (Nat.max_le.2 ⟨Nat.le_trans (ln_w64 (by decide : 12 ≤ 18446744073709551615)) (by decide), Nat.le_trans (ln_w64 (by decide : 18 ≤ 18446744073709551615)) (by decide)⟩)
  have L16 : ln (u12) ≤ 2 := (p14.ln_u (ln_w64 (by decide : 12 ≤ 18446744073709551615)) (ln_w64 (by decide : 18 ≤ 18446744073709551615)))
  have L17 : ln (v13) ≤ 2 := (p14.ln_v (ln_w64 (by decide : 12 ≤ 18446744073709551615)) (ln_w64 (by decide : 18 ≤ 18446744073709551615)))
  refine ret_intro ?_
  have hw3 : Ext w v9 := hw2.trans e10
  obtain ⟨a18_0, a18_1, a18_2, rfl, r18_0, r18_1, r18_2⟩ := r11
  obtain ⟨s19, A19, n19, c19, rfl, z19⟩ := r18_0
  obtain ⟨s20, A20, n20, c20, rfl, z20⟩ := r18_1
  obtain ⟨s21, A21, n21, c21, rfl, z21⟩ := r18_2
  refine wl_move rfl rfl (by decide) ?_
  refine wl_pure rfl rfl (v := .agg #[.bool s19, .slice A19 n19 c19]) (by decide) (by kernel_rfl) ?_
  refine wl_pure rfl rfl (v := .agg #[.bool s20, .slice A20 n20 c20]) (by decide) (by kernel_rfl) ?_
  refine wl_pure rfl rfl (v := .agg #[.bool s21, .slice A21 n21 c21]) (by decide) (by kernel_rfl) ?_
  refine wl_alloc rfl (z := .agg #[.bool false, .slice none 0 0]) (vs := [.bool false, .slice none 0 0]) (fun _ => by kernel_rfl) rfl (by decide) fun g22 v23 nb => ?_
  have hb25 := nb.bk
  have ge26 : w.heap.size ≤ g22 := by rw [← nb.at_]; exact hw3.size
  have e24 := nb.ext
  clear nb
  have hw4 : Ext w v23 := hw3.trans e24
  refine wl_alloc rfl (z := .agg #[.bool false, .slice none 0 0]) (vs := [.bool false, .slice none 0 0]) (fun _ => by kernel_rfl) rfl (by decide) fun g27 v28 nb => ?_
  have hb30 := nb.bk
  have ge31 : w.heap.size ≤ g27 := by rw [← nb.at_]; exact hw4.size
  have q32 : g22 < g27 := by rw [← nb.at_]; exact hb25.lt
  have e29 := nb.ext
  clear nb
  have hw5 : Ext w v28 := hw4.trans e29
  refine wl_alloc rfl (z := .agg #[.bool false, .slice none 0 0]) (vs := [.bool false, .slice none 0 0]) (fun _ => by kernel_rfl) rfl (by decide) fun g33 v34 nb => ?_
  have hb36 := nb.bk
  have ge37 : w.heap.size ≤ g33 := by rw [← nb.at_]; exact hw5.size
  have q38 : g27 < g33 := by rw [← nb.at_]; exact hb30.lt
  have e35 := nb.ext
  clear nb
  have hw6 : Ext w v34 := hw5.trans e35
  have hb40 := (hb25.ext (e29.trans e35))
  refine wl_stored rfl rfl rfl aggInt rfl hb40 (Nat.le_of_ble_eq_true rfl) rfl [.bool s19, .slice A19 n19 c19] rfl fun v39 hb41 u42 hs43 => ?_
  have hw7 : Ext w v39 := u42.ext hw6 ge26
  have hb45 := ((hb30.ext e35).updN u42 (by omega))
  refine wl_stored rfl rfl rfl aggInt rfl hb45 (Nat.le_of_ble_eq_true rfl) rfl [.bool s20, .slice A20 n20 c20] rfl fun v44 hb46 u47 hs48 => ?_
  have hw8 : Ext w v44 := u47.ext hw7 ge31
  have hb50 := ((hb36.updN u42 (by omega)).updN u47 (by omega))
  refine wl_stored rfl rfl rfl aggInt rfl hb50 (Nat.le_of_ble_eq_true rfl) rfl [.bool s21, .slice A21 n21 c21] rfl fun v49 hb51 u52 hs53 => ?_
  have hw9 : Ext w v49 := u52.ext hw8 ge37
  refine wl_nil ?_
  refine eo_then ?_
  refine cw_seq ?_
  obtain ⟨wk1, wk2, wk3⟩ := wakes_nums p14
  refine cw_draw mix 14 [] [Is (.agg #[.bool s19, .slice A19 n19 c19]), ZR w.heap.size (((6 : Nat) : Int)), Is (.bool true), Is (.bool true), Is (.agg #[.bool s20, .slice A20 n20 c20]), ZR w.heap.size (((2 : Nat) : Int)), Is (.bool true), Is (.bool true), Is (.bool true), Is (.agg #[.bool s21, .slice A21 n21 c21]), WR w.heap.size (1), ZR w.heap.size (-((1 : Nat) : Int)), Is (.bool true), Is (.bool true)] [[], [], [0, 1], [2], [3], [3], [3, 4, 5], [3, 6], [7], [8], [8], [8, 10], [8, 9, 11], [8, 12]] [[], [], [0, 1], [0, 1, 2], [0, 1, 2, 3], [0, 1, 2, 3], [0, 1, 2, 3, 4, 5], [0, 1, 2, 3, 4, 5, 6], [0, 1, 2, 3, 4, 5, 6, 7], [0, 1, 2, 3, 4, 5, 6, 7, 8], [0, 1, 2, 3, 4, 5, 6, 7, 8], [0, 1, 2, 3, 4, 5, 6, 7, 8, 10], [0, 1, 2, 3, 4, 5, 6, 7, 8, 9, 10, 11], [0, 1, 2, 3, 4, 5, 6, 7, 8, 9, 10, 11, 12], [0, 1, 2, 3, 4, 5, 6, 7, 8, 9, 10, 11, 12, 13]] rfl
    (obs_cons rfl rfl (hob rfl rfl ?_) (obs_cons rfl rfl (hob rfl rfl ?_) (obs_cons rfl rfl (hob rfl rfl ?_) (obs_cons rfl rfl (hob rfl rfl ?_) (obs_cons rfl rfl (hob rfl rfl ?_) (obs_cons rfl rfl (hob rfl rfl ?_) (obs_cons rfl rfl (hob rfl rfl ?_) (obs_cons rfl rfl (hob rfl rfl ?_) (obs_cons rfl rfl (hob rfl rfl ?_) (obs_cons rfl rfl (hob rfl rfl ?_) (obs_cons rfl rfl (hob rfl rfl ?_) (obs_cons rfl rfl (hob rfl rfl ?_) (obs_cons rfl rfl (hob rfl rfl ?_) (obs_cons rfl rfl (hob rfl rfl ?_) obs_nil)))))))))))))) ?_
  · -- 0
    intro v58 e59
    have hw10 : Ext w v58 := hw9.trans e59
    refine deps_nil ?_
    refine wl_load rfl rfl (load_agg aggInt (((hb41.updN u47 (by omega)).updN u52 (by omega)).ext e59) [.bool s19, .slice A19 n19 c19] rfl (Nat.le_of_ble_eq_true rfl) rfl) (by decide) ?_
    exact pi_done rfl (Ext.refl _) rfl
  · -- 1
    intro v60 e61
    have hw10 : Ext w v60 := hw9.trans e61
    refine deps_nil ?_
    refine wl_call rfl rfl (vs := [.int .u64 6]) (by kernel_rfl) (by decide) ((g_law6_of hw10.size (by decide : 6 ≤ 18446744073709551615)).mono (Gv.imp (ZO.zr (by decide : 6 ≤ 18446744073709551615) (by decide : 6 ≠ 0)))) ?_
    rintro _ v62 ⟨xr64, rfl, r64, e63⟩
    refine ret_intro ?_
    have hw11 : Ext w v62 := hw10.trans e63
    obtain ⟨s65, A65, n65, c65, rfl, z65⟩ := r64
    exact pi_done rfl e63 ⟨_, _, _, _, rfl, z65⟩
  · -- 2
    intro v66 e67
    have hw10 : Ext w v66 := hw9.trans e67
    refine deps_cons rfl rfl fun x68 y69 h70 e71 f72 => ?_
    obtain rfl := h70
    refine deps_cons rfl rfl fun x73 y74 h75 e76 f77 => ?_
    obtain ⟨s78, A78, n78, c78, rfl, z78⟩ := h75
    have z78 := z78.ext f77
    refine deps_nil ?_
    refine wl_call rfl rfl (vs := [.agg #[.bool s19, .slice A19 n19 c19], .agg #[.bool s78, .slice A78 n78 c78]]) (by kernel_rfl) (by decide) (g_law6_alike (((((z19.ext (e24.trans (e29.trans e35))).updT hb40 u42).updT hb45 u47).updT hb50 u52).ext e67) (z19.le (Nat.le_trans L15 (by decide))) (z78.cast (by first | exact wk1.symm | exact wk2.symm | exact wk3.symm)) (z78.le (Nat.le_trans (ln_w64 (by decide : 6 ≤ 18446744073709551615)) (by decide)))) ?_
    rintro _ v79 ⟨xr81, rfl, r81, e80⟩
    refine ret_intro ?_
    have hw11 : Ext w v79 := hw10.trans e80
    obtain rfl := r81
    exact pi_done rfl e80 rfl
  · -- 3
    intro v82 e83
    have hw10 : Ext w v82 := hw9.trans e83
    refine deps_cons rfl rfl fun x84 y85 h86 e87 f88 => ?_
    obtain rfl := h86
    refine deps_nil ?_
    refine wl_move rfl rfl (by decide) ?_
    exact pi_done rfl (Ext.refl _) rfl
  · -- 4
    intro v89 e90
    have hw10 : Ext w v89 := hw9.trans e90
    refine deps_cons rfl rfl fun x91 y92 h93 e94 f95 => ?_
    obtain rfl := h93
    refine deps_nil ?_
    refine wl_load rfl rfl (load_agg aggInt ((hb46.updN u52 (by omega)).ext e90) [.bool s20, .slice A20 n20 c20] rfl (Nat.le_of_ble_eq_true rfl) rfl) (by decide) ?_
    exact pi_done rfl (Ext.refl _) rfl
  · -- 5
    intro v96 e97
    have hw10 : Ext w v96 := hw9.trans e97
    refine deps_cons rfl rfl fun x98 y99 h100 e101 f102 => ?_
    obtain rfl := h100
    refine deps_nil ?_
    refine wl_call rfl rfl (vs := [.int .u64 2]) (by kernel_rfl) (by decide) ((g_law6_of hw10.size (by decide : 2 ≤ 18446744073709551615)).mono (Gv.imp (ZO.zr (by decide : 2 ≤ 18446744073709551615) (by decide : 2 ≠ 0)))) ?_
    rintro _ v103 ⟨xr105, rfl, r105, e104⟩
    refine ret_intro ?_
    have hw11 : Ext w v103 := hw10.trans e104
    obtain ⟨s106, A106, n106, c106, rfl, z106⟩ := r105
    exact pi_done rfl e104 ⟨_, _, _, _, rfl, z106⟩
  · -- 6
    intro v107 e108
    have hw10 : Ext w v107 := hw9.trans e108
    refine deps_cons rfl rfl fun x109 y110 h111 e112 f113 => ?_
    obtain rfl := h111
    refine deps_cons rfl rfl fun x114 y115 h116 e117 f118 => ?_
    obtain rfl := h116
    refine deps_cons rfl rfl fun x119 y120 h121 e122 f123 => ?_
    obtain ⟨s124, A124, n124, c124, rfl, z124⟩ := h121
    have z124 := z124.ext f123
    refine deps_nil ?_
    refine wl_call rfl rfl (vs := [.agg #[.bool s20, .slice A20 n20 c20], .agg #[.bool s124, .slice A124 n124 c124]]) (by kernel_rfl) (by decide) (g_law6_alike (((((z20.ext (e24.trans (e29.trans e35))).updT hb40 u42).updT hb45 u47).updT hb50 u52).ext e108) (z20.le (Nat.le_trans L16 (by decide))) (z124.cast (by first | exact wk1.symm | exact wk2.symm | exact wk3.symm)) (z124.le (Nat.le_trans (ln_w64 (by decide : 2 ≤ 18446744073709551615)) (by decide)))) ?_
    rintro _ v125 ⟨xr127, rfl, r127, e126⟩
    refine ret_intro ?_
    have hw11 : Ext w v125 := hw10.trans e126
    obtain rfl := r127
    exact pi_done rfl e126 rfl
  · -- 7
    intro v128 e129
    have hw10 : Ext w v128 := hw9.trans e129
    refine deps_cons rfl rfl fun x130 y131 h132 e133 f134 => ?_
    obtain rfl := h132
    refine deps_cons rfl rfl fun x135 y136 h137 e138 f139 => ?_
    obtain rfl := h137
    refine deps_nil ?_
    refine wl_pure rfl rfl (v := .bool true) (by decide) (by kernel_rfl) ?_
    exact pi_done rfl (Ext.refl _) rfl
  · -- 8
    intro v140 e141
    have hw10 : Ext w v140 := hw9.trans e141
    refine deps_cons rfl rfl fun x142 y143 h144 e145 f146 => ?_
    obtain rfl := h144
    refine deps_nil ?_
    refine wl_move rfl rfl (by decide) ?_
    exact pi_done rfl (Ext.refl _) rfl
  · -- 9
    intro v147 e148
    have hw10 : Ext w v147 := hw9.trans e148
    refine deps_cons rfl rfl fun x149 y150 h151 e152 f153 => ?_
    obtain rfl := h151
    refine deps_nil ?_
    refine wl_load rfl rfl (load_agg aggInt (hb51.ext e148) [.bool s21, .slice A21 n21 c21] rfl (Nat.le_of_ble_eq_true rfl) rfl) (by decide) ?_
    exact pi_done rfl (Ext.refl _) rfl
  · -- 10
    intro v154 e155
    have hw10 : Ext w v154 := hw9.trans e155
    refine deps_cons rfl rfl fun x156 y157 h158 e159 f160 => ?_
    obtain rfl := h158
    refine deps_nil ?_
    refine wl_bslice rfl rfl (by decide) (k := 1) (e := 47) [.int .u64 1] (fun _ => by kernel_rfl) fun g161 v162 nb163 => ?_
    have o164 := O1.mk_ (x := 1) (b := w.heap.size) nb163 hw10.size
    have e165 := nb163.ext
    have hw11 : Ext w v162 := hw10.trans e165
    have o167 := own1_wd o164 (by decide : 1 ≤ 18446744073709551615) (by decide : 1 ≠ 0)
    have j166 := len1 (by decide : 1 ≤ 18446744073709551615) (by decide : 1 ≠ 0)
    exact pi_done rfl e165 ⟨_, _, _, rfl, j166, o167⟩
  · -- 11
    intro v168 e169
    have hw10 : Ext w v168 := hw9.trans e169
    refine deps_cons rfl rfl fun x170 y171 h172 e173 f174 => ?_
    obtain rfl := h172
    refine deps_cons rfl rfl fun x175 y176 h177 e178 f179 => ?_
    obtain ⟨A180, n180, c180, rfl, j180, o180⟩ := h177
    have o180 := o180.ext f179
    refine deps_nil ?_
    refine wl_pure rfl rfl (v := .agg #[.bool true, .slice A180 n180 c180]) (by decide) (by kernel_rfl) ?_
    exact pi_done rfl (Ext.refl _) ⟨_, _, _, _, rfl, (Zr_neg (by decide : 1 ≠ 0) j180 o180)⟩
  · -- 12
    intro v181 e182
    have hw10 : Ext w v181 := hw9.trans e182
    refine deps_cons rfl rfl fun x183 y184 h185 e186 f187 => ?_
    obtain rfl := h185
    refine deps_cons rfl rfl fun x188 y189 h190 e191 f192 => ?_
    obtain rfl := h190
    refine deps_cons rfl rfl fun x193 y194 h195 e196 f197 => ?_
    obtain ⟨s198, A198, n198, c198, rfl, z198⟩ := h195
    have z198 := z198.ext f197
    refine deps_nil ?_
    refine wl_call rfl rfl (vs := [.agg #[.bool s21, .slice A21 n21 c21], .agg #[.bool s198, .slice A198 n198 c198]]) (by kernel_rfl) (by decide) (g_law6_alike (((((z21.ext (e24.trans (e29.trans e35))).updT hb40 u42).updT hb45 u47).updT hb50 u52).ext e182) (z21.le (Nat.le_trans L17 (by decide))) (z198.cast (by first | exact wk1.symm | exact wk2.symm | exact wk3.symm)) (z198.le (Nat.le_trans (show ln (-((1 : Nat) : Int)) ≤ 1 by rw [ln_neg, ln_nat]; exact (Nat.le_of_eq (len1 (by decide : 1 ≤ 18446744073709551615) (by decide : 1 ≠ 0)).symm)) (by decide)))) ?_
    rintro _ v199 ⟨xr201, rfl, r201, e200⟩
    refine ret_intro ?_
    have hw11 : Ext w v199 := hw10.trans e200
    obtain rfl := r201
    exact pi_done rfl e200 rfl
  · -- 13
    intro v202 e203
    have hw10 : Ext w v202 := hw9.trans e203
    refine deps_cons rfl rfl fun x204 y205 h206 e207 f208 => ?_
    obtain rfl := h206
    refine deps_cons rfl rfl fun x209 y210 h211 e212 f213 => ?_
    obtain rfl := h211
    refine deps_nil ?_
    refine wl_pure rfl rfl (v := .bool true) (by decide) (by kernel_rfl) ?_
    exact pi_done rfl (Ext.refl _) rfl
  · -- all
    intro v214 e215
    have hw10 : Ext w v214 := hw9.trans e215
    refine deps_cons rfl rfl fun x216 y217 h218 e219 f220 => ?_
    obtain rfl := h218
    refine deps_cons rfl rfl fun x221 y222 h223 e224 f225 => ?_
    obtain ⟨s226, A226, n226, c226, rfl, z226⟩ := h223
    have z226 := z226.ext f225
    refine deps_cons rfl rfl fun x227 y228 h229 e230 f231 => ?_
    obtain rfl := h229
    refine deps_cons rfl rfl fun x232 y233 h234 e235 f236 => ?_
    obtain rfl := h234
    refine deps_cons rfl rfl fun x237 y238 h239 e240 f241 => ?_
    obtain rfl := h239
    refine deps_cons rfl rfl fun x242 y243 h244 e245 f246 => ?_
    obtain ⟨s247, A247, n247, c247, rfl, z247⟩ := h244
    have z247 := z247.ext f246
    refine deps_cons rfl rfl fun x248 y249 h250 e251 f252 => ?_
    obtain rfl := h250
    refine deps_cons rfl rfl fun x253 y254 h255 e256 f257 => ?_
    obtain rfl := h255
    refine deps_cons rfl rfl fun x258 y259 h260 e261 f262 => ?_
    obtain rfl := h260
    refine deps_cons rfl rfl fun x263 y264 h265 e266 f267 => ?_
    obtain rfl := h265
    refine deps_cons rfl rfl fun x268 y269 h270 e271 f272 => ?_
    obtain ⟨A273, n273, c273, rfl, j273, o273⟩ := h270
    have o273 := o273.ext f272
    refine deps_cons rfl rfl fun x274 y275 h276 e277 f278 => ?_
    obtain ⟨s279, A279, n279, c279, rfl, z279⟩ := h276
    have z279 := z279.ext f278
    refine deps_cons rfl rfl fun x280 y281 h282 e283 f284 => ?_
    obtain rfl := h282
    refine deps_cons rfl rfl fun x285 y286 h287 e288 f289 => ?_
    obtain rfl := h287
    refine deps_nil ?_
    refine wl_assign rfl rfl (by decide) ?_
    refine wl_nil ?_
    refine eo_np ?_
    refine eo_then ?_
    refine cw_ret ?_
    refine eo_ret [.bool true] rfl ⟨rfl, trivial⟩ ?_
    exact ⟨_, rfl, rfl, hw10⟩
end Go.Proofs.Ytmaconeeonkdgaa

namespace Go.Proofs.Ytmaconeeonkdgaa
open Go.ChangeShapes Go.WideShapes Go.ChangeAt Go.RowKit
theorem own_knob : ownKnob Try.prog.godebug = none := by kernel_rfl
theorem cells_word : Try.prog.cellsOf 47 = 1 := by kernel_rfl
theorem bulk_one {H : Type} (d : DataW H) : 1 ≤ Rows.uptoBulk d := by
  cases d with
  | lit l => cases l <;> simp [Rows.uptoBulk]
  | nil => simp [Rows.uptoBulk]
  | ptr d => simp [Rows.uptoBulk]
  | slice elems spare => simp [Rows.uptoBulk]
  | agg parts => simp [Rows.uptoBulk]
  | iface t d => simp [Rows.uptoBulk]
  | map entries => simp [Rows.uptoBulk]
  | held h => simp [Rows.uptoBulk]
theorem bulk_len {H : Type} (l : List (DataW H)) : l.length ≤ Rows.uptoBulkAll l := by
  induction l with
  | nil => simp [Rows.uptoBulkAll]
  | cons x r ih => have := bulk_one x; simp only [Rows.uptoBulkAll, List.length_cons]; omega
theorem bulk_slice {H : Type} (elems spare : List (DataW H)) : elems.length + spare.length ≤ Rows.uptoBulk (.slice elems spare) := by
  have h1 := bulk_len elems
  have h2 := bulk_len spare
  simp only [Rows.uptoBulk]
  omega
theorem bulk_bound {H : Type} {l : List (DataW H)} (hk : Rows.uptoSmall H l = true) : Rows.uptoBulkAll l ≤ 1048576 := of_decide_eq_true hk
theorem wf_nat {n : Int} (h : (Lit.int .u64 n).wf = true) : 0 ≤ n ∧ n ≤ 18446744073709551615 := by
  simpa [Lit.wf, IntKind.min, IntKind.max, IntKind.signed, IntKind.bits] using h
theorem post_of_below {H : Type} {enc : TypeId × Value → H} {P : Program} {f : Func} {s : ChangeSpec} {apart fresh handsOn again : Bool} {W W' : World} {args : Array Value} {v : Value} {ds gs : List (DataW H)} {before pa pv : List MemPlace}
    (hW : DataW.Whole enc P f.params.toList s.vars apart W args.toList ds gs before)
    (hres : ∀ (b : Nat) (sp : Nat → Bool) (hd : Bool), DataW.TrodAll enc P W' b sp hd f.resultTypes.toList (v.resultList f.resultTypes.size) (s.fn H (ds ++ gs)).results [])
    (hargs : ∀ sp : Nat → Bool, (∀ p ∈ before, sp p.block = true) → DataW.TrodAll enc P W' 0 sp true f.params.toList args.toList (s.fn H (ds ++ gs)).args pa)
    (hvars : ∀ sp : Nat → Bool, (∀ p ∈ before, sp p.block = true) → DataW.TrodVars enc P W' sp s.vars (s.fn H (ds ++ gs)).vars pv)
    (hps : before = pa ++ pv) (hb : Below W.heap.size W W')
    (hok : ∀ (j : Nat) (t : TypeId) (r : Value), f.resultTypes[j]? = some t → (v.resultList f.resultTypes.size)[j]? = some r → Value.okWide P W' .any 0 t r) :
    s.post enc P f apart fresh handsOn again W args v W' := by
  have hlt : ∀ p ∈ before, p.block < W.heap.size := fun p hp => hW.lt p hp
  have hold : ∀ p ∈ before, (fun b => decide (b < W.heap.size)) p.block = true := fun p hp => by simpa using hlt p hp
  refine ⟨ds, gs, before, [], pa, pv, hW, hres _ _ _, hargs _ hold, hvars _ hold, World.keptBut_mono (fun p hp => ⟨hp, ?_⟩) (hb.frame (· ∈ before)), fun _ => ?_⟩
  · rw [hps, List.mem_append] at hp
    exact Or.inr hp
  · obtain ⟨_, _, _, _, _, hz, hn⟩ := hW
    refine ⟨hok, _, _, ([] ++ pa) ++ pv, ⟨[] ++ pa, pv, trodAll_append (hargs _ (fun _ _ => rfl)) (hres _ _ _), hvars _ (fun _ _ => rfl), rfl, ?_, ?_⟩, ?_⟩
    · intro b off hp
      have hin : MemPlace.cell b off ∈ before := by rw [hps]; simpa using hp
      rw [hb.frozen (hlt _ hin)]
      exact hz b off hin
    · intro ha
      have := hn ha
      rw [hps] at this
      simpa using this
    · intro p hp _
      rw [hps]
      simpa using hp
end Go.Proofs.Ytmaconeeonkdgaa

namespace Go.Proofs.Ytmaconeeonkdgaa
open Go.RowKit
/-- a slice of integers: what they are, and how many words each has -/
structure Zl (w : World) (A : Option Addr) (n cap : Nat) (zs : List Int) (ms : List Nat) : Prop where
  len : zs.length = n
  mlen : ms.length = n
  le : n ≤ cap
  max : cap ≤ maxLen
  get : ∀ i, i < n → ∃ a s B c, A = some a ∧ w.cell? (a.add (i * 2)) = some (.bool s) ∧ w.cell? (a.add (i * 2 + 1)) = some (.slice B (ms.getD i 0) c) ∧ Zi w s B (ms.getD i 0) c (zs.getD i 0)
theorem Zl.ext {w w' : World} {A : Option Addr} {n cap : Nat} {zs : List Int} {ms : List Nat} (h : Zl w A n cap zs ms) (e : Ext w w') : Zl w' A n cap zs ms :=
  ⟨h.len, h.mlen, h.le, h.max, fun i hi => by
    obtain ⟨a, s, B, c, h1, h2, h3, h4⟩ := h.get i hi
    exact ⟨a, s, B, c, h1, e.cell h2, e.cell h3, h4.ext e⟩⟩
theorem Zl.take {w : World} {A : Option Addr} {n cap k : Nat} {zs : List Int} {ms : List Nat} (h : Zl w A n cap zs ms) (hk : k ≤ n) : Zl w A k cap (zs.take k) (ms.take k) :=
  ⟨by rw [List.length_take, h.len]; omega, by rw [List.length_take, h.mlen]; omega, Nat.le_trans hk h.le, h.max, fun i hi => by
    obtain ⟨a, s, B, c, h1, h2, h3, h4⟩ := h.get i (by omega)
    have e1 : (ms.take k).getD i 0 = ms.getD i 0 := by simp [List.getD_eq_getElem?_getD, List.getElem?_take, hi]
    have e2 : (zs.take k).getD i 0 = zs.getD i 0 := by simp [List.getD_eq_getElem?_getD, List.getElem?_take, hi]
    rw [e1, e2]
    exact ⟨a, s, B, c, h1, h2, h3, h4⟩⟩
end Go.Proofs.Ytmaconeeonkdgaa

namespace Go.Proofs.Ytmaconeeonkdgaa
open Go.ChangeShapes Go.WideShapes Go.ChangeAt Go.RowKit
theorem cells_int : Try.prog.cellsOf 27 = 2 := by kernel_rfl
theorem cells_words : Try.prog.cellsOf 25 = 1 := by kernel_rfl
theorem cells_bool : Try.prog.cellsOf 4 = 1 := by kernel_rfl
theorem fields_int : ∃ f0 f1 : Field, Try.prog.underlying 27 = some (.struct #[f0, f1]) ∧ f0.type = 4 ∧ f0.offset = 0 ∧ f1.type = 25 ∧ f1.offset = 1 := ⟨_, _, Try.underlying27, rfl, rfl, rfl, rfl⟩
set_option maxRecDepth 20000 in
/-- THE CELL OF A LIST OF WORDS, OPENED -/
theorem open_wcell {H : Type} {enc : TypeId × Value → H} {W : World} {v : Value} {d : DataW H} {p : List MemPlace} {fuel : Nat}
    (hf : DataW.trod enc Try.prog W 0 (fun _ => true) true fuel 25 [v] = some (d, p)) :
    ∃ A n cap xs, v = .slice A n cap ∧ Rd W A n cap xs ∧ n ≤ Rows.uptoBulk d ∧
      ∀ W', Ext W W' → ∀ sp : Nat → Bool, (∀ q ∈ p, sp q.block = true) → ∃ fuel', DataW.trod enc Try.prog W' 0 sp true fuel' 25 [v] = some (d, p) := by
  rcases open_ints Try.underlying25 Try.underlying47 cells_word hf with ⟨hcs, hx⟩ | ⟨a, n', cap', zs, hcs, _, hl, hm, hz, hx, hcell, hwf⟩
  · obtain rfl := List.singleton_inj.1 hcs
    simp only [Prod.mk.injEq] at hx
    obtain ⟨rfl, rfl⟩ := hx
    exact ⟨none, 0, 0, [], rfl, Rd.nil W, Nat.zero_le _, fun W' _ sp _ => by obtain ⟨fu, h⟩ := shut_slice_nil (enc := enc) (w := W') (base := 0) (spare := sp) (held := true) Try.underlying25; exact ⟨fu, h⟩⟩
  · obtain rfl := List.singleton_inj.1 hcs
    simp only [Prod.mk.injEq] at hx
    obtain ⟨rfl, rfl⟩ := hx
    simp only [if_true] at hz
    have hblk : 0 < cap' → a.block < W.heap.size := fun hc => World.block_lt_of_cell? W (a.add 0) (hcell 0 (by omega)) |> fun h => by rwa [block_of_add] at h
    have hnn : ∀ z ∈ zs, ((z.toNat : Nat) : Int) = z := fun z hz' => Int.toNat_of_nonneg (wf_nat (hwf z hz')).1
    have hlen : (zs.take n').length = n' := by rw [List.length_take]; omega
    refine ⟨some a, n', cap', (zs.take n').map Int.toNat, rfl, ⟨⟨by simp; omega, hl, hm, fun i hi => ⟨a, rfl, ?_⟩, fun b hb hc => by cases hb; exact hblk hc⟩, ?_⟩, ?_, ?_⟩
    · rw [hcell i (by omega)]
      have hi2 : i < zs.length := by omega
      have hmem : zs[i] ∈ zs := List.getElem_mem hi2
      have e : (((zs.take n').map Int.toNat).map W64).getD i undef = .int .u64 ((zs[i].toNat : Nat) : Int) := by
        simp [List.getD_eq_getElem?_getD, List.getElem?_map, show i < n' by omega, List.getElem?_eq_getElem hi2]
      rw [e, hnn _ hmem]
      simp [List.getD_eq_getElem?_getD, List.getElem?_eq_getElem hi2]
    · intro x hx
      obtain ⟨z, hz1, rfl⟩ := List.mem_map.1 hx
      have := wf_nat (hwf z (List.mem_of_mem_take hz1))
      rw [WB_def]; omega
    · have := bulk_slice (H := H) (lits .u64 (zs.take n')) (lits .u64 (zs.drop n'))
      have e : (lits (H := H) .u64 (zs.take n')).length = n' := by simp [lits]; omega
      omega
    · intro W' he sp hsp
      have hcell' : ∀ i, i < zs.length → W'.cell? (a.add i) = some (.int .u64 (zs.getD i 0)) := fun i hi => he.cell (hcell i hi)
      by_cases hz0 : zs.length = 0
      · have hc0 : cap' = 0 := by omega
        have hl0 : n' = 0 := by omega
        subst hc0; subst hl0
        have t0 := shut_ints (enc := enc) (w := W') (base := 0) (spare := sp) (held := true) (a := a) (len := 0) (cap := 0) (zs := zs) 0 Try.underlying25 Try.underlying47 cells_word (Nat.zero_le _) (Nat.le_refl _) hm (by simp [hz0]) hcell' hwf
        exact ⟨2, t0⟩
      · have hspb : sp a.block = true := hsp (.cell a.block a.off) (MemPlace.mem_row.2 ⟨0, by omega, by simp⟩)
        have t0 := shut_ints (enc := enc) (w := W') (base := 0) (spare := sp) (held := true) (a := a) (len := n') (cap := cap') (zs := zs) 0 Try.underlying25 Try.underlying47 cells_word (Nat.zero_le _) hl hm (by simp [hspb, hz]) hcell' hwf
        exact ⟨2, t0⟩
set_option maxRecDepth 20000 in
/-- THE TWO CELLS OF AN INTEGER, OPENED -/
theorem open_zcells {H : Type} {enc : TypeId × Value → H} {W : World} {c0 c1 : Value} {x : DataW H × List MemPlace} {fuel : Nat}
    (h : DataW.trod enc Try.prog W 0 (fun _ => true) true fuel 27 [c0, c1] = some x) :
    ∃ s A n cap z, c0 = .bool s ∧ c1 = .slice A n cap ∧ Zi W s A n cap z ∧ n + 1 ≤ Rows.uptoBulk x.1 ∧
      ∀ W', Ext W W' → ∀ sp : Nat → Bool, (∀ q ∈ x.2, sp q.block = true) → ∃ fuel', DataW.trod enc Try.prog W' 0 sp true fuel' 27 [c0, c1] = some x := by
  obtain ⟨f0, f1, hu, t0, o0, t1, o1⟩ := fields_int
  obtain ⟨y0, y1, n, rfl, hl, h0, h1⟩ := trod_struct2 hu h
  rw [t0, o0, cells_bool] at h0
  rw [t1, o1, cells_words] at h1
  have e0 : (([c0, c1] : List Value).drop 0).take 1 = [c0] := rfl
  have e1 : (([c0, c1] : List Value).drop 1).take 1 = [c1] := rfl
  rw [e0] at h0
  rw [e1] at h1
  obtain ⟨s, hs, rfl⟩ := DataW.trod_bool Try.underlying4 h0
  obtain rfl : c0 = .bool s := by simpa using hs
  obtain ⟨A, k, cap, xs, rfl, hx, hb, rx⟩ := open_wcell (d := y1.1) (p := y1.2) h1
  refine ⟨s, A, k, cap, _, rfl, rfl, ⟨xs, hx, rfl⟩, ?_, ?_⟩
  · simp only [Rows.uptoBulk, Rows.uptoBulkAll]; omega
  · intro W' he sp hsp
    obtain ⟨fu, hfu⟩ := rx W' he sp (fun q hq => hsp q (by simp [hq]))
    refine ⟨fu + 1 + 1, trod_struct2_mk (y0 := (.lit (.bool s), [])) (y1 := y1) hu hl ?_ ?_⟩
    · rw [t0, o0, cells_bool, e0]
      simp [DataW.trod, Try.underlying4]
    · rw [t1, o1, cells_words, e1]
      exact DataW.trod_le (Nat.le_succ _) hfu
end Go.Proofs.Ytmaconeeonkdgaa

namespace Go.Proofs.Ytmaconeeonkdgaa
open Go.ChangeShapes Go.WideShapes Go.ChangeAt Go.RowKit
theorem trod_array_mk {H : Type} {enc : TypeId × Value → H} {P : Program} {w : World} {base : Nat} {spare : Nat → Bool} {held : Bool} {t e : TypeId} {k n : Nat} {cs : List Value} {xs : List (DataW H × List MemPlace)} (ht : P.underlying t = some (.array k e)) (hl : cs.length = P.cellsOf t)
    (hp : ((List.range k).mapM fun i => DataW.trod enc P w base spare held n e ((cs.drop (i * P.cellsOf e)).take (P.cellsOf e))) = some xs) :
    DataW.trod enc P w base spare held (n + 1) t cs = some (.agg (xs.map (·.1)), xs.flatMap (·.2)) := by
  unfold DataW.trod
  rw [ht]
  split <;> simp_all
theorem cells_int4 : Try.prog.cellsOf 62 = 8 := by kernel_rfl
set_option maxRecDepth 20000 in
/-- FOUR INTEGERS, OPENED -/
theorem open_int4 {H : Type} {enc : TypeId × Value → H} {W : World} {base : Nat} {v : Value} {d : DataW H} {p : List MemPlace}
    (hval : Value.okWide Try.prog W .any base 62 v) (h : DataW.Trod enc Try.prog W 0 (fun _ => true) true 62 v d p) :
    ∃ sa Aa na ca sb Ab nb cb sf Af nf cf sd Ad nd cd x m y n, v = .agg #[.bool sa, .slice Aa na ca, .bool sb, .slice Ab nb cb, .bool sf, .slice Af nf cf, .bool sd, .slice Ad nd cd] ∧ Zi W sa Aa na ca x ∧ Zi W sb Ab nb cb m ∧ Zi W sf Af nf cf y ∧ Zi W sd Ad nd cd n ∧ na + nb + nf + nd ≤ Rows.uptoBulk d ∧
      ∀ W', Ext W W' → ∀ sp : Nat → Bool, (∀ q ∈ p, sp q.block = true) → DataW.Trod enc Try.prog W' 0 sp true 62 v d p := by
  simp only [Value.okWide, Try.underlying62] at hval
  obtain ⟨cs, rfl, hsz, _⟩ := hval
  rw [cells_int4] at hsz
  obtain ⟨c0, c1, c2, c3, c4, c5, c6, c7, rfl⟩ : ∃ c0 c1 c2 c3 c4 c5 c6 c7, cs = #[c0, c1, c2, c3, c4, c5, c6, c7] := by
    rcases cs with ⟨l⟩
    match l, hsz with
    | [c0, c1, c2, c3, c4, c5, c6, c7], _ => exact ⟨c0, c1, c2, c3, c4, c5, c6, c7, rfl⟩
  obtain ⟨fuel, hf⟩ := h
  have hf' : DataW.trod enc Try.prog W 0 (fun _ => true) true fuel 62 [c0, c1, c2, c3, c4, c5, c6, c7] = some (d, p) := hf
  obtain ⟨xs, m, rfl, hx, hl, hlen, hel⟩ := DataW.trod_array Try.underlying62 hf'
  match xs, hlen with
  | [y0, y1, y2, y3], _ =>
    have h0 := hel 0 (by decide)
    have h1 := hel 1 (by decide)
    have h2 := hel 2 (by decide)
    have h3 := hel 3 (by decide)
    rw [cells_int] at h0 h1 h2 h3
    obtain ⟨s0, A0, n0, k0, z0, rfl, rfl, q0, b0, r0⟩ := open_zcells (c0 := c0) (c1 := c1) (x := y0) h0
    obtain ⟨s1, A1, n1, k1, z1, rfl, rfl, q1, b1, r1⟩ := open_zcells (c0 := c2) (c1 := c3) (x := y1) h1
    obtain ⟨s2, A2, n2, k2, z2, rfl, rfl, q2, b2, r2⟩ := open_zcells (c0 := c4) (c1 := c5) (x := y2) h2
    obtain ⟨s3, A3, n3, k3, z3, rfl, rfl, q3, b3, r3⟩ := open_zcells (c0 := c6) (c1 := c7) (x := y3) h3
    simp only [Prod.mk.injEq] at hx
    obtain ⟨rfl, rfl⟩ := hx
    refine ⟨s0, A0, n0, k0, s1, A1, n1, k1, s2, A2, n2, k2, s3, A3, n3, k3, z0, z1, z2, z3, rfl, q0, q1, q2, q3, ?_, ?_⟩
    · simp only [List.map_cons, List.map_nil, Rows.uptoBulk, Rows.uptoBulkAll]; omega
    · intro W' he sp hsp
      obtain ⟨f0, g0⟩ := r0 W' he sp (fun q hq => hsp q (by simp [hq]))
      obtain ⟨f1, g1⟩ := r1 W' he sp (fun q hq => hsp q (by simp [hq]))
      obtain ⟨f2, g2⟩ := r2 W' he sp (fun q hq => hsp q (by simp [hq]))
      obtain ⟨f3, g3⟩ := r3 W' he sp (fun q hq => hsp q (by simp [hq]))
      refine ⟨f0 + f1 + f2 + f3 + 1, ?_⟩
      refine trod_array_mk (n := f0 + f1 + f2 + f3) (xs := [y0, y1, y2, y3]) Try.underlying62 hl ?_
      rw [cells_int]
      have e0 := DataW.trod_le (m := f0 + f1 + f2 + f3) (by omega) g0
      have e1 := DataW.trod_le (m := f0 + f1 + f2 + f3) (by omega) g1
      have e2 := DataW.trod_le (m := f0 + f1 + f2 + f3) (by omega) g2
      have e3 := DataW.trod_le (m := f0 + f1 + f2 + f3) (by omega) g3
      simp [List.range_succ, Value.cells, e0, e1, e2, e3]
end Go.Proofs.Ytmaconeeonkdgaa

namespace Go.Proofs.Ytmaconeeonkdgaa
open Go.RowKit
theorem UpdO.of {w w' : World} {A : Option Addr} (h : w.grownBy w' none) : UpdO A w w' := ⟨⟨h.os, h.tape, h.output, h.size, fun k hk _ => h.block k hk (by simp)⟩⟩
section
variable {P : Program}
variable {Q : Exit → Act → World → Prop} {n : Nat} {l : Fr} {w : World} {ops : Array Oper} {rest : List Oper} {d : Nat} {ty : TypeId} {pos : String} {af : Array Edge} {gd : Option (Nat × Bool)}
end
end Go.Proofs.Ytmaconeeonkdgaa

namespace Go.Proofs.Ytmaconeeonkdgaa
open Go.RowKit
theorem elemI : Try.prog.underlying 22 = some (.slice 27) := by kernel_rfl
def ZC.zero : ZC := ⟨false, none, 0, 0⟩
def zcells : List ZC → List Value
  | [] => []
  | e :: r => .bool e.s :: .slice e.A e.n e.c :: zcells r
theorem zcells_get0 : ∀ (es : List ZC) (i : Nat), i < es.length → (zcells es)[i * 2]? = some (.bool (es.getD i ZC.zero).s)
  | [], i, h => by simp at h
  | e :: r, 0, h => rfl
  | e :: r, i + 1, h => by
    have := zcells_get0 r i (by simpa using h)
    simpa [zcells, Nat.add_mul] using this
theorem zcells_get1 : ∀ (es : List ZC) (i : Nat), i < es.length → (zcells es)[i * 2 + 1]? = some (.slice (es.getD i ZC.zero).A (es.getD i ZC.zero).n (es.getD i ZC.zero).c)
  | [], i, h => by simp at h
  | e :: r, 0, h => rfl
  | e :: r, i + 1, h => by
    have := zcells_get1 r i (by simpa using h)
    simpa [zcells, Nat.add_mul] using this
theorem Zl.at {w : World} {A : Option Addr} {n cap : Nat} {zs : List Int} {ms : List Nat} (h : Zl w A n cap zs ms) {i : Nat} (hi : i < n) :
    ∃ p s B c, A.map (·.add (i * 2)) = some p ∧ (∀ w', Ext w w' → ∀ (P : Program) (T : TypeId), AggT P T 2 → (loadVar T p).run P w' = .ok (.agg #[.bool s, .slice B (ms.getD i 0) c]) w') ∧ Zi w s B (ms.getD i 0) c (zs.getD i 0) := by
  obtain ⟨a, s, B, c, rfl, h1, h2, h3⟩ := h.get i hi
  refine ⟨a.add (i * 2), s, B, c, rfl, fun w' e P T hT => load_at hT [.bool s, .slice B (ms.getD i 0) c] rfl (fun j hj => ?_), h3⟩
  rw [add_of_add]
  match j, hj with
  | 0, _ => exact e.cell h1
  | 1, _ => exact e.cell h2
/-- an element: of the call's own, in least form; or (where lists are mixed) as it came in -/
def El (m : Option World) (b : Nat) (w : World) (e : ZC) (z : Int) : Prop := Zr w b e.s e.A e.n e.c z ∨ ∃ w0, m = some w0 ∧ Zi w0 e.s e.A e.n e.c z
theorem El.ext {m : Option World} {b : Nat} {w w' : World} {e : ZC} {z : Int} (h : El m b w e z) (x : Ext w w') : El m b w' e z := h.imp (·.ext x) id
theorem El.updT {m : Option World} {b g : Nat} {w w' : World} {e : ZC} {z : Int} {T : TypeId} {us : List Value} (h : El m b w e z) (hb : Bk w g T us) (x : Upd g w w') (hT : 47 ≠ T := by decide) : El m b w' e z := h.imp (·.updT hb x hT) id
theorem El.zi {w0 : World} {b : Nat} {w : World} {e : ZC} {z : Int} (h : El (some w0) b w e z) (x : Ext w0 w) : Zi w e.s e.A e.n e.c z := by
  rcases h with h | ⟨w1, h1, h2⟩
  · exact h.zi
  · cases h1; exact h2.ext x
theorem El.zr {b : Nat} {w : World} {e : ZC} {z : Int} (h : El none b w e z) : Zr w b e.s e.A e.n e.c z := by
  rcases h with h | ⟨w1, h1, h2⟩
  · exact h
  · cases h1
/-- a list of integers in the call's own memory: made since lb; the words since b, or as they came in (m); none longer than K -/
def Lz (m : Option World) (K b : Nat) (w : World) (lb : Nat) (A : Option Addr) (n cap : Nat) (zs : List Int) : Prop :=
  ∃ es, Own w lb 27 2 A n cap (zcells es) ∧ es.length = n ∧ zs.length = n ∧ ∀ i, i < n → (es.getD i ZC.zero).n ≤ K ∧ El m b w (es.getD i ZC.zero) (zs.getD i 0)
section
variable {m : Option World} {K b lb : Nat} {w w' : World} {A : Option Addr} {n cap : Nat} {zs : List Int}
theorem Lz.own (h : Lz m K b w lb A n cap zs) : ∃ vs, Own w lb 27 2 A n cap vs := by obtain ⟨es, h1, _⟩ := h; exact ⟨_, h1⟩
theorem Lz.block (h : Lz m K b w lb A n cap zs) : ∀ a, A = some a → lb ≤ a.block ∧ a.block < w.heap.size := by obtain ⟨vs, h⟩ := h.own; exact h.block
theorem Lz.len (h : Lz m K b w lb A n cap zs) : zs.length = n := by obtain ⟨es, h1, h2, h3, h4⟩ := h; exact h3
theorem Lz.le (h : Lz m K b w lb A n cap zs) : n ≤ cap := by obtain ⟨vs, h⟩ := h.own; exact h.rv.le
theorem Lz.ext (h : Lz m K b w lb A n cap zs) (x : Ext w w') : Lz m K b w' lb A n cap zs := by
  obtain ⟨es, h1, h2, h3, h4⟩ := h
  exact ⟨es, h1.ext x, h2, h3, fun i hi => ⟨(h4 i hi).1, (h4 i hi).2.ext x⟩⟩
/-- a variable has turned -/
theorem Lz.updT {g : Nat} {T : TypeId} {us : List Value} (h : Lz m K b w lb A n cap zs) (hb : Bk w g T us) (x : Upd g w w') (hne : ∀ p, A = some p → p.block ≠ g) (hT : 47 ≠ T := by decide) : Lz m K b w' lb A n cap zs := by
  obtain ⟨es, h1, h2, h3, h4⟩ := h
  exact ⟨es, h1.upd x hne, h2, h3, fun i hi => ⟨(h4 i hi).1, (h4 i hi).2.updT hb x hT⟩⟩
theorem Lz.nil (m : Option World) (K b : Nat) (w : World) (lb : Nat) : Lz m K b w lb none 0 0 [] := ⟨[], Own.nil _ _ _ _, rfl, rfl, fun i hi => by omega⟩
theorem Lz.mono {K' b' lb' : Nat} (h : Lz m K b w lb A n cap zs) (hK : K ≤ K') (hb : b' ≤ b) (hl : lb' ≤ lb) : Lz m K' b' w lb' A n cap zs := by
  obtain ⟨es, h1, h2, h3, h4⟩ := h
  exact ⟨es, h1.mono hl, h2, h3, fun i hi => ⟨Nat.le_trans (h4 i hi).1 hK, (h4 i hi).2.imp (·.mono hb) id⟩⟩
theorem Lz.at (h : Lz m K b w lb A n cap zs) {i : Nat} (hi : i < n) :
    ∃ p s B k c, A.map (·.add (i * 2)) = some p ∧ (∀ w', Ext w w' → ∀ (P : Program) (T : TypeId), AggT P T 2 → (loadVar T p).run P w' = .ok (.agg #[.bool s, .slice B k c]) w') ∧ k ≤ K ∧ El m b w ⟨s, B, k, c⟩ (zs.getD i 0) := by
  obtain ⟨es, h1, h2, h3, h4⟩ := h
  obtain ⟨a, ha, hc⟩ := h1.rv.get (i * 2) (by omega)
  obtain ⟨a', ha', hc'⟩ := h1.rv.get (i * 2 + 1) (by omega)
  rw [ha] at ha'; cases ha'
  have g0 := zcells_get0 es i (by omega)
  have g1 := zcells_get1 es i (by omega)
  rw [List.getD_eq_getElem?_getD, g0] at hc
  rw [List.getD_eq_getElem?_getD, g1] at hc'
  refine ⟨a.add (i * 2), _, _, _, _, by rw [ha]; rfl, fun w' e P T hT => load_at hT [.bool (es.getD i ZC.zero).s, .slice (es.getD i ZC.zero).A (es.getD i ZC.zero).n (es.getD i ZC.zero).c] rfl (fun j hj => ?_), (h4 i hi).1, (h4 i hi).2⟩
  rw [add_of_add]
  match j, hj with
  | 0, _ => exact e.cell hc
  | 1, _ => exact e.cell hc'
/-- read as a list -/
theorem Lz.zl {w0 : World} (h : Lz (some w0) K b w lb A n cap zs) (x : Ext w0 w) : ∃ ms, Zl w A n cap zs ms ∧ ∀ i, ms.getD i 0 ≤ K := by
  obtain ⟨es, h1, h2, h3, h4⟩ := h
  have hms : ∀ i, i < n → (es.map (·.n)).getD i 0 = (es.getD i ZC.zero).n := fun i hi => by
    simp [List.getD_eq_getElem?_getD, List.getElem?_map, List.getElem?_eq_getElem (show i < es.length by omega)]
  refine ⟨es.map (·.n), ⟨h3, by rw [List.length_map, h2], h1.rv.le, h1.rv.max, fun i hi => ?_⟩, fun i => ?_⟩
  · obtain ⟨a, ha, hc⟩ := h1.rv.get (i * 2) (by omega)
    obtain ⟨a', ha', hc'⟩ := h1.rv.get (i * 2 + 1) (by omega)
    rw [ha] at ha'; cases ha'
    have g0 := zcells_get0 es i (by omega)
    have g1 := zcells_get1 es i (by omega)
    rw [List.getD_eq_getElem?_getD, g0] at hc
    rw [List.getD_eq_getElem?_getD, g1] at hc'
    rw [hms i hi]
    exact ⟨a, _, _, _, ha, hc, hc', (h4 i hi).2.zi x⟩
  · by_cases hi : i < n
    · rw [hms i hi]; exact (h4 i hi).1
    · rw [List.getD_eq_getElem?_getD, List.getElem?_eq_none (by rw [List.length_map]; omega)]; exact Nat.zero_le _
end
section
variable {Q : Exit → Act → World → Prop} {N : Nat} {l : Fr} {w : World} {ops : Array Oper} {rest : List Oper} {d : Nat} {ty : TypeId} {pos : String} {af : Array Edge} {gd : Option (Nat × Bool)}
end
end Go.Proofs.Ytmaconeeonkdgaa

namespace Go.Proofs.Ytmaconeeonkdgaa
open Go.RowKit
theorem getD_snoc {α : Type} {l : List α} {k : Nat} {d : α} (h : k < l.length) : l.take (k + 1) = l.take k ++ [l.getD k d] := by
  rw [List.take_add_one, List.getD_eq_getElem?_getD, List.getElem?_eq_getElem h]; rfl
/-- the divisor of a list -/
def gcdL (zs : List Int) : Int := zs.foldl (fun g z => (Int.gcd g z : Int)) 0
theorem zl_full {zs : List Int} {w : World} {A : Option Addr} {n cap : Nat} {ms : List Nat} (h : Zl w A n cap zs ms) : zs.take n = zs := List.take_of_length_le (by rw [h.len]; exact Nat.le_refl _)
/-- the sum of products -/
def dotL : List Int → List Int → Int
  | z :: zs, c :: cs => z * c + dotL zs cs
  | _, _ => 0
/-- the room that a list's numbers take -/
def sl (zs : List Int) : Nat := (zs.map fun z => ln z + 1).sum
/-- multipliers of a list -/
structure ExtL (zs cs : List Int) (n : Nat) : Prop where
  len : cs.length = n
  dot : dotL zs cs = gcdL zs
  ln : ∀ i, Go.Proofs.Ytmaconeeonkdgaa.ln (cs.getD i 0) ≤ 3145730
end Go.Proofs.Ytmaconeeonkdgaa

namespace Go.Proofs.Ytmaconeeonkdgaa
open Go.RowKit
theorem emod_eq_of_dvd {a b l : Int} (h : l ∣ a - b) : a % l = b % l := by
  obtain ⟨k, hk⟩ := h
  have e : a = b + l * k := by omega
  rw [e, Int.add_mul_emod_self_left]
theorem ln_lcmC (x y : Int) : ln (Int.lcm x y : Int) ≤ ln x + ln y := by
  refine Nat.le_trans (ln_mono (y := x * y) ?_) (ln_mul (Nat.le_refl _) (Nat.le_refl _))
  rw [Int.natAbs_natCast]
  by_cases h : x * y = 0
  · rcases Int.mul_eq_zero.1 h with h | h <;> subst h <;> simp
  · refine Nat.le_of_dvd (by omega) ?_
    rw [Int.natAbs_mul, ← Int.gcd_mul_lcm x y]
    exact Nat.dvd_mul_left _ _
theorem gcd_ne_l {m n : Int} (h : m ≠ 0) : (Int.gcd m n : Int) ≠ 0 := by have := Int.gcd_pos_of_ne_zero_left n h; omega
theorem crt_dvd {x y m n s : Int} (d1 : m ∣ x - s) (d2 : n ∣ y - s) : (Int.gcd m n : Int) ∣ y - x := by
  have h1 : (Int.gcd m n : Int) ∣ x - s := Int.dvd_trans (Int.gcd_dvd_left m n) d1
  have h2 : (Int.gcd m n : Int) ∣ y - s := Int.dvd_trans (Int.gcd_dvd_right m n) d2
  have e : y - x = (y - s) - (x - s) := by omega
  rw [e]; exact Int.dvd_sub h2 h1
theorem mod_of_dvd {a b : Int} (h : b ∣ a) : a.natAbs % b.natAbs = 0 := Nat.mod_eq_zero_of_dvd (Int.natAbs_dvd_natAbs.2 h)
theorem mod_of_not {a b : Int} (h : ¬ b ∣ a) : a.natAbs % b.natAbs ≠ 0 := fun e => h (Int.natAbs_dvd_natAbs.1 (Nat.dvd_of_mod_eq_zero e))
theorem crt_eq {x y m n s u v : Int} (h : Bez m n u v) (hm : m ≠ 0) (d1 : m ∣ x - s) (d2 : n ∣ y - s) : (x + m * ((y - x).tdiv (Int.gcd m n : Int) * u)) % (Int.lcm m n : Int) = s % (Int.lcm m n : Int) := by
  obtain ⟨t, ht⟩ := crt_dvd d1 d2
  have e1 : (y - x).tdiv (Int.gcd m n : Int) = t := by rw [ht]; exact Int.mul_tdiv_cancel_left _ (gcd_ne_l hm)
  rw [e1]
  refine emod_eq_of_dvd ?_
  refine Int.coe_lcm_dvd ?_ ?_
  · have e : x + m * (t * u) - s = (x - s) + m * (t * u) := by omega
    rw [e]; exact Int.dvd_add d1 (Int.dvd_mul_right _ _)
  · have e2 := h.eq
    have e : x + m * (t * u) - s = (y - s) - n * (v * t) := by
      have e3 : m * (t * u) + n * (v * t) = y - x := by rw [ht, ← e2]; grind
      omega
    rw [e]; exact Int.dvd_sub d2 (Int.dvd_mul_right _ _)
theorem lcm_ne {m n : Int} (hm : m ≠ 0) (hn : n ≠ 0) : (Int.lcm m n : Int) ≠ 0 := by have := Int.lcm_pos hm hn; omega
theorem crt_ex {x y m n : Int} (hm : m ≠ 0) {u v : Int} (h : Bez m n u v) (hd : (Int.gcd m n : Int) ∣ y - x) : ∃ s, m ∣ x - s ∧ n ∣ y - s := by
  obtain ⟨t, ht⟩ := hd
  have e2 := h.eq
  refine ⟨x + m * (t * u), ⟨-(t * u), by rw [Int.mul_neg]; omega⟩, ⟨v * t, ?_⟩⟩
  have e3 : m * (t * u) + n * (v * t) = y - x := by rw [ht, ← e2]; grind
  omega
set_option maxHeartbeats 4000000 in
theorem g_bezout_Crt_zeroI {w : World} {sa : Bool} {Aa : Option Addr} {na ca : Nat} {x : Int} {sb : Bool} {Ab : Option Addr} {nb cb : Nat} {m : Int} {sf : Bool} {Af : Option Addr} {nf cf : Nat} {y : Int} {sd : Bool} {Ad : Option Addr} {nd cd : Nat} {n : Int} (hx : Zi w sa Aa na ca x) (la : na ≤ 67108864) (hm : Zi w sb Ab nb cb m) (lb : nb ≤ 67108864) (hy : Zi w sf Af nf cf y) (lf : nf ≤ 67108864) (hn : Zi w sd Ad nd cd n) (ld : nd ≤ 67108864) (h0 : m = 0 ∨ n = 0) :
    Calls Try.prog 51 #[.agg #[.bool sa, .slice Aa na ca], .agg #[.bool sb, .slice Ab nb cb], .agg #[.bool sf, .slice Af nf cf], .agg #[.bool sd, .slice Ad nd cd]] w (Gv w (T3 (ZR w.heap.size (0)) (ZR w.heap.size (0)) (Is (.int .i64 4)))) := by
  have Lx : ln x ≤ 67108864 := Nat.le_trans hx.ln la
  have Lm : ln m ≤ 67108864 := Nat.le_trans hm.ln lb
  have Ly : ln y ≤ 67108864 := Nat.le_trans hy.ln lf
  have Ln : ln n ≤ 67108864 := Nat.le_trans hn.ln ld
  refine sx_enter Try.func51 rfl (n := 62) rfl (Nat.le_of_ble_eq_true rfl) (args := [.agg #[.bool sa, .slice Aa na ca], .agg #[.bool sb, .slice Ab nb cb], .agg #[.bool sf, .slice Af nf cf], .agg #[.bool sd, .slice Ad nd cd]]) ?_
  refine cw_keep [(0, .agg #[.bool sa, .slice Aa na ca]), (1, .agg #[.bool sb, .slice Ab nb cb]), (2, .agg #[.bool sf, .slice Af nf cf]), (3, .agg #[.bool sd, .slice Ad nd cd])] ⟨rfl, rfl, rfl, rfl, trivial⟩ ?_
  refine cw_seq ?_
  refine cw_region ?_
  refine wl_box rfl rfl (vs := [.bool sa, .slice Aa na ca]) rfl (by decide) fun g1 v2 nb => ?_
  have hb4 := nb.bk
  have ge5 : w.heap.size ≤ g1 := by rw [← nb.at_]; exact (Ext.refl w).size
  have e3 := nb.ext
  clear nb
  have hw1 : Ext w v2 := (Ext.refl w).trans e3
  refine wl_box rfl rfl (vs := [.bool sb, .slice Ab nb cb]) rfl (by decide) fun g6 v7 nb => ?_
  have hb9 := nb.bk
  have ge10 : w.heap.size ≤ g6 := by rw [← nb.at_]; exact hw1.size
  have q11 : g1 < g6 := by rw [← nb.at_]; exact hb4.lt
  have e8 := nb.ext
  clear nb
  have hw2 : Ext w v7 := hw1.trans e8
  refine wl_box rfl rfl (vs := [.bool sf, .slice Af nf cf]) rfl (by decide) fun g12 v13 nb => ?_
  have hb15 := nb.bk
  have ge16 : w.heap.size ≤ g12 := by rw [← nb.at_]; exact hw2.size
  have q17 : g6 < g12 := by rw [← nb.at_]; exact hb9.lt
  have e14 := nb.ext
  clear nb
  have hw3 : Ext w v13 := hw2.trans e14
  refine wl_box rfl rfl (vs := [.bool sd, .slice Ad nd cd]) rfl (by decide) fun g18 v19 nb => ?_
  have hb21 := nb.bk
  have ge22 : w.heap.size ≤ g18 := by rw [← nb.at_]; exact hw3.size
  have q23 : g12 < g18 := by rw [← nb.at_]; exact hb15.lt
  have e20 := nb.ext
  clear nb
  have hw4 : Ext w v19 := hw3.trans e20
  refine wl_alloc rfl (z := .agg #[.bool false, .slice none 0 0]) (vs := [.bool false, .slice none 0 0]) (fun _ => by kernel_rfl) rfl (by decide) fun g24 v25 nb => ?_
  have hb27 := nb.bk
  have ge28 : w.heap.size ≤ g24 := by rw [← nb.at_]; exact hw4.size
  have q29 : g18 < g24 := by rw [← nb.at_]; exact hb21.lt
  have e26 := nb.ext
  clear nb
  have hw5 : Ext w v25 := hw4.trans e26
  refine wl_alloc rfl (z := .agg #[.bool false, .slice none 0 0]) (vs := [.bool false, .slice none 0 0]) (fun _ => by kernel_rfl) rfl (by decide) fun g30 v31 nb => ?_
  have hb33 := nb.bk
  have ge34 : w.heap.size ≤ g30 := by rw [← nb.at_]; exact hw5.size
  have q35 : g24 < g30 := by rw [← nb.at_]; exact hb27.lt
  have e32 := nb.ext
  clear nb
  have hw6 : Ext w v31 := hw5.trans e32
  refine wl_assign rfl rfl (by decide) ?_
  refine wl_nil ?_
  refine eo_then ?_
  refine cw_seq ?_
  refine cw_seq ?_
  by_cases hm1 : m = 0
  ·
    refine cw_region ?_
    refine wl_load rfl rfl (load_agg aggInt (hb9.ext (e14.trans (e20.trans (e26.trans e32)))) [.bool sb, .slice Ab nb cb] rfl (Nat.le_of_ble_eq_true rfl) rfl) (by decide) ?_
    refine wl_call rfl rfl (vs := [.agg #[.bool sb, .slice Ab nb cb]]) (by kernel_rfl) (by decide) (g_zint_Sign (hm.ext hw6) (Nat.le_trans lb (by decide))) ?_
    rintro _ v36 ⟨xr38, rfl, r38, e37⟩
    refine ret_intro ?_
    have hw7 : Ext w v36 := hw6.trans e37
    obtain rfl := r38
    refine wl_cmp rfl rfl rfl true (scmp_eq_t hm1) (by decide) ?_
    refine wl_move rfl rfl (by decide) ?_
    refine wl_off rfl (by decide) ?_
    refine wl_off rfl (by decide) ?_
    refine wl_off rfl (by decide) ?_
    refine wl_pure rfl rfl (v := .bool true) (by decide) (by kernel_rfl) ?_
    refine wl_nil ?_
    refine eo_then ?_
    refine cw_true rfl ?_
    refine cw_seq ?_
    refine cw_region ?_
    refine wl_pure rfl rfl (v := .agg #[.bool false, .slice none 0 0]) (by decide) (by kernel_rfl) ?_
    refine wl_pure rfl rfl (v := .agg #[.bool false, .slice none 0 0]) (by decide) (by kernel_rfl) ?_
    have hb40 := (hb27.ext (e32.trans e37))
    refine wl_stored rfl rfl rfl aggInt rfl hb40 (Nat.le_of_ble_eq_true rfl) rfl [.bool false, .slice none 0 0] rfl fun v39 hb41 u42 hs43 => ?_
    have hw8 : Ext w v39 := u42.ext hw7 ge28
    have hb45 := ((hb33.ext e37).updN u42 (by omega))
    refine wl_stored rfl rfl rfl aggInt rfl hb45 (Nat.le_of_ble_eq_true rfl) rfl [.bool false, .slice none 0 0] rfl fun v44 hb46 u47 hs48 => ?_
    have hw9 : Ext w v44 := u47.ext hw8 ge34
    refine wl_assign rfl rfl (by decide) ?_
    refine wl_nil ?_
    refine eo_then ?_
    refine cw_ret ?_
    refine eo_thenR ?_
    refine eo_ret [.agg #[.bool false, .slice none 0 0], .agg #[.bool false, .slice none 0 0], .int .i64 4] rfl ⟨⟨_, rfl, load_agg aggInt (hb41.updN u47 (by omega)) [.bool false, .slice none 0 0] rfl (Nat.le_of_ble_eq_true rfl) rfl⟩, ⟨_, rfl, load_agg aggInt hb46 [.bool false, .slice none 0 0] rfl (Nat.le_of_ble_eq_true rfl) rfl⟩, rfl, trivial⟩ ?_
    exact ⟨_, rfl, ⟨_, _, _, rfl, ⟨_, _, _, _, rfl, (((Zr.zero (w := v36) (base := w.heap.size)).updT hb40 u42).updT hb45 u47)⟩, ⟨_, _, _, _, rfl, (((Zr.zero (w := v36) (base := w.heap.size)).updT hb40 u42).updT hb45 u47)⟩, rfl⟩, hw9⟩
  ·
    refine cw_region ?_
    refine wl_load rfl rfl (load_agg aggInt (hb9.ext (e14.trans (e20.trans (e26.trans e32)))) [.bool sb, .slice Ab nb cb] rfl (Nat.le_of_ble_eq_true rfl) rfl) (by decide) ?_
    refine wl_call rfl rfl (vs := [.agg #[.bool sb, .slice Ab nb cb]]) (by kernel_rfl) (by decide) (g_zint_Sign (hm.ext hw6) (Nat.le_trans lb (by decide))) ?_
    rintro _ v49 ⟨xr51, rfl, r51, e50⟩
    refine ret_intro ?_
    have hw7 : Ext w v49 := hw6.trans e50
    obtain rfl := r51
    refine wl_cmp rfl rfl rfl false (scmp_eq_f hm1) (by decide) ?_
    refine wl_move rfl rfl (by decide) ?_
    refine wl_load rfl rfl (load_agg aggInt (hb21.ext (e26.trans (e32.trans e50))) [.bool sd, .slice Ad nd cd] rfl (Nat.le_of_ble_eq_true rfl) rfl) (by decide) ?_
    refine wl_call rfl rfl (vs := [.agg #[.bool sd, .slice Ad nd cd]]) (by kernel_rfl) (by decide) (g_zint_Sign (hn.ext hw7) (Nat.le_trans ld (by decide))) ?_
    rintro _ v52 ⟨xr54, rfl, r54, e53⟩
    refine ret_intro ?_
    have hw8 : Ext w v52 := hw7.trans e53
    obtain rfl := r54
    refine wl_cmp rfl rfl rfl true (scmp_eq_t (by omega)) (by decide) ?_
    refine wl_pure rfl rfl (v := .bool true) (by decide) (by kernel_rfl) ?_
    refine wl_nil ?_
    refine eo_then ?_
    refine cw_true rfl ?_
    refine cw_seq ?_
    refine cw_region ?_
    refine wl_pure rfl rfl (v := .agg #[.bool false, .slice none 0 0]) (by decide) (by kernel_rfl) ?_
    refine wl_pure rfl rfl (v := .agg #[.bool false, .slice none 0 0]) (by decide) (by kernel_rfl) ?_
    have hb56 := (hb27.ext (e32.trans (e50.trans e53)))
    refine wl_stored rfl rfl rfl aggInt rfl hb56 (Nat.le_of_ble_eq_true rfl) rfl [.bool false, .slice none 0 0] rfl fun v55 hb57 u58 hs59 => ?_
    have hw9 : Ext w v55 := u58.ext hw8 ge28
    have hb61 := ((hb33.ext (e50.trans e53)).updN u58 (by omega))
    refine wl_stored rfl rfl rfl aggInt rfl hb61 (Nat.le_of_ble_eq_true rfl) rfl [.bool false, .slice none 0 0] rfl fun v60 hb62 u63 hs64 => ?_
    have hw10 : Ext w v60 := u63.ext hw9 ge34
    refine wl_assign rfl rfl (by decide) ?_
    refine wl_nil ?_
    refine eo_then ?_
    refine cw_ret ?_
    refine eo_thenR ?_
    refine eo_ret [.agg #[.bool false, .slice none 0 0], .agg #[.bool false, .slice none 0 0], .int .i64 4] rfl ⟨⟨_, rfl, load_agg aggInt (hb57.updN u63 (by omega)) [.bool false, .slice none 0 0] rfl (Nat.le_of_ble_eq_true rfl) rfl⟩, ⟨_, rfl, load_agg aggInt hb62 [.bool false, .slice none 0 0] rfl (Nat.le_of_ble_eq_true rfl) rfl⟩, rfl, trivial⟩ ?_
    exact ⟨_, rfl, ⟨_, _, _, rfl, ⟨_, _, _, _, rfl, (((Zr.zero (w := v52) (base := w.heap.size)).updT hb56 u58).updT hb61 u63)⟩, ⟨_, _, _, _, rfl, (((Zr.zero (w := v52) (base := w.heap.size)).updT hb56 u58).updT hb61 u63)⟩, rfl⟩, hw10⟩
theorem g_bezout_Crt_zero {w : World} {sa : Bool} {Aa : Option Addr} {na ca : Nat} {x : Int} {sb : Bool} {Ab : Option Addr} {nb cb : Nat} {m : Int} {sf : Bool} {Af : Option Addr} {nf cf : Nat} {y : Int} {sd : Bool} {Ad : Option Addr} {nd cd : Nat} {n : Int} {b : Nat} (hb : b ≤ w.heap.size)  (hx : Zi w sa Aa na ca x) (la : na ≤ 67108864) (hm : Zi w sb Ab nb cb m) (lb : nb ≤ 67108864) (hy : Zi w sf Af nf cf y) (lf : nf ≤ 67108864) (hn : Zi w sd Ad nd cd n) (ld : nd ≤ 67108864) (h0 : m = 0 ∨ n = 0) :
    Calls Try.prog 51 #[.agg #[.bool sa, .slice Aa na ca], .agg #[.bool sb, .slice Ab nb cb], .agg #[.bool sf, .slice Af nf cf], .agg #[.bool sd, .slice Ad nd cd]] w (Gv w (T3 (ZR b (0)) (ZR b (0)) (Is (.int .i64 4)))) := (g_bezout_Crt_zeroI hx la hm lb hy lf hn ld h0).mono (Gv.imp (T3.imp (ZR.imp hb) (ZR.imp hb) Is.imp))
set_option maxHeartbeats 4000000 in
theorem g_bezout_Crt_noneI {w : World} {sa : Bool} {Aa : Option Addr} {na ca : Nat} {x : Int} {sb : Bool} {Ab : Option Addr} {nb cb : Nat} {m : Int} {sf : Bool} {Af : Option Addr} {nf cf : Nat} {y : Int} {sd : Bool} {Ad : Option Addr} {nd cd : Nat} {n : Int} (hx : Zi w sa Aa na ca x) (la : na ≤ 67108864) (hm : Zi w sb Ab nb cb m) (lb : nb ≤ 67108864) (hy : Zi w sf Af nf cf y) (lf : nf ≤ 67108864) (hn : Zi w sd Ad nd cd n) (ld : nd ≤ 67108864) (hm0 : m ≠ 0) (hn0 : n ≠ 0) (hd : ¬ (Int.gcd m n : Int) ∣ y - x) :
    Calls Try.prog 51 #[.agg #[.bool sa, .slice Aa na ca], .agg #[.bool sb, .slice Ab nb cb], .agg #[.bool sf, .slice Af nf cf], .agg #[.bool sd, .slice Ad nd cd]] w (Gv w (T3 (ZR w.heap.size (0)) (ZR w.heap.size (0)) (Is (.int .i64 6)))) := by
  have Lx : ln x ≤ 67108864 := Nat.le_trans hx.ln la
  have Lm : ln m ≤ 67108864 := Nat.le_trans hm.ln lb
  have Ly : ln y ≤ 67108864 := Nat.le_trans hy.ln lf
  have Ln : ln n ≤ 67108864 := Nat.le_trans hn.ln ld
  refine sx_enter Try.func51 rfl (n := 62) rfl (Nat.le_of_ble_eq_true rfl) (args := [.agg #[.bool sa, .slice Aa na ca], .agg #[.bool sb, .slice Ab nb cb], .agg #[.bool sf, .slice Af nf cf], .agg #[.bool sd, .slice Ad nd cd]]) ?_
  refine cw_keep [(0, .agg #[.bool sa, .slice Aa na ca]), (1, .agg #[.bool sb, .slice Ab nb cb]), (2, .agg #[.bool sf, .slice Af nf cf]), (3, .agg #[.bool sd, .slice Ad nd cd])] ⟨rfl, rfl, rfl, rfl, trivial⟩ ?_
  refine cw_seq ?_
  refine cw_region ?_
  refine wl_box rfl rfl (vs := [.bool sa, .slice Aa na ca]) rfl (by decide) fun g1 v2 nb => ?_
  have hb4 := nb.bk
  have ge5 : w.heap.size ≤ g1 := by rw [← nb.at_]; exact (Ext.refl w).size
  have e3 := nb.ext
  clear nb
  have hw1 : Ext w v2 := (Ext.refl w).trans e3
  refine wl_box rfl rfl (vs := [.bool sb, .slice Ab nb cb]) rfl (by decide) fun g6 v7 nb => ?_
  have hb9 := nb.bk
  have ge10 : w.heap.size ≤ g6 := by rw [← nb.at_]; exact hw1.size
  have q11 : g1 < g6 := by rw [← nb.at_]; exact hb4.lt
  have e8 := nb.ext
  clear nb
  have hw2 : Ext w v7 := hw1.trans e8
  refine wl_box rfl rfl (vs := [.bool sf, .slice Af nf cf]) rfl (by decide) fun g12 v13 nb => ?_
  have hb15 := nb.bk
  have ge16 : w.heap.size ≤ g12 := by rw [← nb.at_]; exact hw2.size
  have q17 : g6 < g12 := by rw [← nb.at_]; exact hb9.lt
  have e14 := nb.ext
  clear nb
  have hw3 : Ext w v13 := hw2.trans e14
  refine wl_box rfl rfl (vs := [.bool sd, .slice Ad nd cd]) rfl (by decide) fun g18 v19 nb => ?_
  have hb21 := nb.bk
  have ge22 : w.heap.size ≤ g18 := by rw [← nb.at_]; exact hw3.size
  have q23 : g12 < g18 := by rw [← nb.at_]; exact hb15.lt
  have e20 := nb.ext
  clear nb
  have hw4 : Ext w v19 := hw3.trans e20
  refine wl_alloc rfl (z := .agg #[.bool false, .slice none 0 0]) (vs := [.bool false, .slice none 0 0]) (fun _ => by kernel_rfl) rfl (by decide) fun g24 v25 nb => ?_
  have hb27 := nb.bk
  have ge28 : w.heap.size ≤ g24 := by rw [← nb.at_]; exact hw4.size
  have q29 : g18 < g24 := by rw [← nb.at_]; exact hb21.lt
  have e26 := nb.ext
  clear nb
  have hw5 : Ext w v25 := hw4.trans e26
  refine wl_alloc rfl (z := .agg #[.bool false, .slice none 0 0]) (vs := [.bool false, .slice none 0 0]) (fun _ => by kernel_rfl) rfl (by decide) fun g30 v31 nb => ?_
  have hb33 := nb.bk
  have ge34 : w.heap.size ≤ g30 := by rw [← nb.at_]; exact hw5.size
  have q35 : g24 < g30 := by rw [← nb.at_]; exact hb27.lt
  have e32 := nb.ext
  clear nb
  have hw6 : Ext w v31 := hw5.trans e32
  refine wl_assign rfl rfl (by decide) ?_
  refine wl_nil ?_
  refine eo_then ?_
  refine cw_seq ?_
  refine cw_seq ?_
  refine cw_region ?_
  refine wl_load rfl rfl (load_agg aggInt (hb9.ext (e14.trans (e20.trans (e26.trans e32)))) [.bool sb, .slice Ab nb cb] rfl (Nat.le_of_ble_eq_true rfl) rfl) (by decide) ?_
  refine wl_call rfl rfl (vs := [.agg #[.bool sb, .slice Ab nb cb]]) (by kernel_rfl) (by decide) (g_zint_Sign (hm.ext hw6) (Nat.le_trans lb (by decide))) ?_
  rintro _ v36 ⟨xr38, rfl, r38, e37⟩
  refine ret_intro ?_
  have hw7 : Ext w v36 := hw6.trans e37
  obtain rfl := r38
  refine wl_cmp rfl rfl rfl false (scmp_eq_f hm0) (by decide) ?_
  refine wl_move rfl rfl (by decide) ?_
  refine wl_load rfl rfl (load_agg aggInt (hb21.ext (e26.trans (e32.trans e37))) [.bool sd, .slice Ad nd cd] rfl (Nat.le_of_ble_eq_true rfl) rfl) (by decide) ?_
  refine wl_call rfl rfl (vs := [.agg #[.bool sd, .slice Ad nd cd]]) (by kernel_rfl) (by decide) (g_zint_Sign (hn.ext hw7) (Nat.le_trans ld (by decide))) ?_
  rintro _ v39 ⟨xr41, rfl, r41, e40⟩
  refine ret_intro ?_
  have hw8 : Ext w v39 := hw7.trans e40
  obtain rfl := r41
  refine wl_cmp rfl rfl rfl false (scmp_eq_f hn0) (by decide) ?_
  refine wl_pure rfl rfl (v := .bool false) (by decide) (by kernel_rfl) ?_
  refine wl_nil ?_
  refine eo_then ?_
  refine cw_false rfl ?_
  refine cw_skip ?_
  refine eo_then ?_
  refine cw_seq ?_
  refine cw_region ?_
  refine wl_load rfl rfl (load_agg aggInt (hb9.ext (e14.trans (e20.trans (e26.trans (e32.trans (e37.trans e40)))))) [.bool sb, .slice Ab nb cb] rfl (Nat.le_of_ble_eq_true rfl) rfl) (by decide) ?_
  refine wl_load rfl rfl (load_agg aggInt (hb21.ext (e26.trans (e32.trans (e37.trans e40)))) [.bool sd, .slice Ad nd cd] rfl (Nat.le_of_ble_eq_true rfl) rfl) (by decide) ?_
  refine wl_call rfl rfl (vs := [.agg #[.bool sb, .slice Ab nb cb], .agg #[.bool sd, .slice Ad nd cd]]) (by kernel_rfl) (by decide) (g_bezout_Ext hw8.size (hm.ext hw8) (Nat.le_trans lb (by decide)) (hn.ext hw8) (Nat.le_trans ld (by decide))) ?_
  rintro _ v42 ⟨u45, v46, p47, xr44, rfl, r44, e43⟩
  have L48 : ln ((Int.gcd m n : Int)) ≤ 67108864 := Nat.le_trans (ln_gcd _ _) (Nat.max_le.2 ⟨Nat.le_trans Lm (by decide), Nat.le_trans Ln (by decide)⟩)
  have L49 : ln (u45) ≤ 67108865 := (p47.ln_u Lm Ln)
  have L50 : ln (v46) ≤ 67108865 := (p47.ln_v Lm Ln)
  refine ret_intro ?_
  have hw9 : Ext w v42 := hw8.trans e43
  obtain ⟨a51_0, a51_1, a51_2, rfl, r51_0, r51_1, r51_2⟩ := r44
  obtain ⟨s52, A52, n52, c52, rfl, z52⟩ := r51_0
  obtain ⟨s53, A53, n53, c53, rfl, z53⟩ := r51_1
  obtain ⟨s54, A54, n54, c54, rfl, z54⟩ := r51_2
  refine wl_move rfl rfl (by decide) ?_
  refine wl_pure rfl rfl (v := .agg #[.bool s52, .slice A52 n52 c52]) (by decide) (by kernel_rfl) ?_
  refine wl_pure rfl rfl (v := .agg #[.bool s53, .slice A53 n53 c53]) (by decide) (by kernel_rfl) ?_
  refine wl_pure rfl rfl (v := .agg #[.bool s54, .slice A54 n54 c54]) (by decide) (by kernel_rfl) ?_
  refine wl_alloc rfl (z := .agg #[.bool false, .slice none 0 0]) (vs := [.bool false, .slice none 0 0]) (fun _ => by kernel_rfl) rfl (by decide) fun g55 v56 nb => ?_
  have hb58 := nb.bk
  have ge59 : w.heap.size ≤ g55 := by rw [← nb.at_]; exact hw9.size
  have q60 : g30 < g55 := by rw [← nb.at_]; exact (hb33.ext (e37.trans (e40.trans e43))).lt
  have e57 := nb.ext
  clear nb
  have hw10 : Ext w v56 := hw9.trans e57
  refine wl_alloc rfl (z := .agg #[.bool false, .slice none 0 0]) (vs := [.bool false, .slice none 0 0]) (fun _ => by kernel_rfl) rfl (by decide) fun g61 v62 nb => ?_
  have hb64 := nb.bk
  have ge65 : w.heap.size ≤ g61 := by rw [← nb.at_]; exact hw10.size
  have q66 : g55 < g61 := by rw [← nb.at_]; exact hb58.lt
  have e63 := nb.ext
  clear nb
  have hw11 : Ext w v62 := hw10.trans e63
  refine wl_alloc rfl (z := .agg #[.bool false, .slice none 0 0]) (vs := [.bool false, .slice none 0 0]) (fun _ => by kernel_rfl) rfl (by decide) fun g67 v68 nb => ?_
  have hb70 := nb.bk
  have ge71 : w.heap.size ≤ g67 := by rw [← nb.at_]; exact hw11.size
  have q72 : g61 < g67 := by rw [← nb.at_]; exact hb64.lt
  have e69 := nb.ext
  clear nb
  have hw12 : Ext w v68 := hw11.trans e69
  have hb74 := (hb58.ext (e63.trans e69))
  refine wl_stored rfl rfl rfl aggInt rfl hb74 (Nat.le_of_ble_eq_true rfl) rfl [.bool s52, .slice A52 n52 c52] rfl fun v73 hb75 u76 hs77 => ?_
  have hw13 : Ext w v73 := u76.ext hw12 ge59
  have hb79 := ((hb64.ext e69).updN u76 (by omega))
  refine wl_stored rfl rfl rfl aggInt rfl hb79 (Nat.le_of_ble_eq_true rfl) rfl [.bool s53, .slice A53 n53 c53] rfl fun v78 hb80 u81 hs82 => ?_
  have hw14 : Ext w v78 := u81.ext hw13 ge65
  have hb84 := ((hb70.updN u76 (by omega)).updN u81 (by omega))
  refine wl_stored rfl rfl rfl aggInt rfl hb84 (Nat.le_of_ble_eq_true rfl) rfl [.bool s54, .slice A54 n54 c54] rfl fun v83 hb85 u86 hs87 => ?_
  have hw15 : Ext w v83 := u86.ext hw14 ge71
  refine wl_nil ?_
  refine eo_then ?_
  refine cw_seq ?_
  have L88 : ln (y - x) ≤ 67108865 := Nat.le_trans (ln_sub Ly Lx) (by decide)
  refine cw_draw mix 9 [6, 7] [Is (.agg #[.bool sf, .slice Af nf cf]), Is (.agg #[.bool sa, .slice Aa na ca]), ZR w.heap.size (y - x), Is (.agg #[.bool s52, .slice A52 n52 c52]), T2 (ZR w.heap.size (0)) (Is (.int .i64 8)), T2 (ZR w.heap.size (0)) (Is (.int .i64 8)), ZR w.heap.size (0), Is (.int .i64 8), PR v83.heap.size 27 [.bool false, .slice none 0 0]] [[], [], [0, 1], [], [2, 3], [4], [5], [5], []] [[], [], [0, 1], [], [0, 1, 2, 3], [0, 1, 2, 3, 4], [0, 1, 2, 3, 4, 5], [0, 1, 2, 3, 4, 5], [], [0, 1, 2, 3, 4, 5, 6, 8], [0, 1, 2, 3, 4, 5, 6, 7, 8, 9]] rfl
    (obs_cons rfl rfl (hob rfl rfl ?_) (obs_cons rfl rfl (hob rfl rfl ?_) (obs_cons rfl rfl (hob rfl rfl ?_) (obs_cons rfl rfl (hob rfl rfl ?_) (obs_cons rfl rfl (hob rfl rfl ?_) (obs_cons rfl rfl (hob rfl rfl ?_) (obs_float rfl rfl (fob rfl ?_) (obs_float rfl rfl (fob rfl ?_) (obs_cons rfl rfl (hob rfl rfl ?_) obs_nil))))))))) ?_
  · -- 0
    intro v95 e96
    have hw16 : Ext w v95 := hw15.trans e96
    refine deps_nil ?_
    refine wl_load rfl rfl (load_agg aggInt (((((hb15.ext (e20.trans (e26.trans (e32.trans (e37.trans (e40.trans (e43.trans (e57.trans (e63.trans e69))))))))).updN u76 (by omega)).updN u81 (by omega)).updN u86 (by omega)).ext e96) [.bool sf, .slice Af nf cf] rfl (Nat.le_of_ble_eq_true rfl) rfl) (by decide) ?_
    exact pi_done rfl (Ext.refl _) rfl
  · -- 1
    intro v97 e98
    have hw16 : Ext w v97 := hw15.trans e98
    refine deps_nil ?_
    refine wl_load rfl rfl (load_agg aggInt (((((hb4.ext (e8.trans (e14.trans (e20.trans (e26.trans (e32.trans (e37.trans (e40.trans (e43.trans (e57.trans (e63.trans e69))))))))))).updN u76 (by omega)).updN u81 (by omega)).updN u86 (by omega)).ext e98) [.bool sa, .slice Aa na ca] rfl (Nat.le_of_ble_eq_true rfl) rfl) (by decide) ?_
    exact pi_done rfl (Ext.refl _) rfl
  · -- 2
    intro v99 e100
    have hw16 : Ext w v99 := hw15.trans e100
    refine deps_cons rfl rfl fun x101 y102 h103 e104 f105 => ?_
    obtain rfl := h103
    refine deps_cons rfl rfl fun x106 y107 h108 e109 f110 => ?_
    obtain rfl := h108
    refine deps_nil ?_
    have L111 : ln (y - x) ≤ 67108865 := Nat.le_trans (ln_sub Ly Lx) (by decide)
    refine wl_call rfl rfl (vs := [.agg #[.bool sf, .slice Af nf cf], .agg #[.bool sa, .slice Aa na ca]]) (by kernel_rfl) (by decide) (g_zint_Sub hw16.size (hy.ext hw16) (Nat.le_trans lf (by decide)) (hx.ext hw16) (Nat.le_trans la (by decide))) ?_
    rintro _ v112 ⟨xr114, rfl, r114, e113⟩
    refine ret_intro ?_
    have hw17 : Ext w v112 := hw16.trans e113
    obtain ⟨s115, A115, n115, c115, rfl, z115⟩ := r114
    exact pi_done rfl e113 ⟨_, _, _, _, rfl, z115⟩
  · -- 3
    intro v116 e117
    have hw16 : Ext w v116 := hw15.trans e117
    refine deps_nil ?_
    refine wl_load rfl rfl (load_agg aggInt (((hb75.updN u81 (by omega)).updN u86 (by omega)).ext e117) [.bool s52, .slice A52 n52 c52] rfl (Nat.le_of_ble_eq_true rfl) rfl) (by decide) ?_
    exact pi_done rfl (Ext.refl _) rfl
  · -- 4
    intro v118 e119
    have hw16 : Ext w v118 := hw15.trans e119
    refine deps_cons rfl rfl fun x120 y121 h122 e123 f124 => ?_
    obtain ⟨s125, A125, n125, c125, rfl, z125⟩ := h122
    have z125 := z125.ext f124
    refine deps_cons rfl rfl fun x126 y127 h128 e129 f130 => ?_
    obtain rfl := h128
    refine deps_nil ?_
    refine wl_call rfl rfl (vs := [.agg #[.bool s125, .slice A125 n125 c125], .agg #[.bool s52, .slice A52 n52 c52]]) (by kernel_rfl) (by decide) (g_zint_Exact_not hw16.size z125.zi (z125.le (Nat.le_trans L88 (by decide))) (((((z52.ext (e57.trans (e63.trans e69))).updT hb74 u76).updT hb79 u81).updT hb84 u86).ext e119).zi (z52.le (Nat.le_trans L48 (by decide))) (gcd_ne_l hm0) (mod_of_not hd)) ?_
    rintro _ v131 ⟨xr133, rfl, r133, e132⟩
    refine ret_intro ?_
    have hw17 : Ext w v131 := hw16.trans e132
    obtain ⟨a134_0, a134_1, rfl, r134_0, r134_1⟩ := r133
    obtain ⟨s135, A135, n135, c135, rfl, z135⟩ := r134_0
    obtain rfl := r134_1
    exact pi_done rfl e132 ⟨_, _, rfl, ⟨_, _, _, _, rfl, z135⟩, rfl⟩
  · -- 5
    intro v136 e137
    have hw16 : Ext w v136 := hw15.trans e137
    refine deps_cons rfl rfl fun x138 y139 h140 e141 f142 => ?_
    obtain ⟨a143_0, a143_1, rfl, r143_0, r143_1⟩ := h140
    obtain ⟨s144, A144, n144, c144, rfl, z144⟩ := r143_0
    obtain rfl := r143_1
    have z144 := z144.ext f142
    refine deps_nil ?_
    refine wl_move rfl rfl (by decide) ?_
    exact pi_done rfl (Ext.refl _) ⟨_, _, rfl, ⟨_, _, _, _, rfl, z144⟩, rfl⟩
  · -- 6
    intro v145 e146
    have hw16 : Ext w v145 := hw15.trans e146
    refine deps_cons rfl rfl fun x147 y148 h149 e150 f151 => ?_
    obtain ⟨a152_0, a152_1, rfl, r152_0, r152_1⟩ := h149
    obtain ⟨s153, A153, n153, c153, rfl, z153⟩ := r152_0
    obtain rfl := r152_1
    have z153 := z153.ext f151
    refine deps_nil ?_
    exact ⟨.agg #[.bool s153, .slice A153 n153 c153], rfl, rfl, fun _ => by kernel_rfl, ⟨_, _, _, _, rfl, z153⟩⟩
  · -- 7
    intro v154 e155
    have hw16 : Ext w v154 := hw15.trans e155
    refine deps_cons rfl rfl fun x156 y157 h158 e159 f160 => ?_
    obtain ⟨a161_0, a161_1, rfl, r161_0, r161_1⟩ := h158
    obtain ⟨s162, A162, n162, c162, rfl, z162⟩ := r161_0
    obtain rfl := r161_1
    have z162 := z162.ext f160
    refine deps_nil ?_
    exact ⟨.int .i64 8, rfl, rfl, fun _ => by kernel_rfl, rfl⟩
  · -- 8
    intro v163 e164
    have hw16 : Ext w v163 := hw15.trans e164
    refine deps_nil ?_
    refine wl_alloc rfl (z := .agg #[.bool false, .slice none 0 0]) (vs := [.bool false, .slice none 0 0]) (fun _ => by kernel_rfl) rfl (by decide) fun g165 v166 nb => ?_
    exact pi_done rfl nb.ext ⟨_, rfl, by rw [← nb.at_]; exact e164.size, nb.bk⟩
  · -- all
    intro v167 e168
    have hw16 : Ext w v167 := hw15.trans e168
    refine deps_cons rfl rfl fun x169 y170 h171 e172 f173 => ?_
    obtain rfl := h171
    refine deps_cons rfl rfl fun x174 y175 h176 e177 f178 => ?_
    obtain rfl := h176
    refine deps_cons rfl rfl fun x179 y180 h181 e182 f183 => ?_
    obtain ⟨s184, A184, n184, c184, rfl, z184⟩ := h181
    have z184 := z184.ext f183
    refine deps_cons rfl rfl fun x185 y186 h187 e188 f189 => ?_
    obtain rfl := h187
    refine deps_cons rfl rfl fun x190 y191 h192 e193 f194 => ?_
    obtain ⟨a195_0, a195_1, rfl, r195_0, r195_1⟩ := h192
    obtain ⟨s196, A196, n196, c196, rfl, z196⟩ := r195_0
    obtain rfl := r195_1
    have z196 := z196.ext f194
    refine deps_cons rfl rfl fun x197 y198 h199 e200 f201 => ?_
    obtain ⟨a202_0, a202_1, rfl, r202_0, r202_1⟩ := h199
    obtain ⟨s203, A203, n203, c203, rfl, z203⟩ := r202_0
    obtain rfl := r202_1
    have z203 := z203.ext f201
    refine deps_cons rfl rfl fun x204 y205 h206 e207 f208 => ?_
    obtain ⟨s209, A209, n209, c209, rfl, z209⟩ := h206
    have z209 := z209.ext f208
    refine deps_cons rfl rfl fun x210 y211 h212 e213 f214 => ?_
    obtain rfl := h212
    refine deps_cons rfl rfl fun x215 y216 h217 e218 f219 => ?_
    obtain ⟨g220, rfl, ge222, hb221⟩ := h217
    have hb221 := hb221.ext f219
    have q223 : g67 < g220 := Nat.lt_of_lt_of_le hb85.lt ge222
    have ge222 : w.heap.size ≤ g220 := Nat.le_trans hw15.size ge222
    refine deps_nil ?_
    have hb225 := hb221
    refine wl_stored rfl rfl rfl aggInt rfl hb225 (Nat.le_of_ble_eq_true rfl) rfl [.bool s209, .slice A209 n209 c209] rfl fun v224 hb226 u227 hs228 => ?_
    have hw17 : Ext w v224 := u227.ext hw16 ge222
    refine wl_assign rfl rfl (by decide) ?_
    refine wl_nil ?_
    refine eo_np ?_
    refine eo_then ?_
    refine cw_seq ?_
    refine cw_seq ?_
    refine cw_region ?_
    refine wl_move rfl rfl (by decide) ?_
    refine wl_pure rfl rfl (v := .bool true) (by decide) (by kernel_rfl) ?_
    refine wl_nil ?_
    refine eo_then ?_
    refine cw_true rfl ?_
    refine cw_seq ?_
    refine cw_region ?_
    refine wl_pure rfl rfl (v := .agg #[.bool false, .slice none 0 0]) (by decide) (by kernel_rfl) ?_
    refine wl_pure rfl rfl (v := .agg #[.bool false, .slice none 0 0]) (by decide) (by kernel_rfl) ?_
    have hb230 := ((((((hb27.ext (e32.trans (e37.trans (e40.trans (e43.trans (e57.trans (e63.trans e69))))))).updN u76 (by omega)).updN u81 (by omega)).updN u86 (by omega)).ext e168).updN u227 (by omega))
    refine wl_stored rfl rfl rfl aggInt rfl hb230 (Nat.le_of_ble_eq_true rfl) rfl [.bool false, .slice none 0 0] rfl fun v229 hb231 u232 hs233 => ?_
    have hw18 : Ext w v229 := u232.ext hw17 ge28
    have hb235 := (((((((hb33.ext (e37.trans (e40.trans (e43.trans (e57.trans (e63.trans e69)))))).updN u76 (by omega)).updN u81 (by omega)).updN u86 (by omega)).ext e168).updN u227 (by omega)).updN u232 (by omega))
    refine wl_stored rfl rfl rfl aggInt rfl hb235 (Nat.le_of_ble_eq_true rfl) rfl [.bool false, .slice none 0 0] rfl fun v234 hb236 u237 hs238 => ?_
    have hw19 : Ext w v234 := u237.ext hw18 ge34
    refine wl_assign rfl rfl (by decide) ?_
    refine wl_nil ?_
    refine eo_then ?_
    refine cw_ret ?_
    refine eo_thenR ?_
    refine eo_ret [.agg #[.bool false, .slice none 0 0], .agg #[.bool false, .slice none 0 0], .int .i64 6] rfl ⟨⟨_, rfl, load_agg aggInt (hb231.updN u237 (by omega)) [.bool false, .slice none 0 0] rfl (Nat.le_of_ble_eq_true rfl) rfl⟩, ⟨_, rfl, load_agg aggInt hb236 [.bool false, .slice none 0 0] rfl (Nat.le_of_ble_eq_true rfl) rfl⟩, rfl, trivial⟩ ?_
    exact ⟨_, rfl, ⟨_, _, _, rfl, ⟨_, _, _, _, rfl, (((Zr.zero (w := v224) (base := w.heap.size)).updT hb230 u232).updT hb235 u237)⟩, ⟨_, _, _, _, rfl, (((Zr.zero (w := v224) (base := w.heap.size)).updT hb230 u232).updT hb235 u237)⟩, rfl⟩, hw19⟩
theorem g_bezout_Crt_none {w : World} {sa : Bool} {Aa : Option Addr} {na ca : Nat} {x : Int} {sb : Bool} {Ab : Option Addr} {nb cb : Nat} {m : Int} {sf : Bool} {Af : Option Addr} {nf cf : Nat} {y : Int} {sd : Bool} {Ad : Option Addr} {nd cd : Nat} {n : Int} {b : Nat} (hb : b ≤ w.heap.size)  (hx : Zi w sa Aa na ca x) (la : na ≤ 67108864) (hm : Zi w sb Ab nb cb m) (lb : nb ≤ 67108864) (hy : Zi w sf Af nf cf y) (lf : nf ≤ 67108864) (hn : Zi w sd Ad nd cd n) (ld : nd ≤ 67108864) (hm0 : m ≠ 0) (hn0 : n ≠ 0) (hd : ¬ (Int.gcd m n : Int) ∣ y - x) :
    Calls Try.prog 51 #[.agg #[.bool sa, .slice Aa na ca], .agg #[.bool sb, .slice Ab nb cb], .agg #[.bool sf, .slice Af nf cf], .agg #[.bool sd, .slice Ad nd cd]] w (Gv w (T3 (ZR b (0)) (ZR b (0)) (Is (.int .i64 6)))) := (g_bezout_Crt_noneI hx la hm lb hy lf hn ld hm0 hn0 hd).mono (Gv.imp (T3.imp (ZR.imp hb) (ZR.imp hb) Is.imp))
set_option maxHeartbeats 4000000 in
theorem g_bezout_Crt_okI {w : World} {sa : Bool} {Aa : Option Addr} {na ca : Nat} {x : Int} {sb : Bool} {Ab : Option Addr} {nb cb : Nat} {m : Int} {sf : Bool} {Af : Option Addr} {nf cf : Nat} {y : Int} {sd : Bool} {Ad : Option Addr} {nd cd : Nat} {n : Int} (hx : Zi w sa Aa na ca x) (la : na ≤ 67108864) (hm : Zi w sb Ab nb cb m) (lb : nb ≤ 67108864) (hy : Zi w sf Af nf cf y) (lf : nf ≤ 67108864) (hn : Zi w sd Ad nd cd n) (ld : nd ≤ 67108864) (hm0 : m ≠ 0) (hn0 : n ≠ 0) {s : Int} (d1 : m ∣ x - s) (d2 : n ∣ y - s) :
    Calls Try.prog 51 #[.agg #[.bool sa, .slice Aa na ca], .agg #[.bool sb, .slice Ab nb cb], .agg #[.bool sf, .slice Af nf cf], .agg #[.bool sd, .slice Ad nd cd]] w (Gv w (T3 (ZR w.heap.size (s % (Int.lcm m n : Int))) (ZR w.heap.size ((Int.lcm m n : Int))) (Is (.int .i64 0)))) := by
  have Lx : ln x ≤ 67108864 := Nat.le_trans hx.ln la
  have Lm : ln m ≤ 67108864 := Nat.le_trans hm.ln lb
  have Ly : ln y ≤ 67108864 := Nat.le_trans hy.ln lf
  have Ln : ln n ≤ 67108864 := Nat.le_trans hn.ln ld
  refine sx_enter Try.func51 rfl (n := 62) rfl (Nat.le_of_ble_eq_true rfl) (args := [.agg #[.bool sa, .slice Aa na ca], .agg #[.bool sb, .slice Ab nb cb], .agg #[.bool sf, .slice Af nf cf], .agg #[.bool sd, .slice Ad nd cd]]) ?_
  refine cw_keep [(0, .agg #[.bool sa, .slice Aa na ca]), (1, .agg #[.bool sb, .slice Ab nb cb]), (2, .agg #[.bool sf, .slice Af nf cf]), (3, .agg #[.bool sd, .slice Ad nd cd])] ⟨rfl, rfl, rfl, rfl, trivial⟩ ?_
  refine cw_seq ?_
  refine cw_region ?_
  refine wl_box rfl rfl (vs := [.bool sa, .slice Aa na ca]) rfl (by decide) fun g1 v2 nb => ?_
  have hb4 := nb.bk
  have ge5 : w.heap.size ≤ g1 := by rw [← nb.at_]; exact (Ext.refl w).size
  have e3 := nb.ext
  clear nb
  have hw1 : Ext w v2 := (Ext.refl w).trans e3
  refine wl_box rfl rfl (vs := [.bool sb, .slice Ab nb cb]) rfl (by decide) fun g6 v7 nb => ?_
  have hb9 := nb.bk
  have ge10 : w.heap.size ≤ g6 := by rw [← nb.at_]; exact hw1.size
  have q11 : g1 < g6 := by rw [← nb.at_]; exact hb4.lt
  have e8 := nb.ext
  clear nb
  have hw2 : Ext w v7 := hw1.trans e8
  refine wl_box rfl rfl (vs := [.bool sf, .slice Af nf cf]) rfl (by decide) fun g12 v13 nb => ?_
  have hb15 := nb.bk
  have ge16 : w.heap.size ≤ g12 := by rw [← nb.at_]; exact hw2.size
  have q17 : g6 < g12 := by rw [← nb.at_]; exact hb9.lt
  have e14 := nb.ext
  clear nb
  have hw3 : Ext w v13 := hw2.trans e14
  refine wl_box rfl rfl (vs := [.bool sd, .slice Ad nd cd]) rfl (by decide) fun g18 v19 nb => ?_
  have hb21 := nb.bk
  have ge22 : w.heap.size ≤ g18 := by rw [← nb.at_]; exact hw3.size
  have q23 : g12 < g18 := by rw [← nb.at_]; exact hb15.lt
  have e20 := nb.ext
  clear nb
  have hw4 : Ext w v19 := hw3.trans e20
  refine wl_alloc rfl (z := .agg #[.bool false, .slice none 0 0]) (vs := [.bool false, .slice none 0 0]) (fun _ => by kernel_rfl) rfl (by decide) fun g24 v25 nb => ?_
  have hb27 := nb.bk
  have ge28 : w.heap.size ≤ g24 := by rw [← nb.at_]; exact hw4.size
  have q29 : g18 < g24 := by rw [← nb.at_]; exact hb21.lt
  have e26 := nb.ext
  clear nb
  have hw5 : Ext w v25 := hw4.trans e26
  refine wl_alloc rfl (z := .agg #[.bool false, .slice none 0 0]) (vs := [.bool false, .slice none 0 0]) (fun _ => by kernel_rfl) rfl (by decide) fun g30 v31 nb => ?_
  have hb33 := nb.bk
  have ge34 : w.heap.size ≤ g30 := by rw [← nb.at_]; exact hw5.size
  have q35 : g24 < g30 := by rw [← nb.at_]; exact hb27.lt
  have e32 := nb.ext
  clear nb
  have hw6 : Ext w v31 := hw5.trans e32
  refine wl_assign rfl rfl (by decide) ?_
  refine wl_nil ?_
  refine eo_then ?_
  refine cw_seq ?_
  refine cw_seq ?_
  refine cw_region ?_
  refine wl_load rfl rfl (load_agg aggInt (hb9.ext (e14.trans (e20.trans (e26.trans e32)))) [.bool sb, .slice Ab nb cb] rfl (Nat.le_of_ble_eq_true rfl) rfl) (by decide) ?_
  refine wl_call rfl rfl (vs := [.agg #[.bool sb, .slice Ab nb cb]]) (by kernel_rfl) (by decide) (g_zint_Sign (hm.ext hw6) (Nat.le_trans lb (by decide))) ?_
  rintro _ v36 ⟨xr38, rfl, r38, e37⟩
  refine ret_intro ?_
  have hw7 : Ext w v36 := hw6.trans e37
  obtain rfl := r38
  refine wl_cmp rfl rfl rfl false (scmp_eq_f hm0) (by decide) ?_
  refine wl_move rfl rfl (by decide) ?_
  refine wl_load rfl rfl (load_agg aggInt (hb21.ext (e26.trans (e32.trans e37))) [.bool sd, .slice Ad nd cd] rfl (Nat.le_of_ble_eq_true rfl) rfl) (by decide) ?_
  refine wl_call rfl rfl (vs := [.agg #[.bool sd, .slice Ad nd cd]]) (by kernel_rfl) (by decide) (g_zint_Sign (hn.ext hw7) (Nat.le_trans ld (by decide))) ?_
  rintro _ v39 ⟨xr41, rfl, r41, e40⟩
  refine ret_intro ?_
  have hw8 : Ext w v39 := hw7.trans e40
  obtain rfl := r41
  refine wl_cmp rfl rfl rfl false (scmp_eq_f hn0) (by decide) ?_
  refine wl_pure rfl rfl (v := .bool false) (by decide) (by kernel_rfl) ?_
  refine wl_nil ?_
  refine eo_then ?_
  refine cw_false rfl ?_
  refine cw_skip ?_
  refine eo_then ?_
  refine cw_seq ?_
  refine cw_region ?_
  refine wl_load rfl rfl (load_agg aggInt (hb9.ext (e14.trans (e20.trans (e26.trans (e32.trans (e37.trans e40)))))) [.bool sb, .slice Ab nb cb] rfl (Nat.le_of_ble_eq_true rfl) rfl) (by decide) ?_
  refine wl_load rfl rfl (load_agg aggInt (hb21.ext (e26.trans (e32.trans (e37.trans e40)))) [.bool sd, .slice Ad nd cd] rfl (Nat.le_of_ble_eq_true rfl) rfl) (by decide) ?_
  refine wl_call rfl rfl (vs := [.agg #[.bool sb, .slice Ab nb cb], .agg #[.bool sd, .slice Ad nd cd]]) (by kernel_rfl) (by decide) (g_bezout_Ext hw8.size (hm.ext hw8) (Nat.le_trans lb (by decide)) (hn.ext hw8) (Nat.le_trans ld (by decide))) ?_
  rintro _ v42 ⟨u45, v46, p47, xr44, rfl, r44, e43⟩
  have L48 : ln ((Int.gcd m n : Int)) ≤ 67108864 := Nat.le_trans (ln_gcd _ _) (Nat.max_le.2 ⟨Nat.le_trans Lm (by decide), Nat.le_trans Ln (by decide)⟩)
  have L49 : ln (u45) ≤ 67108865 := (p47.ln_u Lm Ln)
  have L50 : ln (v46) ≤ 67108865 := (p47.ln_v Lm Ln)
  refine ret_intro ?_
  have hw9 : Ext w v42 := hw8.trans e43
  obtain ⟨a51_0, a51_1, a51_2, rfl, r51_0, r51_1, r51_2⟩ := r44
  obtain ⟨s52, A52, n52, c52, rfl, z52⟩ := r51_0
  obtain ⟨s53, A53, n53, c53, rfl, z53⟩ := r51_1
  obtain ⟨s54, A54, n54, c54, rfl, z54⟩ := r51_2
  refine wl_move rfl rfl (by decide) ?_
  refine wl_pure rfl rfl (v := .agg #[.bool s52, .slice A52 n52 c52]) (by decide) (by kernel_rfl) ?_
  refine wl_pure rfl rfl (v := .agg #[.bool s53, .slice A53 n53 c53]) (by decide) (by kernel_rfl) ?_
  refine wl_pure rfl rfl (v := .agg #[.bool s54, .slice A54 n54 c54]) (by decide) (by kernel_rfl) ?_
  refine wl_alloc rfl (z := .agg #[.bool false, .slice none 0 0]) (vs := [.bool false, .slice none 0 0]) (fun _ => by kernel_rfl) rfl (by decide) fun g55 v56 nb => ?_
  have hb58 := nb.bk
  have ge59 : w.heap.size ≤ g55 := by rw [← nb.at_]; exact hw9.size
  have q60 : g30 < g55 := by rw [← nb.at_]; exact (hb33.ext (e37.trans (e40.trans e43))).lt
  have e57 := nb.ext
  clear nb
  have hw10 : Ext w v56 := hw9.trans e57
  refine wl_alloc rfl (z := .agg #[.bool false, .slice none 0 0]) (vs := [.bool false, .slice none 0 0]) (fun _ => by kernel_rfl) rfl (by decide) fun g61 v62 nb => ?_
  have hb64 := nb.bk
  have ge65 : w.heap.size ≤ g61 := by rw [← nb.at_]; exact hw10.size
  have q66 : g55 < g61 := by rw [← nb.at_]; exact hb58.lt
  have e63 := nb.ext
  clear nb
  have hw11 : Ext w v62 := hw10.trans e63
  refine wl_alloc rfl (z := .agg #[.bool false, .slice none 0 0]) (vs := [.bool false, .slice none 0 0]) (fun _ => by kernel_rfl) rfl (by decide) fun g67 v68 nb => ?_
  have hb70 := nb.bk
  have ge71 : w.heap.size ≤ g67 := by rw [← nb.at_]; exact hw11.size
  have q72 : g61 < g67 := by rw [← nb.at_]; exact hb64.lt
  have e69 := nb.ext
  clear nb
  have hw12 : Ext w v68 := hw11.trans e69
  have hb74 := (hb58.ext (e63.trans e69))
  refine wl_stored rfl rfl rfl aggInt rfl hb74 (Nat.le_of_ble_eq_true rfl) rfl [.bool s52, .slice A52 n52 c52] rfl fun v73 hb75 u76 hs77 => ?_
  have hw13 : Ext w v73 := u76.ext hw12 ge59
  have hb79 := ((hb64.ext e69).updN u76 (by omega))
  refine wl_stored rfl rfl rfl aggInt rfl hb79 (Nat.le_of_ble_eq_true rfl) rfl [.bool s53, .slice A53 n53 c53] rfl fun v78 hb80 u81 hs82 => ?_
  have hw14 : Ext w v78 := u81.ext hw13 ge65
  have hb84 := ((hb70.updN u76 (by omega)).updN u81 (by omega))
  refine wl_stored rfl rfl rfl aggInt rfl hb84 (Nat.le_of_ble_eq_true rfl) rfl [.bool s54, .slice A54 n54 c54] rfl fun v83 hb85 u86 hs87 => ?_
  have hw15 : Ext w v83 := u86.ext hw14 ge71
  refine wl_nil ?_
  refine eo_then ?_
  refine cw_seq ?_
  have L88 : ln (y - x) ≤ 67108865 := Nat.le_trans (ln_sub Ly Lx) (by decide)
  have L90 : ln ((y - x).tdiv (Int.gcd m n : Int)) ≤ 67108865 := Nat.le_trans (ln_tdiv _ _) L88
  refine cw_draw mix 9 [6, 7] [Is (.agg #[.bool sf, .slice Af nf cf]), Is (.agg #[.bool sa, .slice Aa na ca]), ZR w.heap.size (y - x), Is (.agg #[.bool s52, .slice A52 n52 c52]), T2 (ZR w.heap.size ((y - x).tdiv (Int.gcd m n : Int))) (Is (.int .i64 0)), T2 (ZR w.heap.size ((y - x).tdiv (Int.gcd m n : Int))) (Is (.int .i64 0)), ZR w.heap.size ((y - x).tdiv (Int.gcd m n : Int)), Is (.int .i64 0), PR v83.heap.size 27 [.bool false, .slice none 0 0]] [[], [], [0, 1], [], [2, 3], [4], [5], [5], []] [[], [], [0, 1], [], [0, 1, 2, 3], [0, 1, 2, 3, 4], [0, 1, 2, 3, 4, 5], [0, 1, 2, 3, 4, 5], [], [0, 1, 2, 3, 4, 5, 6, 8], [0, 1, 2, 3, 4, 5, 6, 7, 8, 9]] rfl
    (obs_cons rfl rfl (hob rfl rfl ?_) (obs_cons rfl rfl (hob rfl rfl ?_) (obs_cons rfl rfl (hob rfl rfl ?_) (obs_cons rfl rfl (hob rfl rfl ?_) (obs_cons rfl rfl (hob rfl rfl ?_) (obs_cons rfl rfl (hob rfl rfl ?_) (obs_float rfl rfl (fob rfl ?_) (obs_float rfl rfl (fob rfl ?_) (obs_cons rfl rfl (hob rfl rfl ?_) obs_nil))))))))) ?_
  · -- 0
    intro v96 e97
    have hw16 : Ext w v96 := hw15.trans e97
    refine deps_nil ?_
    refine wl_load rfl rfl (load_agg aggInt (((((hb15.ext (e20.trans (e26.trans (e32.trans (e37.trans (e40.trans (e43.trans (e57.trans (e63.trans e69))))))))).updN u76 (by omega)).updN u81 (by omega)).updN u86 (by omega)).ext e97) [.bool sf, .slice Af nf cf] rfl (Nat.le_of_ble_eq_true rfl) rfl) (by decide) ?_
    exact pi_done rfl (Ext.refl _) rfl
  · -- 1
    intro v98 e99
    have hw16 : Ext w v98 := hw15.trans e99
    refine deps_nil ?_
    refine wl_load rfl rfl (load_agg aggInt (((((hb4.ext (e8.trans (e14.trans (e20.trans (e26.trans (e32.trans (e37.trans (e40.trans (e43.trans (e57.trans (e63.trans e69))))))))))).updN u76 (by omega)).updN u81 (by omega)).updN u86 (by omega)).ext e99) [.bool sa, .slice Aa na ca] rfl (Nat.le_of_ble_eq_true rfl) rfl) (by decide) ?_
    exact pi_done rfl (Ext.refl _) rfl
  · -- 2
    intro v100 e101
    have hw16 : Ext w v100 := hw15.trans e101
    refine deps_cons rfl rfl fun x102 y103 h104 e105 f106 => ?_
    obtain rfl := h104
    refine deps_cons rfl rfl fun x107 y108 h109 e110 f111 => ?_
    obtain rfl := h109
    refine deps_nil ?_
    have L112 : ln (y - x) ≤ 67108865 := Nat.le_trans (ln_sub Ly Lx) (by decide)
    refine wl_call rfl rfl (vs := [.agg #[.bool sf, .slice Af nf cf], .agg #[.bool sa, .slice Aa na ca]]) (by kernel_rfl) (by decide) (g_zint_Sub hw16.size (hy.ext hw16) (Nat.le_trans lf (by decide)) (hx.ext hw16) (Nat.le_trans la (by decide))) ?_
    rintro _ v113 ⟨xr115, rfl, r115, e114⟩
    refine ret_intro ?_
    have hw17 : Ext w v113 := hw16.trans e114
    obtain ⟨s116, A116, n116, c116, rfl, z116⟩ := r115
    exact pi_done rfl e114 ⟨_, _, _, _, rfl, z116⟩
  · -- 3
    intro v117 e118
    have hw16 : Ext w v117 := hw15.trans e118
    refine deps_nil ?_
    refine wl_load rfl rfl (load_agg aggInt (((hb75.updN u81 (by omega)).updN u86 (by omega)).ext e118) [.bool s52, .slice A52 n52 c52] rfl (Nat.le_of_ble_eq_true rfl) rfl) (by decide) ?_
    exact pi_done rfl (Ext.refl _) rfl
  · -- 4
    intro v119 e120
    have hw16 : Ext w v119 := hw15.trans e120
    refine deps_cons rfl rfl fun x121 y122 h123 e124 f125 => ?_
    obtain ⟨s126, A126, n126, c126, rfl, z126⟩ := h123
    have z126 := z126.ext f125
    refine deps_cons rfl rfl fun x127 y128 h129 e130 f131 => ?_
    obtain rfl := h129
    refine deps_nil ?_
    have L132 : ln ((y - x).tdiv (Int.gcd m n : Int)) ≤ 67108865 := Nat.le_trans (ln_tdiv _ _) L88
    refine wl_call rfl rfl (vs := [.agg #[.bool s126, .slice A126 n126 c126], .agg #[.bool s52, .slice A52 n52 c52]]) (by kernel_rfl) (by decide) (g_zint_Exact_ok hw16.size z126.zi (z126.le (Nat.le_trans L88 (by decide))) (((((z52.ext (e57.trans (e63.trans e69))).updT hb74 u76).updT hb79 u81).updT hb84 u86).ext e120).zi (z52.le (Nat.le_trans L48 (by decide))) (gcd_ne_l hm0) (mod_of_dvd (crt_dvd d1 d2))) ?_
    rintro _ v133 ⟨xr135, rfl, r135, e134⟩
    refine ret_intro ?_
    have hw17 : Ext w v133 := hw16.trans e134
    obtain ⟨a136_0, a136_1, rfl, r136_0, r136_1⟩ := r135
    obtain ⟨s137, A137, n137, c137, rfl, z137⟩ := r136_0
    obtain rfl := r136_1
    exact pi_done rfl e134 ⟨_, _, rfl, ⟨_, _, _, _, rfl, z137⟩, rfl⟩
  · -- 5
    intro v138 e139
    have hw16 : Ext w v138 := hw15.trans e139
    refine deps_cons rfl rfl fun x140 y141 h142 e143 f144 => ?_
    obtain ⟨a145_0, a145_1, rfl, r145_0, r145_1⟩ := h142
    obtain ⟨s146, A146, n146, c146, rfl, z146⟩ := r145_0
    obtain rfl := r145_1
    have z146 := z146.ext f144
    refine deps_nil ?_
    refine wl_move rfl rfl (by decide) ?_
    exact pi_done rfl (Ext.refl _) ⟨_, _, rfl, ⟨_, _, _, _, rfl, z146⟩, rfl⟩
  · -- 6
    intro v147 e148
    have hw16 : Ext w v147 := hw15.trans e148
    refine deps_cons rfl rfl fun x149 y150 h151 e152 f153 => ?_
    obtain ⟨a154_0, a154_1, rfl, r154_0, r154_1⟩ := h151
    obtain ⟨s155, A155, n155, c155, rfl, z155⟩ := r154_0
    obtain rfl := r154_1
    have z155 := z155.ext f153
    refine deps_nil ?_
    exact ⟨.agg #[.bool s155, .slice A155 n155 c155], rfl, rfl, fun _ => by kernel_rfl, ⟨_, _, _, _, rfl, z155⟩⟩
  · -- 7
    intro v156 e157
    have hw16 : Ext w v156 := hw15.trans e157
    refine deps_cons rfl rfl fun x158 y159 h160 e161 f162 => ?_
    obtain ⟨a163_0, a163_1, rfl, r163_0, r163_1⟩ := h160
    obtain ⟨s164, A164, n164, c164, rfl, z164⟩ := r163_0
    obtain rfl := r163_1
    have z164 := z164.ext f162
    refine deps_nil ?_
    exact ⟨.int .i64 0, rfl, rfl, fun _ => by kernel_rfl, rfl⟩
  · -- 8
    intro v165 e166
    have hw16 : Ext w v165 := hw15.trans e166
    refine deps_nil ?_
    refine wl_alloc rfl (z := .agg #[.bool false, .slice none 0 0]) (vs := [.bool false, .slice none 0 0]) (fun _ => by kernel_rfl) rfl (by decide) fun g167 v168 nb => ?_
    exact pi_done rfl nb.ext ⟨_, rfl, by rw [← nb.at_]; exact e166.size, nb.bk⟩
  · -- all
    intro v169 e170
    have hw16 : Ext w v169 := hw15.trans e170
    refine deps_cons rfl rfl fun x171 y172 h173 e174 f175 => ?_
    obtain rfl := h173
    refine deps_cons rfl rfl fun x176 y177 h178 e179 f180 => ?_
    obtain rfl := h178
    refine deps_cons rfl rfl fun x181 y182 h183 e184 f185 => ?_
    obtain ⟨s186, A186, n186, c186, rfl, z186⟩ := h183
    have z186 := z186.ext f185
    refine deps_cons rfl rfl fun x187 y188 h189 e190 f191 => ?_
    obtain rfl := h189
    refine deps_cons rfl rfl fun x192 y193 h194 e195 f196 => ?_
    obtain ⟨a197_0, a197_1, rfl, r197_0, r197_1⟩ := h194
    obtain ⟨s198, A198, n198, c198, rfl, z198⟩ := r197_0
    obtain rfl := r197_1
    have z198 := z198.ext f196
    refine deps_cons rfl rfl fun x199 y200 h201 e202 f203 => ?_
    obtain ⟨a204_0, a204_1, rfl, r204_0, r204_1⟩ := h201
    obtain ⟨s205, A205, n205, c205, rfl, z205⟩ := r204_0
    obtain rfl := r204_1
    have z205 := z205.ext f203
    refine deps_cons rfl rfl fun x206 y207 h208 e209 f210 => ?_
    obtain ⟨s211, A211, n211, c211, rfl, z211⟩ := h208
    have z211 := z211.ext f210
    refine deps_cons rfl rfl fun x212 y213 h214 e215 f216 => ?_
    obtain rfl := h214
    refine deps_cons rfl rfl fun x217 y218 h219 e220 f221 => ?_
    obtain ⟨g222, rfl, ge224, hb223⟩ := h219
    have hb223 := hb223.ext f221
    have q225 : g67 < g222 := Nat.lt_of_lt_of_le hb85.lt ge224
    have ge224 : w.heap.size ≤ g222 := Nat.le_trans hw15.size ge224
    refine deps_nil ?_
    have hb227 := hb223
    refine wl_stored rfl rfl rfl aggInt rfl hb227 (Nat.le_of_ble_eq_true rfl) rfl [.bool s211, .slice A211 n211 c211] rfl fun v226 hb228 u229 hs230 => ?_
    have hw17 : Ext w v226 := u229.ext hw16 ge224
    refine wl_assign rfl rfl (by decide) ?_
    refine wl_nil ?_
    refine eo_np ?_
    refine eo_then ?_
    refine cw_seq ?_
    refine cw_seq ?_
    refine cw_region ?_
    refine wl_move rfl rfl (by decide) ?_
    refine wl_pure rfl rfl (v := .bool false) (by decide) (by kernel_rfl) ?_
    refine wl_nil ?_
    refine eo_then ?_
    refine cw_false rfl ?_
    refine cw_skip ?_
    refine eo_then ?_
    refine cw_seq ?_
    refine cw_region ?_
    refine wl_load rfl rfl (load_agg aggInt ((((((hb9.ext (e14.trans (e20.trans (e26.trans (e32.trans (e37.trans (e40.trans (e43.trans (e57.trans (e63.trans e69)))))))))).updN u76 (by omega)).updN u81 (by omega)).updN u86 (by omega)).ext e170).updN u229 (by omega)) [.bool sb, .slice Ab nb cb] rfl (Nat.le_of_ble_eq_true rfl) rfl) (by decide) ?_
    refine wl_load rfl rfl (load_agg aggInt ((((((hb21.ext (e26.trans (e32.trans (e37.trans (e40.trans (e43.trans (e57.trans (e63.trans e69)))))))).updN u76 (by omega)).updN u81 (by omega)).updN u86 (by omega)).ext e170).updN u229 (by omega)) [.bool sd, .slice Ad nd cd] rfl (Nat.le_of_ble_eq_true rfl) rfl) (by decide) ?_
    have L231 : ln ((Int.lcm m n : Int)) ≤ 134217728 := Nat.le_trans (ln_lcmC _ _) (Nat.add_le_add Lm Ln)
    refine wl_call rfl rfl (vs := [.agg #[.bool sb, .slice Ab nb cb], .agg #[.bool sd, .slice Ad nd cd]]) (by kernel_rfl) (by decide) (g_bezout_Lcm hw17.size (hm.ext hw17) (Nat.le_trans lb (by decide)) (hn.ext hw17) (Nat.le_trans ld (by decide))) ?_
    rintro _ v232 ⟨xr234, rfl, r234, e233⟩
    refine ret_intro ?_
    have hw18 : Ext w v232 := hw17.trans e233
    obtain ⟨s235, A235, n235, c235, rfl, z235⟩ := r234
    have hb237 := (((((((hb33.ext (e37.trans (e40.trans (e43.trans (e57.trans (e63.trans e69)))))).updN u76 (by omega)).updN u81 (by omega)).updN u86 (by omega)).ext e170).updN u229 (by omega)).ext e233)
    refine wl_stored rfl rfl rfl aggInt rfl hb237 (Nat.le_of_ble_eq_true rfl) rfl [.bool s235, .slice A235 n235 c235] rfl fun v236 hb238 u239 hs240 => ?_
    have hw19 : Ext w v236 := u239.ext hw18 ge34
    refine wl_nil ?_
    refine eo_then ?_
    refine cw_seq ?_
    have hlz : (Int.lcm m n : Int) ≠ 0 := lcm_ne hm0 hn0
    have L241 : ln (((y - x).tdiv (Int.gcd m n : Int)) * u45) ≤ 134217730 := Nat.le_trans (ln_mul L90 L49) (by decide)
    have L243 : ln (m * (((y - x).tdiv (Int.gcd m n : Int)) * u45)) ≤ 201326594 := Nat.le_trans (ln_mul Lm L241) (by decide)
    have L245 : ln (x + (m * (((y - x).tdiv (Int.gcd m n : Int)) * u45))) ≤ 201326595 := Nat.le_trans (ln_add Lx L243) (by decide)
    have L247 : ln ((x + (m * (((y - x).tdiv (Int.gcd m n : Int)) * u45))) % (Int.lcm m n : Int)) ≤ 134217728 := Nat.le_trans (ln_emod hlz) L231
    refine cw_draw mix 12 [10, 11] [Is (.agg #[.bool sa, .slice Aa na ca]), Is (.agg #[.bool sb, .slice Ab nb cb]), Is (.agg #[.bool s211, .slice A211 n211 c211]), Is (.agg #[.bool s53, .slice A53 n53 c53]), ZR w.heap.size (((y - x).tdiv (Int.gcd m n : Int)) * u45), ZR w.heap.size (m * (((y - x).tdiv (Int.gcd m n : Int)) * u45)), ZR w.heap.size (x + (m * (((y - x).tdiv (Int.gcd m n : Int)) * u45))), Is (.agg #[.bool s235, .slice A235 n235 c235]), T2 (ZR w.heap.size ((x + (m * (((y - x).tdiv (Int.gcd m n : Int)) * u45))) % (Int.lcm m n : Int))) (Is (.int .i64 0)), T2 (ZR w.heap.size ((x + (m * (((y - x).tdiv (Int.gcd m n : Int)) * u45))) % (Int.lcm m n : Int))) (Is (.int .i64 0)), ZR w.heap.size ((x + (m * (((y - x).tdiv (Int.gcd m n : Int)) * u45))) % (Int.lcm m n : Int)), Is (.int .i64 0)] [[], [], [], [], [2, 3], [1, 4], [0, 5], [], [6, 7], [8], [9], [9]] [[], [], [], [], [2, 3], [1, 2, 3, 4], [0, 1, 2, 3, 4, 5], [], [0, 1, 2, 3, 4, 5, 6, 7], [0, 1, 2, 3, 4, 5, 6, 7, 8], [0, 1, 2, 3, 4, 5, 6, 7, 8, 9], [0, 1, 2, 3, 4, 5, 6, 7, 8, 9], [0, 1, 2, 3, 4, 5, 6, 7, 8, 9, 10]] rfl
      (obs_cons rfl rfl (hob rfl rfl ?_) (obs_cons rfl rfl (hob rfl rfl ?_) (obs_cons rfl rfl (hob rfl rfl ?_) (obs_cons rfl rfl (hob rfl rfl ?_) (obs_cons rfl rfl (hob rfl rfl ?_) (obs_cons rfl rfl (hob rfl rfl ?_) (obs_cons rfl rfl (hob rfl rfl ?_) (obs_cons rfl rfl (hob rfl rfl ?_) (obs_cons rfl rfl (hob rfl rfl ?_) (obs_cons rfl rfl (hob rfl rfl ?_) (obs_float rfl rfl (fob rfl ?_) (obs_float rfl rfl (fob rfl ?_) obs_nil)))))))))))) ?_
    · -- 0
      intro v253 e254
      have hw20 : Ext w v253 := hw19.trans e254
      refine deps_nil ?_
      refine wl_load rfl rfl (load_agg aggInt (((((((((hb4.ext (e8.trans (e14.trans (e20.trans (e26.trans (e32.trans (e37.trans (e40.trans (e43.trans (e57.trans (e63.trans e69))))))))))).updN u76 (by omega)).updN u81 (by omega)).updN u86 (by omega)).ext e170).updN u229 (by omega)).ext e233).updN u239 (by omega)).ext e254) [.bool sa, .slice Aa na ca] rfl (Nat.le_of_ble_eq_true rfl) rfl) (by decide) ?_
      exact pi_done rfl (Ext.refl _) rfl
    · -- 1
      intro v255 e256
      have hw20 : Ext w v255 := hw19.trans e256
      refine deps_nil ?_
      refine wl_load rfl rfl (load_agg aggInt (((((((((hb9.ext (e14.trans (e20.trans (e26.trans (e32.trans (e37.trans (e40.trans (e43.trans (e57.trans (e63.trans e69)))))))))).updN u76 (by omega)).updN u81 (by omega)).updN u86 (by omega)).ext e170).updN u229 (by omega)).ext e233).updN u239 (by omega)).ext e256) [.bool sb, .slice Ab nb cb] rfl (Nat.le_of_ble_eq_true rfl) rfl) (by decide) ?_
      exact pi_done rfl (Ext.refl _) rfl
    · -- 2
      intro v257 e258
      have hw20 : Ext w v257 := hw19.trans e258
      refine deps_nil ?_
      refine wl_load rfl rfl (load_agg aggInt (((hb228.ext e233).updN u239 (by omega)).ext e258) [.bool s211, .slice A211 n211 c211] rfl (Nat.le_of_ble_eq_true rfl) rfl) (by decide) ?_
      exact pi_done rfl (Ext.refl _) rfl
    · -- 3
      intro v259 e260
      have hw20 : Ext w v259 := hw19.trans e260
      refine deps_nil ?_
      refine wl_load rfl rfl (load_agg aggInt ((((((hb80.updN u86 (by omega)).ext e170).updN u229 (by omega)).ext e233).updN u239 (by omega)).ext e260) [.bool s53, .slice A53 n53 c53] rfl (Nat.le_of_ble_eq_true rfl) rfl) (by decide) ?_
      exact pi_done rfl (Ext.refl _) rfl
    · -- 4
      intro v261 e262
      have hw20 : Ext w v261 := hw19.trans e262
      refine deps_cons rfl rfl fun x263 y264 h265 e266 f267 => ?_
      obtain rfl := h265
      refine deps_cons rfl rfl fun x268 y269 h270 e271 f272 => ?_
      obtain rfl := h270
      refine deps_nil ?_
      have L273 : ln (((y - x).tdiv (Int.gcd m n : Int)) * u45) ≤ 134217730 := Nat.le_trans (ln_mul L90 L49) (by decide)
      refine wl_call rfl rfl (vs := [.agg #[.bool s211, .slice A211 n211 c211], .agg #[.bool s53, .slice A53 n53 c53]]) (by kernel_rfl) (by decide) (g_zint_Mul hw20.size ((((z211.updT hb227 u229).ext e233).updT hb237 u239).ext e262).zi (z211.le (Nat.le_trans L90 (by decide))) (((((((((z53.ext (e57.trans (e63.trans e69))).updT hb74 u76).updT hb79 u81).updT hb84 u86).ext e170).updT hb227 u229).ext e233).updT hb237 u239).ext e262).zi (z53.le (Nat.le_trans L49 (by decide)))) ?_
      rintro _ v274 ⟨xr276, rfl, r276, e275⟩
      refine ret_intro ?_
      have hw21 : Ext w v274 := hw20.trans e275
      obtain ⟨s277, A277, n277, c277, rfl, z277⟩ := r276
      exact pi_done rfl e275 ⟨_, _, _, _, rfl, z277⟩
    · -- 5
      intro v278 e279
      have hw20 : Ext w v278 := hw19.trans e279
      refine deps_cons rfl rfl fun x280 y281 h282 e283 f284 => ?_
      obtain rfl := h282
      refine deps_cons rfl rfl fun x285 y286 h287 e288 f289 => ?_
      obtain ⟨s290, A290, n290, c290, rfl, z290⟩ := h287
      have z290 := z290.ext f289
      refine deps_nil ?_
      have L291 : ln (m * (((y - x).tdiv (Int.gcd m n : Int)) * u45)) ≤ 201326594 := Nat.le_trans (ln_mul Lm L241) (by decide)
      refine wl_call rfl rfl (vs := [.agg #[.bool sb, .slice Ab nb cb], .agg #[.bool s290, .slice A290 n290 c290]]) (by kernel_rfl) (by decide) (g_zint_Mul hw20.size (hm.ext hw20) (Nat.le_trans lb (by decide)) z290.zi (z290.le (Nat.le_trans L241 (by decide)))) ?_
      rintro _ v292 ⟨xr294, rfl, r294, e293⟩
      refine ret_intro ?_
      have hw21 : Ext w v292 := hw20.trans e293
      obtain ⟨s295, A295, n295, c295, rfl, z295⟩ := r294
      exact pi_done rfl e293 ⟨_, _, _, _, rfl, z295⟩
    · -- 6
      intro v296 e297
      have hw20 : Ext w v296 := hw19.trans e297
      refine deps_cons rfl rfl fun x298 y299 h300 e301 f302 => ?_
      obtain rfl := h300
      refine deps_cons rfl rfl fun x303 y304 h305 e306 f307 => ?_
      obtain ⟨s308, A308, n308, c308, rfl, z308⟩ := h305
      have z308 := z308.ext f307
      refine deps_nil ?_
      have L309 : ln (x + (m * (((y - x).tdiv (Int.gcd m n : Int)) * u45))) ≤ 201326595 := Nat.le_trans (ln_add Lx L243) (by decide)
      refine wl_call rfl rfl (vs := [.agg #[.bool sa, .slice Aa na ca], .agg #[.bool s308, .slice A308 n308 c308]]) (by kernel_rfl) (by decide) (g_zint_Add hw20.size (hx.ext hw20) (Nat.le_trans la (by decide)) z308.zi (z308.le (Nat.le_trans L243 (by decide)))) ?_
      rintro _ v310 ⟨xr312, rfl, r312, e311⟩
      refine ret_intro ?_
      have hw21 : Ext w v310 := hw20.trans e311
      obtain ⟨s313, A313, n313, c313, rfl, z313⟩ := r312
      exact pi_done rfl e311 ⟨_, _, _, _, rfl, z313⟩
    · -- 7
      intro v314 e315
      have hw20 : Ext w v314 := hw19.trans e315
      refine deps_nil ?_
      refine wl_load rfl rfl (load_agg aggInt (hb238.ext e315) [.bool s235, .slice A235 n235 c235] rfl (Nat.le_of_ble_eq_true rfl) rfl) (by decide) ?_
      exact pi_done rfl (Ext.refl _) rfl
    · -- 8
      intro v316 e317
      have hw20 : Ext w v316 := hw19.trans e317
      refine deps_cons rfl rfl fun x318 y319 h320 e321 f322 => ?_
      obtain ⟨s323, A323, n323, c323, rfl, z323⟩ := h320
      have z323 := z323.ext f322
      refine deps_cons rfl rfl fun x324 y325 h326 e327 f328 => ?_
      obtain rfl := h326
      refine deps_nil ?_
      have L329 : ln ((x + (m * (((y - x).tdiv (Int.gcd m n : Int)) * u45))) % (Int.lcm m n : Int)) ≤ 134217728 := Nat.le_trans (ln_emod hlz) L231
      refine wl_call rfl rfl (vs := [.agg #[.bool s323, .slice A323 n323 c323], .agg #[.bool s235, .slice A235 n235 c235]]) (by kernel_rfl) (by decide) (g_zint_Mod hw20.size z323.zi (z323.le (Nat.le_trans L245 (by decide))) ((z235.updT hb237 u239).ext e317).zi (z235.le (Nat.le_trans L231 (by decide))) hlz) ?_
      rintro _ v330 ⟨xr332, rfl, r332, e331⟩
      refine ret_intro ?_
      have hw21 : Ext w v330 := hw20.trans e331
      obtain ⟨a333_0, a333_1, rfl, r333_0, r333_1⟩ := r332
      obtain ⟨s334, A334, n334, c334, rfl, z334⟩ := r333_0
      obtain rfl := r333_1
      exact pi_done rfl e331 ⟨_, _, rfl, ⟨_, _, _, _, rfl, z334⟩, rfl⟩
    · -- 9
      intro v335 e336
      have hw20 : Ext w v335 := hw19.trans e336
      refine deps_cons rfl rfl fun x337 y338 h339 e340 f341 => ?_
      obtain ⟨a342_0, a342_1, rfl, r342_0, r342_1⟩ := h339
      obtain ⟨s343, A343, n343, c343, rfl, z343⟩ := r342_0
      obtain rfl := r342_1
      have z343 := z343.ext f341
      refine deps_nil ?_
      refine wl_move rfl rfl (by decide) ?_
      exact pi_done rfl (Ext.refl _) ⟨_, _, rfl, ⟨_, _, _, _, rfl, z343⟩, rfl⟩
    · -- 10
      intro v344 e345
      have hw20 : Ext w v344 := hw19.trans e345
      refine deps_cons rfl rfl fun x346 y347 h348 e349 f350 => ?_
      obtain ⟨a351_0, a351_1, rfl, r351_0, r351_1⟩ := h348
      obtain ⟨s352, A352, n352, c352, rfl, z352⟩ := r351_0
      obtain rfl := r351_1
      have z352 := z352.ext f350
      refine deps_nil ?_
      exact ⟨.agg #[.bool s352, .slice A352 n352 c352], rfl, rfl, fun _ => by kernel_rfl, ⟨_, _, _, _, rfl, z352⟩⟩
    · -- 11
      intro v353 e354
      have hw20 : Ext w v353 := hw19.trans e354
      refine deps_cons rfl rfl fun x355 y356 h357 e358 f359 => ?_
      obtain ⟨a360_0, a360_1, rfl, r360_0, r360_1⟩ := h357
      obtain ⟨s361, A361, n361, c361, rfl, z361⟩ := r360_0
      obtain rfl := r360_1
      have z361 := z361.ext f359
      refine deps_nil ?_
      exact ⟨.int .i64 0, rfl, rfl, fun _ => by kernel_rfl, rfl⟩
    · -- all
      intro v362 e363
      have hw20 : Ext w v362 := hw19.trans e363
      refine deps_cons rfl rfl fun x364 y365 h366 e367 f368 => ?_
      obtain rfl := h366
      refine deps_cons rfl rfl fun x369 y370 h371 e372 f373 => ?_
      obtain rfl := h371
      refine deps_cons rfl rfl fun x374 y375 h376 e377 f378 => ?_
      obtain rfl := h376
      refine deps_cons rfl rfl fun x379 y380 h381 e382 f383 => ?_
      obtain rfl := h381
      refine deps_cons rfl rfl fun x384 y385 h386 e387 f388 => ?_
      obtain ⟨s389, A389, n389, c389, rfl, z389⟩ := h386
      have z389 := z389.ext f388
      refine deps_cons rfl rfl fun x390 y391 h392 e393 f394 => ?_
      obtain ⟨s395, A395, n395, c395, rfl, z395⟩ := h392
      have z395 := z395.ext f394
      refine deps_cons rfl rfl fun x396 y397 h398 e399 f400 => ?_
      obtain ⟨s401, A401, n401, c401, rfl, z401⟩ := h398
      have z401 := z401.ext f400
      refine deps_cons rfl rfl fun x402 y403 h404 e405 f406 => ?_
      obtain rfl := h404
      refine deps_cons rfl rfl fun x407 y408 h409 e410 f411 => ?_
      obtain ⟨a412_0, a412_1, rfl, r412_0, r412_1⟩ := h409
      obtain ⟨s413, A413, n413, c413, rfl, z413⟩ := r412_0
      obtain rfl := r412_1
      have z413 := z413.ext f411
      refine deps_cons rfl rfl fun x414 y415 h416 e417 f418 => ?_
      obtain ⟨a419_0, a419_1, rfl, r419_0, r419_1⟩ := h416
      obtain ⟨s420, A420, n420, c420, rfl, z420⟩ := r419_0
      obtain rfl := r419_1
      have z420 := z420.ext f418
      refine deps_cons rfl rfl fun x421 y422 h423 e424 f425 => ?_
      obtain ⟨s426, A426, n426, c426, rfl, z426⟩ := h423
      have z426 := z426.ext f425
      refine deps_cons rfl rfl fun x427 y428 h429 e430 f431 => ?_
      obtain rfl := h429
      refine deps_nil ?_
      have hb433 := (((((((((hb27.ext (e32.trans (e37.trans (e40.trans (e43.trans (e57.trans (e63.trans e69))))))).updN u76 (by omega)).updN u81 (by omega)).updN u86 (by omega)).ext e170).updN u229 (by omega)).ext e233).updN u239 (by omega)).ext e363)
      refine wl_stored rfl rfl rfl aggInt rfl hb433 (Nat.le_of_ble_eq_true rfl) rfl [.bool s426, .slice A426 n426 c426] rfl fun v432 hb434 u435 hs436 => ?_
      have hw21 : Ext w v432 := u435.ext hw20 ge28
      refine wl_nil ?_
      refine eo_np ?_
      refine eo_then ?_
      refine cw_seq ?_
      refine cw_keep [(0, .agg #[.bool sa, .slice Aa na ca]), (1, .agg #[.bool sb, .slice Ab nb cb]), (2, .agg #[.bool sf, .slice Af nf cf]), (3, .agg #[.bool sd, .slice Ad nd cd]), (4, .pointer (some ⟨g1, 0, none⟩)), (5, .pointer (some ⟨g6, 0, none⟩)), (6, .pointer (some ⟨g12, 0, none⟩)), (7, .pointer (some ⟨g18, 0, none⟩)), (8, .pointer (some ⟨g24, 0, none⟩)), (9, .pointer (some ⟨g30, 0, none⟩)), (16, .agg #[.bool sb, .slice Ab nb cb]), (17, .int .i64 (scmp m 0)), (18, .bool false), (19, .bool false), (20, .agg #[.bool sd, .slice Ad nd cd]), (21, .int .i64 (scmp n 0)), (22, .bool false), (23, .bool false), (27, .agg #[.bool sb, .slice Ab nb cb]), (28, .agg #[.bool sd, .slice Ad nd cd]), (29, .tuple #[.agg #[.bool s52, .slice A52 n52 c52], .agg #[.bool s53, .slice A53 n53 c53], .agg #[.bool s54, .slice A54 n54 c54]]), (26, .tuple #[.agg #[.bool s52, .slice A52 n52 c52], .agg #[.bool s53, .slice A53 n53 c53], .agg #[.bool s54, .slice A54 n54 c54]]), (30, .agg #[.bool s52, .slice A52 n52 c52]), (31, .agg #[.bool s53, .slice A53 n53 c53]), (32, .agg #[.bool s54, .slice A54 n54 c54]), (11, .pointer (some ⟨g55, 0, none⟩)), (12, .pointer (some ⟨g61, 0, none⟩)), (13, .pointer (some ⟨g67, 0, none⟩)), (34, .agg #[.bool sf, .slice Af nf cf]), (35, .agg #[.bool sa, .slice Aa na ca]), (36, .agg #[.bool s186, .slice A186 n186 c186]), (37, .agg #[.bool s52, .slice A52 n52 c52]), (38, .tuple #[.agg #[.bool s198, .slice A198 n198 c198], .int .i64 0]), (33, .tuple #[.agg #[.bool s205, .slice A205 n205 c205], .int .i64 0]), (39, .agg #[.bool s211, .slice A211 n211 c211]), (40, .int .i64 0), (14, .pointer (some ⟨g222, 0, none⟩)), (15, .int .i64 0), (41, .int .i64 0), (42, .bool false), (45, .agg #[.bool sb, .slice Ab nb cb]), (46, .agg #[.bool sd, .slice Ad nd cd]), (47, .agg #[.bool s235, .slice A235 n235 c235]), (49, .agg #[.bool sa, .slice Aa na ca]), (50, .agg #[.bool sb, .slice Ab nb cb]), (51, .agg #[.bool s211, .slice A211 n211 c211]), (52, .agg #[.bool s53, .slice A53 n53 c53]), (53, .agg #[.bool s389, .slice A389 n389 c389]), (54, .agg #[.bool s395, .slice A395 n395 c395]), (55, .agg #[.bool s401, .slice A401 n401 c401]), (56, .agg #[.bool s235, .slice A235 n235 c235]), (57, .tuple #[.agg #[.bool s413, .slice A413 n413 c413], .int .i64 0]), (48, .tuple #[.agg #[.bool s420, .slice A420 n420 c420], .int .i64 0]), (58, .agg #[.bool s426, .slice A426 n426 c426]), (59, .int .i64 0)] ⟨rfl, rfl, rfl, rfl, rfl, rfl, rfl, rfl, rfl, rfl, rfl, rfl, rfl, rfl, rfl, rfl, rfl, rfl, rfl, rfl, rfl, rfl, rfl, rfl, rfl, rfl, rfl, rfl, rfl, rfl, rfl, rfl, rfl, rfl, rfl, rfl, rfl, rfl, rfl, rfl, rfl, rfl, rfl, rfl, rfl, rfl, rfl, rfl, rfl, rfl, rfl, rfl, rfl, rfl, rfl, trivial⟩ ?_
      obtain ⟨v437, hv, e438⟩ : ∃ v, v = v432.drew ∧ Ext v432 v := ⟨_, rfl, (Ext.refl _).drew⟩
      have hw22 : Ext w v437 := hw21.trans e438
      have hb440 := (hb434.ext e438)
      obtain ⟨v439, hr444, hb441, u442, hs443⟩ := run_stored (P := Try.prog) (us := [.bool s426, .slice A426 n426 c426]) (off := 0) aggInt rfl hb440 (Nat.le_of_ble_eq_true rfl) rfl [.bool s426, .slice A426 n426 c426] rfl
      have hw23 : Ext w v439 := u442.ext hw22 ge28
      have hb446 := ((((hb238.ext e363).updN u435 (by omega)).ext e438).updN u442 (by omega))
      obtain ⟨v445, hr450, hb447, u448, hs449⟩ := run_stored (P := Try.prog) (us := [.bool s235, .slice A235 n235 c235]) (off := 0) aggInt rfl hb446 (Nat.le_of_ble_eq_true rfl) rfl [.bool s235, .slice A235 n235 c235] rfl
      have hw24 : Ext w v445 := u448.ext hw23 ge34
      refine cw_det mix (w := v437) [.agg #[.bool s426, .slice A426 n426 c426], .agg #[.bool s235, .slice A235 n235 c235], undef, undef, .int .i64 0] [v437, v439, v445] [2, 3] [[], [], [0], [1], []] [[], [], [0], [0, 1, 2], [0, 1, 2, 3]] [(0, 0), (1, 0), (1, 1), (2, 0), (3, 1), (4, 2)] rfl hv ?_ ?_
      ·
        refine dobs_val ([(0, .agg #[.bool sa, .slice Aa na ca]), (1, .agg #[.bool sb, .slice Ab nb cb]), (2, .agg #[.bool sf, .slice Af nf cf]), (3, .agg #[.bool sd, .slice Ad nd cd]), (4, .pointer (some ⟨g1, 0, none⟩)), (5, .pointer (some ⟨g6, 0, none⟩)), (6, .pointer (some ⟨g12, 0, none⟩)), (7, .pointer (some ⟨g18, 0, none⟩)), (8, .pointer (some ⟨g24, 0, none⟩)), (9, .pointer (some ⟨g30, 0, none⟩)), (16, .agg #[.bool sb, .slice Ab nb cb]), (17, .int .i64 (scmp m 0)), (18, .bool false), (19, .bool false), (20, .agg #[.bool sd, .slice Ad nd cd]), (21, .int .i64 (scmp n 0)), (22, .bool false), (23, .bool false), (27, .agg #[.bool sb, .slice Ab nb cb]), (28, .agg #[.bool sd, .slice Ad nd cd]), (29, .tuple #[.agg #[.bool s52, .slice A52 n52 c52], .agg #[.bool s53, .slice A53 n53 c53], .agg #[.bool s54, .slice A54 n54 c54]]), (26, .tuple #[.agg #[.bool s52, .slice A52 n52 c52], .agg #[.bool s53, .slice A53 n53 c53], .agg #[.bool s54, .slice A54 n54 c54]]), (30, .agg #[.bool s52, .slice A52 n52 c52]), (31, .agg #[.bool s53, .slice A53 n53 c53]), (32, .agg #[.bool s54, .slice A54 n54 c54]), (11, .pointer (some ⟨g55, 0, none⟩)), (12, .pointer (some ⟨g61, 0, none⟩)), (13, .pointer (some ⟨g67, 0, none⟩)), (34, .agg #[.bool sf, .slice Af nf cf]), (35, .agg #[.bool sa, .slice Aa na ca]), (36, .agg #[.bool s186, .slice A186 n186 c186]), (37, .agg #[.bool s52, .slice A52 n52 c52]), (38, .tuple #[.agg #[.bool s198, .slice A198 n198 c198], .int .i64 0]), (33, .tuple #[.agg #[.bool s205, .slice A205 n205 c205], .int .i64 0]), (39, .agg #[.bool s211, .slice A211 n211 c211]), (40, .int .i64 0), (14, .pointer (some ⟨g222, 0, none⟩)), (15, .int .i64 0), (41, .int .i64 0), (42, .bool false), (45, .agg #[.bool sb, .slice Ab nb cb]), (46, .agg #[.bool sd, .slice Ad nd cd]), (47, .agg #[.bool s235, .slice A235 n235 c235]), (49, .agg #[.bool sa, .slice Aa na ca]), (50, .agg #[.bool sb, .slice Ab nb cb]), (51, .agg #[.bool s211, .slice A211 n211 c211]), (52, .agg #[.bool s53, .slice A53 n53 c53]), (53, .agg #[.bool s389, .slice A389 n389 c389]), (54, .agg #[.bool s395, .slice A395 n395 c395]), (55, .agg #[.bool s401, .slice A401 n401 c401]), (56, .agg #[.bool s235, .slice A235 n235 c235]), (57, .tuple #[.agg #[.bool s413, .slice A413 n413 c413], .int .i64 0]), (48, .tuple #[.agg #[.bool s420, .slice A420 n420 c420], .int .i64 0]), (58, .agg #[.bool s426, .slice A426 n426 c426]), (59, .int .i64 0)]) rfl rfl rfl rfl rfl (rd_load rfl (load_agg aggInt (hb434.ext e438) [.bool s426, .slice A426 n426 c426] rfl (Nat.le_of_ble_eq_true rfl) rfl)) ?_
        refine dobs_val ([(0, .agg #[.bool sa, .slice Aa na ca]), (1, .agg #[.bool sb, .slice Ab nb cb]), (2, .agg #[.bool sf, .slice Af nf cf]), (3, .agg #[.bool sd, .slice Ad nd cd]), (4, .pointer (some ⟨g1, 0, none⟩)), (5, .pointer (some ⟨g6, 0, none⟩)), (6, .pointer (some ⟨g12, 0, none⟩)), (7, .pointer (some ⟨g18, 0, none⟩)), (8, .pointer (some ⟨g24, 0, none⟩)), (9, .pointer (some ⟨g30, 0, none⟩)), (16, .agg #[.bool sb, .slice Ab nb cb]), (17, .int .i64 (scmp m 0)), (18, .bool false), (19, .bool false), (20, .agg #[.bool sd, .slice Ad nd cd]), (21, .int .i64 (scmp n 0)), (22, .bool false), (23, .bool false), (27, .agg #[.bool sb, .slice Ab nb cb]), (28, .agg #[.bool sd, .slice Ad nd cd]), (29, .tuple #[.agg #[.bool s52, .slice A52 n52 c52], .agg #[.bool s53, .slice A53 n53 c53], .agg #[.bool s54, .slice A54 n54 c54]]), (26, .tuple #[.agg #[.bool s52, .slice A52 n52 c52], .agg #[.bool s53, .slice A53 n53 c53], .agg #[.bool s54, .slice A54 n54 c54]]), (30, .agg #[.bool s52, .slice A52 n52 c52]), (31, .agg #[.bool s53, .slice A53 n53 c53]), (32, .agg #[.bool s54, .slice A54 n54 c54]), (11, .pointer (some ⟨g55, 0, none⟩)), (12, .pointer (some ⟨g61, 0, none⟩)), (13, .pointer (some ⟨g67, 0, none⟩)), (34, .agg #[.bool sf, .slice Af nf cf]), (35, .agg #[.bool sa, .slice Aa na ca]), (36, .agg #[.bool s186, .slice A186 n186 c186]), (37, .agg #[.bool s52, .slice A52 n52 c52]), (38, .tuple #[.agg #[.bool s198, .slice A198 n198 c198], .int .i64 0]), (33, .tuple #[.agg #[.bool s205, .slice A205 n205 c205], .int .i64 0]), (39, .agg #[.bool s211, .slice A211 n211 c211]), (40, .int .i64 0), (14, .pointer (some ⟨g222, 0, none⟩)), (15, .int .i64 0), (41, .int .i64 0), (42, .bool false), (45, .agg #[.bool sb, .slice Ab nb cb]), (46, .agg #[.bool sd, .slice Ad nd cd]), (47, .agg #[.bool s235, .slice A235 n235 c235]), (49, .agg #[.bool sa, .slice Aa na ca]), (50, .agg #[.bool sb, .slice Ab nb cb]), (51, .agg #[.bool s211, .slice A211 n211 c211]), (52, .agg #[.bool s53, .slice A53 n53 c53]), (53, .agg #[.bool s389, .slice A389 n389 c389]), (54, .agg #[.bool s395, .slice A395 n395 c395]), (55, .agg #[.bool s401, .slice A401 n401 c401]), (56, .agg #[.bool s235, .slice A235 n235 c235]), (57, .tuple #[.agg #[.bool s413, .slice A413 n413 c413], .int .i64 0]), (48, .tuple #[.agg #[.bool s420, .slice A420 n420 c420], .int .i64 0]), (58, .agg #[.bool s426, .slice A426 n426 c426]), (59, .int .i64 0)]) rfl rfl rfl rfl rfl (rd_load rfl (load_agg aggInt (((hb238.ext e363).updN u435 (by omega)).ext e438) [.bool s235, .slice A235 n235 c235] rfl (Nat.le_of_ble_eq_true rfl) rfl)) ?_
        refine dobs_val ([(0, .agg #[.bool sa, .slice Aa na ca]), (1, .agg #[.bool sb, .slice Ab nb cb]), (2, .agg #[.bool sf, .slice Af nf cf]), (3, .agg #[.bool sd, .slice Ad nd cd]), (4, .pointer (some ⟨g1, 0, none⟩)), (5, .pointer (some ⟨g6, 0, none⟩)), (6, .pointer (some ⟨g12, 0, none⟩)), (7, .pointer (some ⟨g18, 0, none⟩)), (8, .pointer (some ⟨g24, 0, none⟩)), (9, .pointer (some ⟨g30, 0, none⟩)), (16, .agg #[.bool sb, .slice Ab nb cb]), (17, .int .i64 (scmp m 0)), (18, .bool false), (19, .bool false), (20, .agg #[.bool sd, .slice Ad nd cd]), (21, .int .i64 (scmp n 0)), (22, .bool false), (23, .bool false), (27, .agg #[.bool sb, .slice Ab nb cb]), (28, .agg #[.bool sd, .slice Ad nd cd]), (29, .tuple #[.agg #[.bool s52, .slice A52 n52 c52], .agg #[.bool s53, .slice A53 n53 c53], .agg #[.bool s54, .slice A54 n54 c54]]), (26, .tuple #[.agg #[.bool s52, .slice A52 n52 c52], .agg #[.bool s53, .slice A53 n53 c53], .agg #[.bool s54, .slice A54 n54 c54]]), (30, .agg #[.bool s52, .slice A52 n52 c52]), (31, .agg #[.bool s53, .slice A53 n53 c53]), (32, .agg #[.bool s54, .slice A54 n54 c54]), (11, .pointer (some ⟨g55, 0, none⟩)), (12, .pointer (some ⟨g61, 0, none⟩)), (13, .pointer (some ⟨g67, 0, none⟩)), (34, .agg #[.bool sf, .slice Af nf cf]), (35, .agg #[.bool sa, .slice Aa na ca]), (36, .agg #[.bool s186, .slice A186 n186 c186]), (37, .agg #[.bool s52, .slice A52 n52 c52]), (38, .tuple #[.agg #[.bool s198, .slice A198 n198 c198], .int .i64 0]), (33, .tuple #[.agg #[.bool s205, .slice A205 n205 c205], .int .i64 0]), (39, .agg #[.bool s211, .slice A211 n211 c211]), (40, .int .i64 0), (14, .pointer (some ⟨g222, 0, none⟩)), (15, .int .i64 0), (41, .int .i64 0), (42, .bool false), (45, .agg #[.bool sb, .slice Ab nb cb]), (46, .agg #[.bool sd, .slice Ad nd cd]), (47, .agg #[.bool s235, .slice A235 n235 c235]), (49, .agg #[.bool sa, .slice Aa na ca]), (50, .agg #[.bool sb, .slice Ab nb cb]), (51, .agg #[.bool s211, .slice A211 n211 c211]), (52, .agg #[.bool s53, .slice A53 n53 c53]), (53, .agg #[.bool s389, .slice A389 n389 c389]), (54, .agg #[.bool s395, .slice A395 n395 c395]), (55, .agg #[.bool s401, .slice A401 n401 c401]), (56, .agg #[.bool s235, .slice A235 n235 c235]), (57, .tuple #[.agg #[.bool s413, .slice A413 n413 c413], .int .i64 0]), (48, .tuple #[.agg #[.bool s420, .slice A420 n420 c420], .int .i64 0]), (58, .agg #[.bool s426, .slice A426 n426 c426]), (59, .int .i64 0)]) rfl rfl rfl rfl rfl (rd_load rfl (load_agg aggInt ((((hb238.ext e363).updN u435 (by omega)).ext e438).updN u442 (by omega)) [.bool s235, .slice A235 n235 c235] rfl (Nat.le_of_ble_eq_true rfl) rfl)) ?_
        refine dobs_sto ((60, .agg #[.bool s426, .slice A426 n426 c426]) :: [(0, .agg #[.bool sa, .slice Aa na ca]), (1, .agg #[.bool sb, .slice Ab nb cb]), (2, .agg #[.bool sf, .slice Af nf cf]), (3, .agg #[.bool sd, .slice Ad nd cd]), (4, .pointer (some ⟨g1, 0, none⟩)), (5, .pointer (some ⟨g6, 0, none⟩)), (6, .pointer (some ⟨g12, 0, none⟩)), (7, .pointer (some ⟨g18, 0, none⟩)), (8, .pointer (some ⟨g24, 0, none⟩)), (9, .pointer (some ⟨g30, 0, none⟩)), (16, .agg #[.bool sb, .slice Ab nb cb]), (17, .int .i64 (scmp m 0)), (18, .bool false), (19, .bool false), (20, .agg #[.bool sd, .slice Ad nd cd]), (21, .int .i64 (scmp n 0)), (22, .bool false), (23, .bool false), (27, .agg #[.bool sb, .slice Ab nb cb]), (28, .agg #[.bool sd, .slice Ad nd cd]), (29, .tuple #[.agg #[.bool s52, .slice A52 n52 c52], .agg #[.bool s53, .slice A53 n53 c53], .agg #[.bool s54, .slice A54 n54 c54]]), (26, .tuple #[.agg #[.bool s52, .slice A52 n52 c52], .agg #[.bool s53, .slice A53 n53 c53], .agg #[.bool s54, .slice A54 n54 c54]]), (30, .agg #[.bool s52, .slice A52 n52 c52]), (31, .agg #[.bool s53, .slice A53 n53 c53]), (32, .agg #[.bool s54, .slice A54 n54 c54]), (11, .pointer (some ⟨g55, 0, none⟩)), (12, .pointer (some ⟨g61, 0, none⟩)), (13, .pointer (some ⟨g67, 0, none⟩)), (34, .agg #[.bool sf, .slice Af nf cf]), (35, .agg #[.bool sa, .slice Aa na ca]), (36, .agg #[.bool s186, .slice A186 n186 c186]), (37, .agg #[.bool s52, .slice A52 n52 c52]), (38, .tuple #[.agg #[.bool s198, .slice A198 n198 c198], .int .i64 0]), (33, .tuple #[.agg #[.bool s205, .slice A205 n205 c205], .int .i64 0]), (39, .agg #[.bool s211, .slice A211 n211 c211]), (40, .int .i64 0), (14, .pointer (some ⟨g222, 0, none⟩)), (15, .int .i64 0), (41, .int .i64 0), (42, .bool false), (45, .agg #[.bool sb, .slice Ab nb cb]), (46, .agg #[.bool sd, .slice Ad nd cd]), (47, .agg #[.bool s235, .slice A235 n235 c235]), (49, .agg #[.bool sa, .slice Aa na ca]), (50, .agg #[.bool sb, .slice Ab nb cb]), (51, .agg #[.bool s211, .slice A211 n211 c211]), (52, .agg #[.bool s53, .slice A53 n53 c53]), (53, .agg #[.bool s389, .slice A389 n389 c389]), (54, .agg #[.bool s395, .slice A395 n395 c395]), (55, .agg #[.bool s401, .slice A401 n401 c401]), (56, .agg #[.bool s235, .slice A235 n235 c235]), (57, .tuple #[.agg #[.bool s413, .slice A413 n413 c413], .int .i64 0]), (48, .tuple #[.agg #[.bool s420, .slice A420 n420 c420], .int .i64 0]), (58, .agg #[.bool s426, .slice A426 n426 c426]), (59, .int .i64 0)]) rfl rfl rfl rfl rfl (rd_store rfl rfl hr444) ?_
        refine dobs_sto ((61, .agg #[.bool s235, .slice A235 n235 c235]) :: [(0, .agg #[.bool sa, .slice Aa na ca]), (1, .agg #[.bool sb, .slice Ab nb cb]), (2, .agg #[.bool sf, .slice Af nf cf]), (3, .agg #[.bool sd, .slice Ad nd cd]), (4, .pointer (some ⟨g1, 0, none⟩)), (5, .pointer (some ⟨g6, 0, none⟩)), (6, .pointer (some ⟨g12, 0, none⟩)), (7, .pointer (some ⟨g18, 0, none⟩)), (8, .pointer (some ⟨g24, 0, none⟩)), (9, .pointer (some ⟨g30, 0, none⟩)), (16, .agg #[.bool sb, .slice Ab nb cb]), (17, .int .i64 (scmp m 0)), (18, .bool false), (19, .bool false), (20, .agg #[.bool sd, .slice Ad nd cd]), (21, .int .i64 (scmp n 0)), (22, .bool false), (23, .bool false), (27, .agg #[.bool sb, .slice Ab nb cb]), (28, .agg #[.bool sd, .slice Ad nd cd]), (29, .tuple #[.agg #[.bool s52, .slice A52 n52 c52], .agg #[.bool s53, .slice A53 n53 c53], .agg #[.bool s54, .slice A54 n54 c54]]), (26, .tuple #[.agg #[.bool s52, .slice A52 n52 c52], .agg #[.bool s53, .slice A53 n53 c53], .agg #[.bool s54, .slice A54 n54 c54]]), (30, .agg #[.bool s52, .slice A52 n52 c52]), (31, .agg #[.bool s53, .slice A53 n53 c53]), (32, .agg #[.bool s54, .slice A54 n54 c54]), (11, .pointer (some ⟨g55, 0, none⟩)), (12, .pointer (some ⟨g61, 0, none⟩)), (13, .pointer (some ⟨g67, 0, none⟩)), (34, .agg #[.bool sf, .slice Af nf cf]), (35, .agg #[.bool sa, .slice Aa na ca]), (36, .agg #[.bool s186, .slice A186 n186 c186]), (37, .agg #[.bool s52, .slice A52 n52 c52]), (38, .tuple #[.agg #[.bool s198, .slice A198 n198 c198], .int .i64 0]), (33, .tuple #[.agg #[.bool s205, .slice A205 n205 c205], .int .i64 0]), (39, .agg #[.bool s211, .slice A211 n211 c211]), (40, .int .i64 0), (14, .pointer (some ⟨g222, 0, none⟩)), (15, .int .i64 0), (41, .int .i64 0), (42, .bool false), (45, .agg #[.bool sb, .slice Ab nb cb]), (46, .agg #[.bool sd, .slice Ad nd cd]), (47, .agg #[.bool s235, .slice A235 n235 c235]), (49, .agg #[.bool sa, .slice Aa na ca]), (50, .agg #[.bool sb, .slice Ab nb cb]), (51, .agg #[.bool s211, .slice A211 n211 c211]), (52, .agg #[.bool s53, .slice A53 n53 c53]), (53, .agg #[.bool s389, .slice A389 n389 c389]), (54, .agg #[.bool s395, .slice A395 n395 c395]), (55, .agg #[.bool s401, .slice A401 n401 c401]), (56, .agg #[.bool s235, .slice A235 n235 c235]), (57, .tuple #[.agg #[.bool s413, .slice A413 n413 c413], .int .i64 0]), (48, .tuple #[.agg #[.bool s420, .slice A420 n420 c420], .int .i64 0]), (58, .agg #[.bool s426, .slice A426 n426 c426]), (59, .int .i64 0)]) rfl rfl rfl rfl rfl (rd_store rfl rfl hr450) ?_
        refine dobs_val ([(0, .agg #[.bool sa, .slice Aa na ca]), (1, .agg #[.bool sb, .slice Ab nb cb]), (2, .agg #[.bool sf, .slice Af nf cf]), (3, .agg #[.bool sd, .slice Ad nd cd]), (4, .pointer (some ⟨g1, 0, none⟩)), (5, .pointer (some ⟨g6, 0, none⟩)), (6, .pointer (some ⟨g12, 0, none⟩)), (7, .pointer (some ⟨g18, 0, none⟩)), (8, .pointer (some ⟨g24, 0, none⟩)), (9, .pointer (some ⟨g30, 0, none⟩)), (16, .agg #[.bool sb, .slice Ab nb cb]), (17, .int .i64 (scmp m 0)), (18, .bool false), (19, .bool false), (20, .agg #[.bool sd, .slice Ad nd cd]), (21, .int .i64 (scmp n 0)), (22, .bool false), (23, .bool false), (27, .agg #[.bool sb, .slice Ab nb cb]), (28, .agg #[.bool sd, .slice Ad nd cd]), (29, .tuple #[.agg #[.bool s52, .slice A52 n52 c52], .agg #[.bool s53, .slice A53 n53 c53], .agg #[.bool s54, .slice A54 n54 c54]]), (26, .tuple #[.agg #[.bool s52, .slice A52 n52 c52], .agg #[.bool s53, .slice A53 n53 c53], .agg #[.bool s54, .slice A54 n54 c54]]), (30, .agg #[.bool s52, .slice A52 n52 c52]), (31, .agg #[.bool s53, .slice A53 n53 c53]), (32, .agg #[.bool s54, .slice A54 n54 c54]), (11, .pointer (some ⟨g55, 0, none⟩)), (12, .pointer (some ⟨g61, 0, none⟩)), (13, .pointer (some ⟨g67, 0, none⟩)), (34, .agg #[.bool sf, .slice Af nf cf]), (35, .agg #[.bool sa, .slice Aa na ca]), (36, .agg #[.bool s186, .slice A186 n186 c186]), (37, .agg #[.bool s52, .slice A52 n52 c52]), (38, .tuple #[.agg #[.bool s198, .slice A198 n198 c198], .int .i64 0]), (33, .tuple #[.agg #[.bool s205, .slice A205 n205 c205], .int .i64 0]), (39, .agg #[.bool s211, .slice A211 n211 c211]), (40, .int .i64 0), (14, .pointer (some ⟨g222, 0, none⟩)), (15, .int .i64 0), (41, .int .i64 0), (42, .bool false), (45, .agg #[.bool sb, .slice Ab nb cb]), (46, .agg #[.bool sd, .slice Ad nd cd]), (47, .agg #[.bool s235, .slice A235 n235 c235]), (49, .agg #[.bool sa, .slice Aa na ca]), (50, .agg #[.bool sb, .slice Ab nb cb]), (51, .agg #[.bool s211, .slice A211 n211 c211]), (52, .agg #[.bool s53, .slice A53 n53 c53]), (53, .agg #[.bool s389, .slice A389 n389 c389]), (54, .agg #[.bool s395, .slice A395 n395 c395]), (55, .agg #[.bool s401, .slice A401 n401 c401]), (56, .agg #[.bool s235, .slice A235 n235 c235]), (57, .tuple #[.agg #[.bool s413, .slice A413 n413 c413], .int .i64 0]), (48, .tuple #[.agg #[.bool s420, .slice A420 n420 c420], .int .i64 0]), (58, .agg #[.bool s426, .slice A426 n426 c426]), (59, .int .i64 0)]) rfl rfl rfl rfl rfl (rd_assign rfl) ?_
        exact dobs_nil
      clear hv
      refine eo_keep [(0, .agg #[.bool sa, .slice Aa na ca]), (1, .agg #[.bool sb, .slice Ab nb cb]), (2, .agg #[.bool sf, .slice Af nf cf]), (3, .agg #[.bool sd, .slice Ad nd cd]), (4, .pointer (some ⟨g1, 0, none⟩)), (5, .pointer (some ⟨g6, 0, none⟩)), (6, .pointer (some ⟨g12, 0, none⟩)), (7, .pointer (some ⟨g18, 0, none⟩)), (8, .pointer (some ⟨g24, 0, none⟩)), (9, .pointer (some ⟨g30, 0, none⟩)), (16, .agg #[.bool sb, .slice Ab nb cb]), (17, .int .i64 (scmp m 0)), (18, .bool false), (19, .bool false), (20, .agg #[.bool sd, .slice Ad nd cd]), (21, .int .i64 (scmp n 0)), (22, .bool false), (23, .bool false), (27, .agg #[.bool sb, .slice Ab nb cb]), (28, .agg #[.bool sd, .slice Ad nd cd]), (29, .tuple #[.agg #[.bool s52, .slice A52 n52 c52], .agg #[.bool s53, .slice A53 n53 c53], .agg #[.bool s54, .slice A54 n54 c54]]), (26, .tuple #[.agg #[.bool s52, .slice A52 n52 c52], .agg #[.bool s53, .slice A53 n53 c53], .agg #[.bool s54, .slice A54 n54 c54]]), (30, .agg #[.bool s52, .slice A52 n52 c52]), (31, .agg #[.bool s53, .slice A53 n53 c53]), (32, .agg #[.bool s54, .slice A54 n54 c54]), (11, .pointer (some ⟨g55, 0, none⟩)), (12, .pointer (some ⟨g61, 0, none⟩)), (13, .pointer (some ⟨g67, 0, none⟩)), (34, .agg #[.bool sf, .slice Af nf cf]), (35, .agg #[.bool sa, .slice Aa na ca]), (36, .agg #[.bool s186, .slice A186 n186 c186]), (37, .agg #[.bool s52, .slice A52 n52 c52]), (38, .tuple #[.agg #[.bool s198, .slice A198 n198 c198], .int .i64 0]), (33, .tuple #[.agg #[.bool s205, .slice A205 n205 c205], .int .i64 0]), (39, .agg #[.bool s211, .slice A211 n211 c211]), (40, .int .i64 0), (14, .pointer (some ⟨g222, 0, none⟩)), (15, .int .i64 0), (41, .int .i64 0), (42, .bool false), (45, .agg #[.bool sb, .slice Ab nb cb]), (46, .agg #[.bool sd, .slice Ad nd cd]), (47, .agg #[.bool s235, .slice A235 n235 c235]), (49, .agg #[.bool sa, .slice Aa na ca]), (50, .agg #[.bool sb, .slice Ab nb cb]), (51, .agg #[.bool s211, .slice A211 n211 c211]), (52, .agg #[.bool s53, .slice A53 n53 c53]), (53, .agg #[.bool s389, .slice A389 n389 c389]), (54, .agg #[.bool s395, .slice A395 n395 c395]), (55, .agg #[.bool s401, .slice A401 n401 c401]), (56, .agg #[.bool s235, .slice A235 n235 c235]), (57, .tuple #[.agg #[.bool s413, .slice A413 n413 c413], .int .i64 0]), (48, .tuple #[.agg #[.bool s420, .slice A420 n420 c420], .int .i64 0]), (58, .agg #[.bool s426, .slice A426 n426 c426]), (59, .int .i64 0), (60, .agg #[.bool s426, .slice A426 n426 c426]), (61, .agg #[.bool s235, .slice A235 n235 c235]), (10, .int .i64 0)] ⟨rfl, rfl, rfl, rfl, rfl, rfl, rfl, rfl, rfl, rfl, rfl, rfl, rfl, rfl, rfl, rfl, rfl, rfl, rfl, rfl, rfl, rfl, rfl, rfl, rfl, rfl, rfl, rfl, rfl, rfl, rfl, rfl, rfl, rfl, rfl, rfl, rfl, rfl, rfl, rfl, rfl, rfl, rfl, rfl, rfl, rfl, rfl, rfl, rfl, rfl, rfl, rfl, rfl, rfl, rfl, rfl, rfl, rfl, trivial⟩ ?_
      refine eo_then ?_
      refine cw_ret ?_
      refine eo_ret [.agg #[.bool s426, .slice A426 n426 c426], .agg #[.bool s235, .slice A235 n235 c235], .int .i64 0] rfl ⟨⟨_, rfl, load_agg aggInt (hb441.updN u448 (by omega)) [.bool s426, .slice A426 n426 c426] rfl (Nat.le_of_ble_eq_true rfl) rfl⟩, ⟨_, rfl, load_agg aggInt hb447 [.bool s235, .slice A235 n235 c235] rfl (Nat.le_of_ble_eq_true rfl) rfl⟩, rfl, trivial⟩ ?_
      exact ⟨_, rfl, ⟨_, _, _, rfl, ⟨_, _, _, _, rfl, (((((z426.updT hb433 u435).ext e438).updT hb440 u442).updT hb446 u448)).cast (crt_eq p47 hm0 d1 d2)⟩, ⟨_, _, _, _, rfl, ((((((z235.updT hb237 u239).ext e363).updT hb433 u435).ext e438).updT hb440 u442).updT hb446 u448)⟩, rfl⟩, hw24⟩
theorem g_bezout_Crt_ok {w : World} {sa : Bool} {Aa : Option Addr} {na ca : Nat} {x : Int} {sb : Bool} {Ab : Option Addr} {nb cb : Nat} {m : Int} {sf : Bool} {Af : Option Addr} {nf cf : Nat} {y : Int} {sd : Bool} {Ad : Option Addr} {nd cd : Nat} {n : Int} {b : Nat} (hb : b ≤ w.heap.size)  (hx : Zi w sa Aa na ca x) (la : na ≤ 67108864) (hm : Zi w sb Ab nb cb m) (lb : nb ≤ 67108864) (hy : Zi w sf Af nf cf y) (lf : nf ≤ 67108864) (hn : Zi w sd Ad nd cd n) (ld : nd ≤ 67108864) (hm0 : m ≠ 0) (hn0 : n ≠ 0) {s : Int} (d1 : m ∣ x - s) (d2 : n ∣ y - s) :
    Calls Try.prog 51 #[.agg #[.bool sa, .slice Aa na ca], .agg #[.bool sb, .slice Ab nb cb], .agg #[.bool sf, .slice Af nf cf], .agg #[.bool sd, .slice Ad nd cd]] w (Gv w (T3 (ZR b (s % (Int.lcm m n : Int))) (ZR b ((Int.lcm m n : Int))) (Is (.int .i64 0)))) := (g_bezout_Crt_okI hx la hm lb hy lf hn ld hm0 hn0 d1 d2).mono (Gv.imp (T3.imp (ZR.imp hb) (ZR.imp hb) Is.imp))
end Go.Proofs.Ytmaconeeonkdgaa
