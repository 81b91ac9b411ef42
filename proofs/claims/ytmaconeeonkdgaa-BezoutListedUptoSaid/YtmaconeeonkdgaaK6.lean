/- Parts Ref5, Inv, Bo, Lg6, Upto, Frac, FracB, Law8, Law8b, Cont, Zl, joined. -/
import Derived.Test.YtmaconeeonkdgaaK5
import Derived.Test.YtmaconeeonkdgaaRows
import Derived.WalkKit
import Derived.ProofKit
import Derived.OpenShut
import Derived.JoinedCond
import Derived.ChangeSame
import Derived.ChangeSlices

/- trellisref05, printed by p_ref5.py -/
namespace Go.Proofs.Ytmaconeeonkdgaa
open Go.RowKit

theorem Zi.sg {w : World} {s : Bool} {A : Option Addr} {n cap : Nat} {z : Int} (h : Zi w s A n cap z) : Go.Proofs.Ytmaconeeonkdgaa.sg s z.natAbs = z := by
  obtain ⟨xs, _, rfl⟩ := h
  rw [sg_abs]
theorem ln_eq_zero {x : Int} (h : ln x = 0) : x = 0 := by
  have := len_wd_zero.1 (show (wd x.natAbs).length = 0 from h)
  omega
theorem ln_sg (s : Bool) (m : Nat) : ln (sg s m) = (wd m).length := by unfold ln; rw [sg_abs]
theorem scmp_m1 {x y : Int} (h : x < y) : scmp x y = -1 := by unfold scmp; rw [if_pos h]
theorem scmp_p1 {x y : Int} (h : y < x) : scmp x y = 1 := by unfold scmp; rw [if_neg (by omega), if_neg (by omega)]
theorem scmp_z {x y : Int} (h : x = y) : scmp x y = 0 := scmp_zero.2 h
theorem scmp_diff_lt {x y : Int} (h : scmp x 0 < scmp y 0) : scmp x y = -1 := scmp_m1 (by unfold scmp at h; split at h <;> split at h <;> (try split at h) <;> omega)
theorem scmp_diff_gt {x y : Int} (h : scmp y 0 < scmp x 0) : scmp x y = 1 := scmp_p1 (by unfold scmp at h; split at h <;> split at h <;> (try split at h) <;> omega)
theorem scmp_same {x y : Int} (h : scmp x 0 = scmp y 0) : scmp x 0 * cmp3 (Int.natAbs x) (Int.natAbs y) = scmp x y := by
  rcases Int.lt_trichotomy x 0 with hx | hx | hx
  · have hy : y < 0 := scmp_neg.1 (by rw [← h, scmp_m1 hx]; decide)
    rw [scmp_m1 hx]
    unfold scmp cmp3
    by_cases h1 : x < y
    · rw [if_neg (by omega), if_neg (by omega), if_pos h1]; rfl
    · by_cases h2 : x = y
      · rw [if_neg (by omega), if_pos (by omega), if_neg h1, if_pos h2]; rfl
      · rw [if_pos (by omega), if_neg h1, if_neg h2]; rfl
  · subst hx
    have hy : y = 0 := scmp_zero.1 (by rw [← h]; rfl)
    subst hy; rfl
  · have hy : 0 < y := scmp_pos.1 (by rw [← h, scmp_p1 hx]; decide)
    rw [scmp_p1 hx, Int.one_mul]
    unfold scmp cmp3
    by_cases h1 : x < y
    · rw [if_pos (by omega), if_pos h1]
    · by_cases h2 : x = y
      · rw [if_neg (by omega), if_pos (by omega), if_neg h1, if_pos h2]
      · rw [if_neg (by omega), if_neg (by omega), if_neg h1, if_neg h2]
theorem cmp3_ge_t {x y : Nat} (h : y ≤ x) : cmpB .geq (cmp3 x y) 0 = some true := by
  have e : ¬ cmp3 x y < 0 := fun e => by have := cmp3_neg.1 e; omega
  exact ge_t (by omega)
theorem cmp3_ge_f {x y : Nat} (h : ¬ y ≤ x) : cmpB .geq (cmp3 x y) 0 = some false := by
  have e := cmp3_neg.2 (show x < y by omega)
  exact ge_f (by omega)
section
variable {w : World} {A B : Option Addr} {n cap m cap' i j : Nat}
theorem g_ref1_Least {b : Nat} (hb : b ≤ w.heap.size) (hx : Wi w A n cap i) (hl : n ≤ 68719476735) : Calls Try.prog 93 #[.slice A n cap] w (Gv w (WR b i)) := by
  obtain ⟨xs, h1, rfl⟩ := hx
  exact (ref1_Least h1 (by omega)).mono (gw hb)
theorem g_ref1_Add {b : Nat} (hb : b ≤ w.heap.size) (hx : Wi w A n cap i) (hl : n ≤ 68719476735) (hy : Wi w B m cap' j) (hl' : m ≤ 68719476735) : Calls Try.prog 76 #[.slice A n cap, .slice B m cap'] w (Gv w (WR b (i + j))) := by
  obtain ⟨xs, h1, rfl⟩ := hx
  obtain ⟨ys, h2, rfl⟩ := hy
  exact (ref1_Add h1 (by omega) h2 (by omega)).mono (gw hb)
theorem g_ref1_Cmp (hx : Wi w A n cap i) (hl : n ≤ 68719476735) (hy : Wi w B m cap' j) (hl' : m ≤ 68719476735) : Calls Try.prog 77 #[.slice A n cap, .slice B m cap'] w (Gv w (Is (.int .i64 (cmp3 i j)))) := by
  obtain ⟨xs, h1, rfl⟩ := hx
  obtain ⟨ys, h2, rfl⟩ := hy
  exact (ref1_Cmp h1 (by omega) h2 (by omega)).mono gcmp
theorem g_ref1_Sub {b : Nat} (hb : b ≤ w.heap.size) (hx : Wi w A n cap i) (hl : n ≤ 68719476735) (hy : Wi w B m cap' j) (hl' : m ≤ 68719476735) (hij : j ≤ i) : Calls Try.prog 78 #[.slice A n cap, .slice B m cap'] w (Gv w (T2 (WR b (i - j)) (Is (.int .i64 0)))) := by
  obtain ⟨xs, h1, rfl⟩ := hx
  obtain ⟨ys, h2, rfl⟩ := hy
  exact (ref1_Sub h1 (by omega) h2 (by omega) hij).mono (Gv.imp (T2.imp (WR.imp hb) Is.imp))
theorem g_ref2_Mul {b : Nat} (hb : b ≤ w.heap.size) (hx : Wi w A n cap i) (hl : n ≤ 68719476735) (hy : Wi w B m cap' j) (hl' : m ≤ 68719476735) : Calls Try.prog 73 #[.slice A n cap, .slice B m cap'] w (Gv w (WR b (i * j))) := by
  obtain ⟨xs, h1, rfl⟩ := hx
  obtain ⟨ys, h2, rfl⟩ := hy
  exact (ref2_Mul h1 hl h2 hl').mono (gw hb)
theorem g_ref3_DivMod {b : Nat} (hb : b ≤ w.heap.size) (hx : Wi w A n cap i) (hl : n ≤ 68719476735) (hy : Wi w B m cap' j) (hl' : m ≤ 68719476735) (h0 : j ≠ 0) : Calls Try.prog 99 #[.slice A n cap, .slice B m cap'] w (Gv w (T3 (WR b (i / j)) (WR b (i % j)) (Is (.int .i64 0)))) := by
  obtain ⟨xs, h1, rfl⟩ := hx
  obtain ⟨ys, h2, rfl⟩ := hy
  exact (ref3_DivMod_ok h1 (by omega) h2 (by omega) h0).mono (Gv.imp (T3.imp (WR.imp hb) (WR.imp hb) Is.imp))
theorem g_ref3_DivMod_bad (hy : Wi w B m cap' j) (hl' : m ≤ 68719476735) (h0 : j = 0) : Calls Try.prog 99 #[.slice A n cap, .slice B m cap'] w (Gv w (Is (.tuple #[.slice none 0 0, .slice none 0 0, .int .i64 4]))) := by
  obtain ⟨ys, h2, rfl⟩ := hy
  exact ref3_DivMod_bad (xs := []) h2 (by omega) h0
end

set_option maxHeartbeats 4000000 in
theorem g_ref5_madeI {w : World} {s : Bool} {A : Option Addr} {n cap m : Nat} (hx : Wi w A n cap m) (hl : n ≤ 68719476735)  :
    Calls Try.prog 74 #[.bool s, .slice A n cap] w (Gv w (ZR w.heap.size (sg s m))) := by
  refine sx_enter Try.func74 rfl (n := 16) rfl (Nat.le_of_ble_eq_true rfl) (args := [.bool s, .slice A n cap]) ?_
  refine cw_keep [(0, .bool s), (1, .slice A n cap)] ⟨rfl, rfl, trivial⟩ ?_
  refine cw_seq ?_
  -- region 0
  refine cw_region ?_
  refine wl_alloc rfl (z := .agg #[.bool false, .slice none 0 0]) (vs := [.bool false, .slice none 0 0]) (fun _ => by kernel_rfl) rfl (by decide) fun g1 v2 nb => ?_
  have hb4 := nb.bk
  have ge5 : w.heap.size ≤ g1 := by rw [← nb.at_]; exact (Ext.refl w).size
  have e3 := nb.ext
  clear nb
  have hw1 : Ext w v2 := (Ext.refl w).trans e3
  refine wl_nil ?_
  refine eo_then ?_
  refine cw_seq ?_
  -- region 1
  refine cw_region ?_
  refine wl_move rfl rfl (by decide) ?_
  refine wl_call rfl rfl (vs := [.slice A n cap]) (by kernel_rfl) (by decide) (g_ref1_Least hw1.size (hx.ext hw1) (Nat.le_trans hl (by decide))) ?_
  rintro _ v6 ⟨xr8, rfl, r8, e7⟩
  refine ret_intro ?_
  have hw2 : Ext w v6 := hw1.trans e7
  obtain ⟨A9, n9, c9, rfl, j9, o9⟩ := r8
  refine wl_assign rfl rfl (by decide) ?_
  refine wl_nil ?_
  refine eo_then ?_
  refine cw_seq ?_
  by_cases hs : s = true
  ·
    subst hs
    by_cases hm0 : m = 0
    ·
      have hn0 : n9 = 0 := by rw [j9, hm0, wd_zero]; rfl
      -- region 2
      refine cw_region ?_
      refine wl_move rfl rfl (by decide) ?_
      refine wl_move rfl rfl (by decide) ?_
      refine wl_move rfl rfl (by decide) ?_
      refine wl_pure rfl rfl (v := .int .i64 ((n9 : Nat) : Int)) (by decide) (by kernel_rfl) ?_
      refine wl_cmp rfl rfl rfl false (gt_f (by omega)) (by decide) ?_
      refine wl_pure rfl rfl (v := .bool false) (by decide) (by kernel_rfl) ?_
      refine wl_move rfl rfl (by decide) ?_
      refine wl_pure rfl rfl (v := .agg #[.bool false, .slice A9 n9 c9]) (by decide) (by kernel_rfl) ?_
      have hb11 := (hb4.ext e7)
      refine wl_stored rfl rfl rfl aggInt rfl hb11 (Nat.le_of_ble_eq_true rfl) rfl [.bool false, .slice A9 n9 c9] rfl fun v10 hb12 u13 hs14 => ?_
      have hw3 : Ext w v10 := u13.ext hw2 ge5
      refine wl_nil ?_
      refine eo_then ?_
      refine cw_ret ?_
      refine eo_ret [.agg #[.bool false, .slice A9 n9 c9]] rfl ⟨⟨_, rfl, load_agg aggInt hb12 [.bool false, .slice A9 n9 c9] rfl (Nat.le_of_ble_eq_true rfl) rfl⟩, trivial⟩ ?_
      exact ⟨_, rfl, ⟨_, _, _, _, rfl, ((Zr_of (m := m) (s := true) (z := sg true m) (by rw [sg_lt, hm0]; rfl) j9 o9 rfl).updT hb11 u13)⟩, hw3⟩
    ·
      have hn0 : n9 ≠ 0 := fun e => hm0 (len_wd_zero.1 (by rw [← j9, e]))
      -- region 2
      refine cw_region ?_
      refine wl_move rfl rfl (by decide) ?_
      refine wl_move rfl rfl (by decide) ?_
      refine wl_move rfl rfl (by decide) ?_
      refine wl_pure rfl rfl (v := .int .i64 ((n9 : Nat) : Int)) (by decide) (by kernel_rfl) ?_
      refine wl_cmp rfl rfl rfl true (gt_t (by omega)) (by decide) ?_
      refine wl_pure rfl rfl (v := .bool true) (by decide) (by kernel_rfl) ?_
      refine wl_move rfl rfl (by decide) ?_
      refine wl_pure rfl rfl (v := .agg #[.bool true, .slice A9 n9 c9]) (by decide) (by kernel_rfl) ?_
      have hb16 := (hb4.ext e7)
      refine wl_stored rfl rfl rfl aggInt rfl hb16 (Nat.le_of_ble_eq_true rfl) rfl [.bool true, .slice A9 n9 c9] rfl fun v15 hb17 u18 hs19 => ?_
      have hw3 : Ext w v15 := u18.ext hw2 ge5
      refine wl_nil ?_
      refine eo_then ?_
      refine cw_ret ?_
      refine eo_ret [.agg #[.bool true, .slice A9 n9 c9]] rfl ⟨⟨_, rfl, load_agg aggInt hb17 [.bool true, .slice A9 n9 c9] rfl (Nat.le_of_ble_eq_true rfl) rfl⟩, trivial⟩ ?_
      exact ⟨_, rfl, ⟨_, _, _, _, rfl, ((Zr_of (m := m) (s := true) (z := sg true m) (by rw [sg_lt, decide_eq_true (Nat.pos_of_ne_zero hm0)]; rfl) j9 o9 rfl).updT hb16 u18)⟩, hw3⟩
  ·
    replace hs : s = false := by simpa using hs
    subst hs
    -- region 2
    refine cw_region ?_
    refine wl_move rfl rfl (by decide) ?_
    refine wl_move rfl rfl (by decide) ?_
    refine wl_off rfl (by decide) ?_
    refine wl_off rfl (by decide) ?_
    refine wl_off rfl (by decide) ?_
    refine wl_pure rfl rfl (v := .bool false) (by decide) (by kernel_rfl) ?_
    refine wl_move rfl rfl (by decide) ?_
    refine wl_pure rfl rfl (v := .agg #[.bool false, .slice A9 n9 c9]) (by decide) (by kernel_rfl) ?_
    have hb21 := (hb4.ext e7)
    refine wl_stored rfl rfl rfl aggInt rfl hb21 (Nat.le_of_ble_eq_true rfl) rfl [.bool false, .slice A9 n9 c9] rfl fun v20 hb22 u23 hs24 => ?_
    have hw3 : Ext w v20 := u23.ext hw2 ge5
    refine wl_nil ?_
    refine eo_then ?_
    refine cw_ret ?_
    refine eo_ret [.agg #[.bool false, .slice A9 n9 c9]] rfl ⟨⟨_, rfl, load_agg aggInt hb22 [.bool false, .slice A9 n9 c9] rfl (Nat.le_of_ble_eq_true rfl) rfl⟩, trivial⟩ ?_
    exact ⟨_, rfl, ⟨_, _, _, _, rfl, ((Zr_of (m := m) (s := false) (z := sg false m) (by rw [sg_lt]; rfl) j9 o9 rfl).updT hb21 u23)⟩, hw3⟩
theorem g_ref5_made {w : World} {s : Bool} {A : Option Addr} {n cap m : Nat} {b : Nat} (hb : b ≤ w.heap.size)  (hx : Wi w A n cap m) (hl : n ≤ 68719476735)  :
    Calls Try.prog 74 #[.bool s, .slice A n cap] w (Gv w (ZR b (sg s m))) := (g_ref5_madeI hx hl).mono (Gv.imp (ZR.imp hb))

set_option maxHeartbeats 4000000 in
theorem g_ref5_LeastI {w : World} {sa : Bool} {Aa : Option Addr} {na ca : Nat} {x : Int} (hx : Zi w sa Aa na ca x) (la : na ≤ 17179869183)  :
    Calls Try.prog 72 #[.agg #[.bool sa, .slice Aa na ca]] w (Gv w (ZR w.heap.size (x))) := by
  have Lx : ln x ≤ 17179869183 := Nat.le_trans hx.ln la
  refine sx_enter Try.func72 rfl (n := 8) rfl (Nat.le_of_ble_eq_true rfl) (args := [.agg #[.bool sa, .slice Aa na ca]]) ?_
  refine cw_keep [(0, .agg #[.bool sa, .slice Aa na ca])] ⟨rfl, trivial⟩ ?_
  refine cw_seq ?_
  -- region 0
  refine cw_region ?_
  refine wl_box rfl rfl (vs := [.bool sa, .slice Aa na ca]) rfl (by decide) fun g1 v2 nb => ?_
  have hb4 := nb.bk
  have ge5 : w.heap.size ≤ g1 := by rw [← nb.at_]; exact (Ext.refl w).size
  have e3 := nb.ext
  clear nb
  have hw1 : Ext w v2 := (Ext.refl w).trans e3
  refine wl_alloc rfl (z := .agg #[.bool false, .slice none 0 0]) (vs := [.bool false, .slice none 0 0]) (fun _ => by kernel_rfl) rfl (by decide) fun g6 v7 nb => ?_
  have hb9 := nb.bk
  have ge10 : w.heap.size ≤ g6 := by rw [← nb.at_]; exact hw1.size
  have q11 : g1 < g6 := by rw [← nb.at_]; exact hb4.lt
  have e8 := nb.ext
  clear nb
  have hw2 : Ext w v7 := hw1.trans e8
  refine wl_nil ?_
  refine eo_then ?_
  refine cw_seq ?_
  -- region 1
  refine cw_region ?_
  refine wl_pure rfl rfl (v := .pointer (some ⟨g1, 0, none⟩)) (by decide) (by kernel_rfl) ?_
  refine wl_load rfl rfl (load_cell cellBool (hb4.ext e8) rfl) (by decide) ?_
  refine wl_pure rfl rfl (v := .pointer (some ⟨g1, 1, none⟩)) (by decide) (by kernel_rfl) ?_
  refine wl_load rfl rfl (load_cell cellWords (hb4.ext e8) rfl) (by decide) ?_
  have L12 : ln (sg sa (Int.natAbs x)) ≤ 17179869183 := by rw [ln_sg]; exact Lx
  refine wl_call rfl rfl (vs := [.bool sa, .slice Aa na ca]) (by kernel_rfl) (by decide) (g_ref5_made hw2.size (hx.ext hw2).wi (Nat.le_trans la (by decide))) ?_
  rintro _ v13 ⟨xr15, rfl, r15, e14⟩
  refine ret_intro ?_
  have hw3 : Ext w v13 := hw2.trans e14
  obtain ⟨s16, A16, n16, c16, rfl, z16⟩ := r15
  have hb18 := (hb9.ext e14)
  refine wl_stored rfl rfl rfl aggInt rfl hb18 (Nat.le_of_ble_eq_true rfl) rfl [.bool s16, .slice A16 n16 c16] rfl fun v17 hb19 u20 hs21 => ?_
  have hw4 : Ext w v17 := u20.ext hw3 ge10
  refine wl_nil ?_
  refine eo_then ?_
  refine cw_ret ?_
  refine eo_ret [.agg #[.bool s16, .slice A16 n16 c16]] rfl ⟨⟨_, rfl, load_agg aggInt hb19 [.bool s16, .slice A16 n16 c16] rfl (Nat.le_of_ble_eq_true rfl) rfl⟩, trivial⟩ ?_
  exact ⟨_, rfl, ⟨_, _, _, _, rfl, ((z16.updT hb18 u20)).cast (hx.sg)⟩, hw4⟩
theorem g_ref5_Least {w : World} {sa : Bool} {Aa : Option Addr} {na ca : Nat} {x : Int} {b : Nat} (hb : b ≤ w.heap.size)  (hx : Zi w sa Aa na ca x) (la : na ≤ 17179869183)  :
    Calls Try.prog 72 #[.agg #[.bool sa, .slice Aa na ca]] w (Gv w (ZR b (x))) := (g_ref5_LeastI hx la).mono (Gv.imp (ZR.imp hb))

set_option maxHeartbeats 4000000 in
theorem g_ref5_AbsI {w : World} {sa : Bool} {Aa : Option Addr} {na ca : Nat} {x : Int} (hx : Zi w sa Aa na ca x) (la : na ≤ 17179869183)  :
    Calls Try.prog 41 #[.agg #[.bool sa, .slice Aa na ca]] w (Gv w (ZR w.heap.size ((Int.natAbs x : Int)))) := by
  have Lx : ln x ≤ 17179869183 := Nat.le_trans hx.ln la
  refine sx_enter Try.func41 rfl (n := 6) rfl (Nat.le_of_ble_eq_true rfl) (args := [.agg #[.bool sa, .slice Aa na ca]]) ?_
  refine cw_keep [(0, .agg #[.bool sa, .slice Aa na ca])] ⟨rfl, trivial⟩ ?_
  refine cw_seq ?_
  -- region 0
  refine cw_region ?_
  refine wl_box rfl rfl (vs := [.bool sa, .slice Aa na ca]) rfl (by decide) fun g1 v2 nb => ?_
  have hb4 := nb.bk
  have ge5 : w.heap.size ≤ g1 := by rw [← nb.at_]; exact (Ext.refl w).size
  have e3 := nb.ext
  clear nb
  have hw1 : Ext w v2 := (Ext.refl w).trans e3
  refine wl_alloc rfl (z := .agg #[.bool false, .slice none 0 0]) (vs := [.bool false, .slice none 0 0]) (fun _ => by kernel_rfl) rfl (by decide) fun g6 v7 nb => ?_
  have hb9 := nb.bk
  have ge10 : w.heap.size ≤ g6 := by rw [← nb.at_]; exact hw1.size
  have q11 : g1 < g6 := by rw [← nb.at_]; exact hb4.lt
  have e8 := nb.ext
  clear nb
  have hw2 : Ext w v7 := hw1.trans e8
  refine wl_nil ?_
  refine eo_then ?_
  refine cw_seq ?_
  -- region 1
  refine cw_region ?_
  refine wl_pure rfl rfl (v := .pointer (some ⟨g1, 1, none⟩)) (by decide) (by kernel_rfl) ?_
  refine wl_load rfl rfl (load_cell cellWords (hb4.ext e8) rfl) (by decide) ?_
  have L12 : ln (sg false (Int.natAbs x)) ≤ 17179869183 := by rw [ln_sg]; exact Lx
  refine wl_call rfl rfl (vs := [.bool false, .slice Aa na ca]) (by kernel_rfl) (by decide) (g_ref5_made hw2.size (hx.ext hw2).wi (Nat.le_trans la (by decide))) ?_
  rintro _ v13 ⟨xr15, rfl, r15, e14⟩
  refine ret_intro ?_
  have hw3 : Ext w v13 := hw2.trans e14
  obtain ⟨s16, A16, n16, c16, rfl, z16⟩ := r15
  have hb18 := (hb9.ext e14)
  refine wl_stored rfl rfl rfl aggInt rfl hb18 (Nat.le_of_ble_eq_true rfl) rfl [.bool s16, .slice A16 n16 c16] rfl fun v17 hb19 u20 hs21 => ?_
  have hw4 : Ext w v17 := u20.ext hw3 ge10
  refine wl_nil ?_
  refine eo_then ?_
  refine cw_ret ?_
  refine eo_ret [.agg #[.bool s16, .slice A16 n16 c16]] rfl ⟨⟨_, rfl, load_agg aggInt hb19 [.bool s16, .slice A16 n16 c16] rfl (Nat.le_of_ble_eq_true rfl) rfl⟩, trivial⟩ ?_
  exact ⟨_, rfl, ⟨_, _, _, _, rfl, ((z16.updT hb18 u20)).cast (rfl)⟩, hw4⟩
theorem g_ref5_Abs {w : World} {sa : Bool} {Aa : Option Addr} {na ca : Nat} {x : Int} {b : Nat} (hb : b ≤ w.heap.size)  (hx : Zi w sa Aa na ca x) (la : na ≤ 17179869183)  :
    Calls Try.prog 41 #[.agg #[.bool sa, .slice Aa na ca]] w (Gv w (ZR b ((Int.natAbs x : Int)))) := (g_ref5_AbsI hx la).mono (Gv.imp (ZR.imp hb))

set_option maxHeartbeats 4000000 in
theorem g_ref5_Sign {w : World} {sa : Bool} {Aa : Option Addr} {na ca : Nat} {x : Int} (hx : Zi w sa Aa na ca x) (la : na ≤ 17179869183)  :
    Calls Try.prog 30 #[.agg #[.bool sa, .slice Aa na ca]] w (Gv w (Is (.int .i64 (scmp x 0)))) := by
  have Lx : ln x ≤ 17179869183 := Nat.le_trans hx.ln la
  refine sx_enter Try.func30 rfl (n := 12) rfl (Nat.le_of_ble_eq_true rfl) (args := [.agg #[.bool sa, .slice Aa na ca]]) ?_
  refine cw_keep [(0, .agg #[.bool sa, .slice Aa na ca])] ⟨rfl, trivial⟩ ?_
  refine cw_seq ?_
  -- region 0
  refine cw_region ?_
  refine wl_box rfl rfl (vs := [.bool sa, .slice Aa na ca]) rfl (by decide) fun g1 v2 nb => ?_
  have hb4 := nb.bk
  have ge5 : w.heap.size ≤ g1 := by rw [← nb.at_]; exact (Ext.refl w).size
  have e3 := nb.ext
  clear nb
  have hw1 : Ext w v2 := (Ext.refl w).trans e3
  refine wl_assign rfl rfl (by decide) ?_
  refine wl_nil ?_
  refine eo_then ?_
  refine cw_seq ?_
  -- region 1
  refine cw_region ?_
  refine wl_load rfl rfl (load_agg aggInt hb4 [.bool sa, .slice Aa na ca] rfl (Nat.le_of_ble_eq_true rfl) rfl) (by decide) ?_
  refine wl_call rfl rfl (vs := [.agg #[.bool sa, .slice Aa na ca]]) (by kernel_rfl) (by decide) (g_ref5_Least hw1.size (hx.ext hw1) (Nat.le_trans la (by decide))) ?_
  rintro _ v6 ⟨xr8, rfl, r8, e7⟩
  refine ret_intro ?_
  have hw2 : Ext w v6 := hw1.trans e7
  obtain ⟨s9, A9, n9, c9, rfl, z9⟩ := r8
  refine wl_alloc rfl (z := .agg #[.bool false, .slice none 0 0]) (vs := [.bool false, .slice none 0 0]) (fun _ => by kernel_rfl) rfl (by decide) fun g10 v11 nb => ?_
  have hb13 := nb.bk
  have ge14 : w.heap.size ≤ g10 := by rw [← nb.at_]; exact hw2.size
  have q15 : g1 < g10 := by rw [← nb.at_]; exact (hb4.ext e7).lt
  have e12 := nb.ext
  clear nb
  have hw3 : Ext w v11 := hw2.trans e12
  have hb17 := hb13
  refine wl_stored rfl rfl rfl aggInt rfl hb17 (Nat.le_of_ble_eq_true rfl) rfl [.bool s9, .slice A9 n9 c9] rfl fun v16 hb18 u19 hs20 => ?_
  have hw4 : Ext w v16 := u19.ext hw3 ge14
  refine wl_nil ?_
  refine eo_then ?_
  refine cw_seq ?_
  refine cw_seq ?_
  by_cases hx0 : x < 0
  ·
    obtain rfl : s9 = true := by rw [(((z9.ext e12).updT hb17 u19)).sgn]; exact decide_eq_true hx0
    -- region 2
    refine cw_region ?_
    refine wl_pure rfl rfl (v := .pointer (some ⟨g10, 0, none⟩)) (by decide) (by kernel_rfl) ?_
    refine wl_load rfl rfl (load_cell cellBool hb18 rfl) (by decide) ?_
    refine wl_nil ?_
    refine eo_then ?_
    refine cw_true rfl ?_
    refine cw_seq ?_
    -- region 3
    refine cw_region ?_
    refine wl_assign rfl rfl (by decide) ?_
    refine wl_nil ?_
    refine eo_then ?_
    refine cw_ret ?_
    refine eo_thenR ?_
    refine eo_ret [.int .i64 (-1)] rfl ⟨rfl, trivial⟩ ?_
    exact ⟨_, rfl, (show (.int .i64 (-1) : Value) = Value.int .i64 (scmp x 0) by rw [scmp_m1 hx0]), hw4⟩
  ·
    obtain rfl : s9 = false := by rw [(((z9.ext e12).updT hb17 u19)).sgn]; exact decide_eq_false hx0
    have hnl : n9 = ln x := (((z9.ext e12).updT hb17 u19)).len
    by_cases hxz : x = 0
    ·
      have hn0 : n9 = 0 := by rw [hnl, hxz]; rfl
      -- region 2
      refine cw_region ?_
      refine wl_pure rfl rfl (v := .pointer (some ⟨g10, 0, none⟩)) (by decide) (by kernel_rfl) ?_
      refine wl_load rfl rfl (load_cell cellBool hb18 rfl) (by decide) ?_
      refine wl_nil ?_
      refine eo_then ?_
      refine cw_false rfl ?_
      refine cw_skip ?_
      refine eo_then ?_
      refine cw_seq ?_
      refine cw_seq ?_
      -- region 4
      refine cw_region ?_
      refine wl_pure rfl rfl (v := .pointer (some ⟨g10, 1, none⟩)) (by decide) (by kernel_rfl) ?_
      refine wl_load rfl rfl (load_cell cellWords hb18 rfl) (by decide) ?_
      refine wl_pure rfl rfl (v := .int .i64 ((n9 : Nat) : Int)) (by decide) (by kernel_rfl) ?_
      refine wl_cmp rfl rfl rfl false (gt_f (by omega)) (by decide) ?_
      refine wl_nil ?_
      refine eo_then ?_
      refine cw_false rfl ?_
      refine cw_skip ?_
      refine eo_then ?_
      refine cw_seq ?_
      -- region 6
      refine cw_region ?_
      refine wl_assign rfl rfl (by decide) ?_
      refine wl_nil ?_
      refine eo_then ?_
      refine cw_ret ?_
      refine eo_ret [.int .i64 0] rfl ⟨rfl, trivial⟩ ?_
      exact ⟨_, rfl, (show (.int .i64 0 : Value) = Value.int .i64 (scmp x 0) by rw [scmp_z hxz]), hw4⟩
    ·
      have hn0 : n9 ≠ 0 := fun e => hxz (ln_eq_zero (by rw [← hnl, e]))
      -- region 2
      refine cw_region ?_
      refine wl_pure rfl rfl (v := .pointer (some ⟨g10, 0, none⟩)) (by decide) (by kernel_rfl) ?_
      refine wl_load rfl rfl (load_cell cellBool hb18 rfl) (by decide) ?_
      refine wl_nil ?_
      refine eo_then ?_
      refine cw_false rfl ?_
      refine cw_skip ?_
      refine eo_then ?_
      refine cw_seq ?_
      refine cw_seq ?_
      -- region 4
      refine cw_region ?_
      refine wl_pure rfl rfl (v := .pointer (some ⟨g10, 1, none⟩)) (by decide) (by kernel_rfl) ?_
      refine wl_load rfl rfl (load_cell cellWords hb18 rfl) (by decide) ?_
      refine wl_pure rfl rfl (v := .int .i64 ((n9 : Nat) : Int)) (by decide) (by kernel_rfl) ?_
      refine wl_cmp rfl rfl rfl true (gt_t (by omega)) (by decide) ?_
      refine wl_nil ?_
      refine eo_then ?_
      refine cw_true rfl ?_
      refine cw_seq ?_
      -- region 5
      refine cw_region ?_
      refine wl_assign rfl rfl (by decide) ?_
      refine wl_nil ?_
      refine eo_then ?_
      refine cw_ret ?_
      refine eo_thenR ?_
      refine eo_ret [.int .i64 1] rfl ⟨rfl, trivial⟩ ?_
      exact ⟨_, rfl, (show (.int .i64 1 : Value) = Value.int .i64 (scmp x 0) by rw [scmp_p1 (by omega)]), hw4⟩

set_option maxHeartbeats 4000000 in
theorem g_ref5_CmpAbs {w : World} {sa : Bool} {Aa : Option Addr} {na ca : Nat} {x : Int} {sb : Bool} {Ab : Option Addr} {nb cb : Nat} {y : Int} (hx : Zi w sa Aa na ca x) (la : na ≤ 17179869183) (hy : Zi w sb Ab nb cb y) (lb : nb ≤ 17179869183)  :
    Calls Try.prog 45 #[.agg #[.bool sa, .slice Aa na ca], .agg #[.bool sb, .slice Ab nb cb]] w (Gv w (Is (.int .i64 (cmp3 (Int.natAbs x) (Int.natAbs y))))) := by
  have Lx : ln x ≤ 17179869183 := Nat.le_trans hx.ln la
  have Ly : ln y ≤ 17179869183 := Nat.le_trans hy.ln lb
  refine sx_enter Try.func45 rfl (n := 10) rfl (Nat.le_of_ble_eq_true rfl) (args := [.agg #[.bool sa, .slice Aa na ca], .agg #[.bool sb, .slice Ab nb cb]]) ?_
  refine cw_keep [(0, .agg #[.bool sa, .slice Aa na ca]), (1, .agg #[.bool sb, .slice Ab nb cb])] ⟨rfl, rfl, trivial⟩ ?_
  refine cw_seq ?_
  -- region 0
  refine cw_region ?_
  refine wl_box rfl rfl (vs := [.bool sa, .slice Aa na ca]) rfl (by decide) fun g1 v2 nb => ?_
  have hb4 := nb.bk
  have ge5 : w.heap.size ≤ g1 := by rw [← nb.at_]; exact (Ext.refl w).size
  have e3 := nb.ext
  clear nb
  have hw1 : Ext w v2 := (Ext.refl w).trans e3
  refine wl_box rfl rfl (vs := [.bool sb, .slice Ab nb cb]) rfl (by decide) fun g6 v7 nb => ?_
  have hb9 := nb.bk
  have ge10 : w.heap.size ≤ g6 := by rw [← nb.at_]; exact hw1.size
  have q11 : g1 < g6 := by rw [← nb.at_]; exact hb4.lt
  have e8 := nb.ext
  clear nb
  have hw2 : Ext w v7 := hw1.trans e8
  refine wl_assign rfl rfl (by decide) ?_
  refine wl_nil ?_
  refine eo_then ?_
  refine cw_seq ?_
  -- region 1
  refine cw_region ?_
  refine wl_pure rfl rfl (v := .pointer (some ⟨g1, 1, none⟩)) (by decide) (by kernel_rfl) ?_
  refine wl_load rfl rfl (load_cell cellWords (hb4.ext e8) rfl) (by decide) ?_
  refine wl_pure rfl rfl (v := .pointer (some ⟨g6, 1, none⟩)) (by decide) (by kernel_rfl) ?_
  refine wl_load rfl rfl (load_cell cellWords hb9 rfl) (by decide) ?_
  refine wl_call rfl rfl (vs := [.slice Aa na ca, .slice Ab nb cb]) (by kernel_rfl) (by decide) (g_ref1_Cmp (hx.ext hw2).wi (Nat.le_trans la (by decide)) (hy.ext hw2).wi (Nat.le_trans lb (by decide))) ?_
  rintro _ v12 ⟨xr14, rfl, r14, e13⟩
  refine ret_intro ?_
  have hw3 : Ext w v12 := hw2.trans e13
  obtain rfl := r14
  refine wl_assign rfl rfl (by decide) ?_
  refine wl_nil ?_
  refine eo_then ?_
  refine cw_ret ?_
  refine eo_ret [.int .i64 (cmp3 (Int.natAbs x) (Int.natAbs y))] rfl ⟨rfl, trivial⟩ ?_
  exact ⟨_, rfl, rfl, hw3⟩

set_option maxHeartbeats 4000000 in
theorem g_ref5_Cmp {w : World} {sa : Bool} {Aa : Option Addr} {na ca : Nat} {x : Int} {sb : Bool} {Ab : Option Addr} {nb cb : Nat} {y : Int} (hx : Zi w sa Aa na ca x) (la : na ≤ 17179869183) (hy : Zi w sb Ab nb cb y) (lb : nb ≤ 17179869183)  :
    Calls Try.prog 49 #[.agg #[.bool sa, .slice Aa na ca], .agg #[.bool sb, .slice Ab nb cb]] w (Gv w (Is (.int .i64 (scmp x y)))) := by
  have Lx : ln x ≤ 17179869183 := Nat.le_trans hx.ln la
  have Ly : ln y ≤ 17179869183 := Nat.le_trans hy.ln lb
  refine sx_enter Try.func49 rfl (n := 22) rfl (Nat.le_of_ble_eq_true rfl) (args := [.agg #[.bool sa, .slice Aa na ca], .agg #[.bool sb, .slice Ab nb cb]]) ?_
  refine cw_keep [(0, .agg #[.bool sa, .slice Aa na ca]), (1, .agg #[.bool sb, .slice Ab nb cb])] ⟨rfl, rfl, trivial⟩ ?_
  refine cw_seq ?_
  -- region 0
  refine cw_region ?_
  refine wl_box rfl rfl (vs := [.bool sa, .slice Aa na ca]) rfl (by decide) fun g1 v2 nb => ?_
  have hb4 := nb.bk
  have ge5 : w.heap.size ≤ g1 := by rw [← nb.at_]; exact (Ext.refl w).size
  have e3 := nb.ext
  clear nb
  have hw1 : Ext w v2 := (Ext.refl w).trans e3
  refine wl_box rfl rfl (vs := [.bool sb, .slice Ab nb cb]) rfl (by decide) fun g6 v7 nb => ?_
  have hb9 := nb.bk
  have ge10 : w.heap.size ≤ g6 := by rw [← nb.at_]; exact hw1.size
  have q11 : g1 < g6 := by rw [← nb.at_]; exact hb4.lt
  have e8 := nb.ext
  clear nb
  have hw2 : Ext w v7 := hw1.trans e8
  refine wl_assign rfl rfl (by decide) ?_
  refine wl_nil ?_
  refine eo_then ?_
  refine cw_seq ?_
  -- region 1
  refine cw_region ?_
  refine wl_load rfl rfl (load_agg aggInt (hb4.ext e8) [.bool sa, .slice Aa na ca] rfl (Nat.le_of_ble_eq_true rfl) rfl) (by decide) ?_
  refine wl_call rfl rfl (vs := [.agg #[.bool sa, .slice Aa na ca]]) (by kernel_rfl) (by decide) (g_ref5_Sign (hx.ext hw2) (Nat.le_trans la (by decide))) ?_
  rintro _ v12 ⟨xr14, rfl, r14, e13⟩
  refine ret_intro ?_
  have hw3 : Ext w v12 := hw2.trans e13
  obtain rfl := r14
  refine wl_assign rfl rfl (by decide) ?_
  refine wl_nil ?_
  refine eo_then ?_
  refine cw_seq ?_
  -- region 2
  refine cw_region ?_
  refine wl_load rfl rfl (load_agg aggInt (hb9.ext e13) [.bool sb, .slice Ab nb cb] rfl (Nat.le_of_ble_eq_true rfl) rfl) (by decide) ?_
  refine wl_call rfl rfl (vs := [.agg #[.bool sb, .slice Ab nb cb]]) (by kernel_rfl) (by decide) (g_ref5_Sign (hy.ext hw3) (Nat.le_trans lb (by decide))) ?_
  rintro _ v15 ⟨xr17, rfl, r17, e16⟩
  refine ret_intro ?_
  have hw4 : Ext w v15 := hw3.trans e16
  obtain rfl := r17
  refine wl_assign rfl rfl (by decide) ?_
  refine wl_nil ?_
  refine eo_then ?_
  refine cw_seq ?_
  refine cw_seq ?_
  by_cases hs : scmp x 0 = scmp y 0
  ·
    -- region 3
    refine cw_region ?_
    refine wl_move rfl rfl (by decide) ?_
    refine wl_move rfl rfl (by decide) ?_
    refine wl_cmp rfl rfl rfl false (ne_f hs) (by decide) ?_
    refine wl_nil ?_
    refine eo_then ?_
    refine cw_false rfl ?_
    refine cw_skip ?_
    refine eo_then ?_
    refine cw_seq ?_
    -- region 7
    refine cw_region ?_
    refine wl_move rfl rfl (by decide) ?_
    refine wl_load rfl rfl (load_agg aggInt (hb4.ext (e8.trans (e13.trans e16))) [.bool sa, .slice Aa na ca] rfl (Nat.le_of_ble_eq_true rfl) rfl) (by decide) ?_
    refine wl_load rfl rfl (load_agg aggInt (hb9.ext (e13.trans e16)) [.bool sb, .slice Ab nb cb] rfl (Nat.le_of_ble_eq_true rfl) rfl) (by decide) ?_
    refine wl_call rfl rfl (vs := [.agg #[.bool sa, .slice Aa na ca], .agg #[.bool sb, .slice Ab nb cb]]) (by kernel_rfl) (by decide) (g_ref5_CmpAbs (hx.ext hw4) (Nat.le_trans la (by decide)) (hy.ext hw4) (Nat.le_trans lb (by decide))) ?_
    rintro _ v18 ⟨xr20, rfl, r20, e19⟩
    refine ret_intro ?_
    have hw5 : Ext w v18 := hw4.trans e19
    obtain rfl := r20
    refine wl_ar rfl rfl rfl (scmp x y) (ar_i64m (scmp_same hs) (scmp_i64 _ _).1 (scmp_i64 _ _).2) (by decide) ?_
    refine wl_assign rfl rfl (by decide) ?_
    refine wl_nil ?_
    refine eo_then ?_
    refine cw_ret ?_
    refine eo_ret [.int .i64 (scmp x y)] rfl ⟨rfl, trivial⟩ ?_
    exact ⟨_, rfl, rfl, hw5⟩
  ·
    by_cases hl : scmp x 0 < scmp y 0
    ·
      -- region 3
      refine cw_region ?_
      refine wl_move rfl rfl (by decide) ?_
      refine wl_move rfl rfl (by decide) ?_
      refine wl_cmp rfl rfl rfl true (ne_t hs) (by decide) ?_
      refine wl_nil ?_
      refine eo_then ?_
      refine cw_true rfl ?_
      refine cw_seq ?_
      refine cw_seq ?_
      -- region 4
      refine cw_region ?_
      refine wl_move rfl rfl (by decide) ?_
      refine wl_move rfl rfl (by decide) ?_
      refine wl_cmp rfl rfl rfl true (lt_t hl) (by decide) ?_
      refine wl_nil ?_
      refine eo_then ?_
      refine cw_true rfl ?_
      refine cw_seq ?_
      -- region 5
      refine cw_region ?_
      refine wl_assign rfl rfl (by decide) ?_
      refine wl_nil ?_
      refine eo_then ?_
      refine cw_ret ?_
      refine eo_thenR ?_
      refine eo_thenR ?_
      refine eo_ret [.int .i64 (-1)] rfl ⟨rfl, trivial⟩ ?_
      exact ⟨_, rfl, (show (.int .i64 (-1) : Value) = Value.int .i64 (scmp x y) by rw [scmp_diff_lt hl]), hw4⟩
    ·
      -- region 3
      refine cw_region ?_
      refine wl_move rfl rfl (by decide) ?_
      refine wl_move rfl rfl (by decide) ?_
      refine wl_cmp rfl rfl rfl true (ne_t hs) (by decide) ?_
      refine wl_nil ?_
      refine eo_then ?_
      refine cw_true rfl ?_
      refine cw_seq ?_
      refine cw_seq ?_
      -- region 4
      refine cw_region ?_
      refine wl_move rfl rfl (by decide) ?_
      refine wl_move rfl rfl (by decide) ?_
      refine wl_cmp rfl rfl rfl false (lt_f (by omega)) (by decide) ?_
      refine wl_nil ?_
      refine eo_then ?_
      refine cw_false rfl ?_
      refine cw_skip ?_
      refine eo_then ?_
      refine cw_seq ?_
      -- region 6
      refine cw_region ?_
      refine wl_assign rfl rfl (by decide) ?_
      refine wl_nil ?_
      refine eo_then ?_
      refine cw_ret ?_
      refine eo_thenR ?_
      refine eo_ret [.int .i64 1] rfl ⟨rfl, trivial⟩ ?_
      exact ⟨_, rfl, (show (.int .i64 1 : Value) = Value.int .i64 (scmp x y) by rw [scmp_diff_gt (by omega)]), hw4⟩

set_option maxHeartbeats 4000000 in
theorem g_ref5_AddI {w : World} {sa : Bool} {Aa : Option Addr} {na ca : Nat} {x : Int} {sb : Bool} {Ab : Option Addr} {nb cb : Nat} {y : Int} (hx : Zi w sa Aa na ca x) (la : na ≤ 17179869183) (hy : Zi w sb Ab nb cb y) (lb : nb ≤ 17179869183)  :
    Calls Try.prog 40 #[.agg #[.bool sa, .slice Aa na ca], .agg #[.bool sb, .slice Ab nb cb]] w (Gv w (ZR w.heap.size (x + y))) := by
  have Lx : ln x ≤ 17179869183 := Nat.le_trans hx.ln la
  have Ly : ln y ≤ 17179869183 := Nat.le_trans hy.ln lb
  refine sx_enter Try.func40 rfl (n := 54) rfl (Nat.le_of_ble_eq_true rfl) (args := [.agg #[.bool sa, .slice Aa na ca], .agg #[.bool sb, .slice Ab nb cb]]) ?_
  refine cw_keep [(0, .agg #[.bool sa, .slice Aa na ca]), (1, .agg #[.bool sb, .slice Ab nb cb])] ⟨rfl, rfl, trivial⟩ ?_
  refine cw_seq ?_
  -- region 0
  refine cw_region ?_
  refine wl_box rfl rfl (vs := [.bool sa, .slice Aa na ca]) rfl (by decide) fun g1 v2 nb => ?_
  have hb4 := nb.bk
  have ge5 : w.heap.size ≤ g1 := by rw [← nb.at_]; exact (Ext.refl w).size
  have e3 := nb.ext
  clear nb
  have hw1 : Ext w v2 := (Ext.refl w).trans e3
  refine wl_box rfl rfl (vs := [.bool sb, .slice Ab nb cb]) rfl (by decide) fun g6 v7 nb => ?_
  have hb9 := nb.bk
  have ge10 : w.heap.size ≤ g6 := by rw [← nb.at_]; exact hw1.size
  have q11 : g1 < g6 := by rw [← nb.at_]; exact hb4.lt
  have e8 := nb.ext
  clear nb
  have hw2 : Ext w v7 := hw1.trans e8
  refine wl_alloc rfl (z := .agg #[.bool false, .slice none 0 0]) (vs := [.bool false, .slice none 0 0]) (fun _ => by kernel_rfl) rfl (by decide) fun g12 v13 nb => ?_
  have hb15 := nb.bk
  have ge16 : w.heap.size ≤ g12 := by rw [← nb.at_]; exact hw2.size
  have q17 : g6 < g12 := by rw [← nb.at_]; exact hb9.lt
  have e14 := nb.ext
  clear nb
  have hw3 : Ext w v13 := hw2.trans e14
  refine wl_nil ?_
  refine eo_then ?_
  refine cw_seq ?_
  refine cw_seq ?_
  by_cases hsa : sa = true
  ·
    subst hsa
    by_cases hsb : sb = true
    ·
      subst hsb
      -- region 1
      refine cw_region ?_
      refine wl_pure rfl rfl (v := .pointer (some ⟨g1, 0, none⟩)) (by decide) (by kernel_rfl) ?_
      refine wl_load rfl rfl (load_cell cellBool (hb4.ext (e8.trans e14)) rfl) (by decide) ?_
      refine wl_pure rfl rfl (v := .pointer (some ⟨g6, 0, none⟩)) (by decide) (by kernel_rfl) ?_
      refine wl_load rfl rfl (load_cell cellBool (hb9.ext e14) rfl) (by decide) ?_
      refine wl_pure rfl rfl (v := .bool true) (by decide) (by kernel_rfl) ?_
      refine wl_nil ?_
      refine eo_then ?_
      refine cw_true rfl ?_
      refine cw_seq ?_
      -- region 2
      refine cw_region ?_
      refine wl_pure rfl rfl (v := .pointer (some ⟨g1, 1, none⟩)) (by decide) (by kernel_rfl) ?_
      refine wl_load rfl rfl (load_cell cellWords (hb4.ext (e8.trans e14)) rfl) (by decide) ?_
      refine wl_pure rfl rfl (v := .pointer (some ⟨g6, 1, none⟩)) (by decide) (by kernel_rfl) ?_
      refine wl_load rfl rfl (load_cell cellWords (hb9.ext e14) rfl) (by decide) ?_
      have L18 : (wd ((Int.natAbs x) + (Int.natAbs y))).length ≤ 17179869184 := Nat.le_trans (len_wd_add _ _) (Nat.succ_le_succ (Nat.max_le.2 ⟨Nat.le_trans Lx (by decide), Nat.le_trans Ly (by decide)⟩))
      refine wl_call rfl rfl (vs := [.slice Aa na ca, .slice Ab nb cb]) (by kernel_rfl) (by decide) (g_ref1_Add hw3.size (hx.ext hw3).wi (Nat.le_trans la (by decide)) (hy.ext hw3).wi (Nat.le_trans lb (by decide))) ?_
      rintro _ v19 ⟨xr21, rfl, r21, e20⟩
      refine ret_intro ?_
      have hw4 : Ext w v19 := hw3.trans e20
      obtain ⟨A22, n22, c22, rfl, j22, o22⟩ := r21
      refine wl_assign rfl rfl (by decide) ?_
      refine wl_nil ?_
      refine eo_then ?_
      refine cw_seq ?_
      -- region 3
      refine cw_region ?_
      refine wl_pure rfl rfl (v := .pointer (some ⟨g1, 0, none⟩)) (by decide) (by kernel_rfl) ?_
      refine wl_load rfl rfl (load_cell cellBool (hb4.ext (e8.trans (e14.trans e20))) rfl) (by decide) ?_
      refine wl_move rfl rfl (by decide) ?_
      have L23 : ln (sg true ((Int.natAbs x) + (Int.natAbs y))) ≤ 17179869184 := by rw [ln_sg]; exact L18
      refine wl_call rfl rfl (vs := [.bool true, .slice A22 n22 c22]) (by kernel_rfl) (by decide) (g_ref5_made hw4.size o22.wi (by rw [j22]; exact Nat.le_trans L18 (by decide))) ?_
      rintro _ v24 ⟨xr26, rfl, r26, e25⟩
      refine ret_intro ?_
      have hw5 : Ext w v24 := hw4.trans e25
      obtain ⟨s27, A27, n27, c27, rfl, z27⟩ := r26
      have hb29 := (hb15.ext (e20.trans e25))
      refine wl_stored rfl rfl rfl aggInt rfl hb29 (Nat.le_of_ble_eq_true rfl) rfl [.bool s27, .slice A27 n27 c27] rfl fun v28 hb30 u31 hs32 => ?_
      have hw6 : Ext w v28 := u31.ext hw5 ge16
      refine wl_nil ?_
      refine eo_then ?_
      refine cw_ret ?_
      refine eo_thenR ?_
      refine eo_ret [.agg #[.bool s27, .slice A27 n27 c27]] rfl ⟨⟨_, rfl, load_agg aggInt hb30 [.bool s27, .slice A27 n27 c27] rfl (Nat.le_of_ble_eq_true rfl) rfl⟩, trivial⟩ ?_
      exact ⟨_, rfl, ⟨_, _, _, _, rfl, ((z27.updT hb29 u31)).cast (by rw [sg_add, hx.sg, hy.sg])⟩, hw6⟩
    ·
      replace hsb : sb = false := by simpa using hsb
      subst hsb
      -- region 1
      refine cw_region ?_
      refine wl_pure rfl rfl (v := .pointer (some ⟨g1, 0, none⟩)) (by decide) (by kernel_rfl) ?_
      refine wl_load rfl rfl (load_cell cellBool (hb4.ext (e8.trans e14)) rfl) (by decide) ?_
      refine wl_pure rfl rfl (v := .pointer (some ⟨g6, 0, none⟩)) (by decide) (by kernel_rfl) ?_
      refine wl_load rfl rfl (load_cell cellBool (hb9.ext e14) rfl) (by decide) ?_
      refine wl_pure rfl rfl (v := .bool false) (by decide) (by kernel_rfl) ?_
      refine wl_nil ?_
      refine eo_then ?_
      refine cw_false rfl ?_
      refine cw_skip ?_
      refine eo_then ?_
      refine cw_seq ?_
      refine cw_seq ?_
      by_cases hxy : Int.natAbs y ≤ Int.natAbs x
      ·
        -- region 4
        refine cw_region ?_
        refine wl_pure rfl rfl (v := .pointer (some ⟨g1, 1, none⟩)) (by decide) (by kernel_rfl) ?_
        refine wl_load rfl rfl (load_cell cellWords (hb4.ext (e8.trans e14)) rfl) (by decide) ?_
        refine wl_pure rfl rfl (v := .pointer (some ⟨g6, 1, none⟩)) (by decide) (by kernel_rfl) ?_
        refine wl_load rfl rfl (load_cell cellWords (hb9.ext e14) rfl) (by decide) ?_
        refine wl_call rfl rfl (vs := [.slice Aa na ca, .slice Ab nb cb]) (by kernel_rfl) (by decide) (g_ref1_Cmp (hx.ext hw3).wi (Nat.le_trans la (by decide)) (hy.ext hw3).wi (Nat.le_trans lb (by decide))) ?_
        rintro _ v33 ⟨xr35, rfl, r35, e34⟩
        refine ret_intro ?_
        have hw4 : Ext w v33 := hw3.trans e34
        obtain rfl := r35
        refine wl_cmp rfl rfl rfl true (cmp3_ge_t hxy) (by decide) ?_
        refine wl_nil ?_
        refine eo_then ?_
        refine cw_true rfl ?_
        refine cw_seq ?_
        -- region 5
        refine cw_region ?_
        refine wl_pure rfl rfl (v := .pointer (some ⟨g1, 1, none⟩)) (by decide) (by kernel_rfl) ?_
        refine wl_load rfl rfl (load_cell cellWords (hb4.ext (e8.trans (e14.trans e34))) rfl) (by decide) ?_
        refine wl_pure rfl rfl (v := .pointer (some ⟨g6, 1, none⟩)) (by decide) (by kernel_rfl) ?_
        refine wl_load rfl rfl (load_cell cellWords (hb9.ext (e14.trans e34)) rfl) (by decide) ?_
        have L36 : (wd ((Int.natAbs x) - (Int.natAbs y))).length ≤ 17179869183 := Nat.le_trans (len_wd_mono (Nat.sub_le _ _)) Lx
        refine wl_call rfl rfl (vs := [.slice Aa na ca, .slice Ab nb cb]) (by kernel_rfl) (by decide) (g_ref1_Sub hw4.size (hx.ext hw4).wi (Nat.le_trans la (by decide)) (hy.ext hw4).wi (Nat.le_trans lb (by decide)) hxy) ?_
        rintro _ v37 ⟨xr39, rfl, r39, e38⟩
        refine ret_intro ?_
        have hw5 : Ext w v37 := hw4.trans e38
        obtain ⟨a40_0, a40_1, rfl, r40_0, r40_1⟩ := r39
        obtain ⟨A41, n41, c41, rfl, j41, o41⟩ := r40_0
        obtain rfl := r40_1
        refine wl_move rfl rfl (by decide) ?_
        refine wl_pure rfl rfl (v := .slice A41 n41 c41) (by decide) (by kernel_rfl) ?_
        refine wl_pure rfl rfl (v := .int .i64 0) (by decide) (by kernel_rfl) ?_
        refine wl_assign rfl rfl (by decide) ?_
        refine wl_assign rfl rfl (by decide) ?_
        refine wl_nil ?_
        refine eo_then ?_
        refine cw_seq ?_
        -- region 6
        refine cw_region ?_
        refine wl_pure rfl rfl (v := .pointer (some ⟨g1, 0, none⟩)) (by decide) (by kernel_rfl) ?_
        refine wl_load rfl rfl (load_cell cellBool (hb4.ext (e8.trans (e14.trans (e34.trans e38)))) rfl) (by decide) ?_
        refine wl_move rfl rfl (by decide) ?_
        have L42 : ln (sg true ((Int.natAbs x) - (Int.natAbs y))) ≤ 17179869183 := by rw [ln_sg]; exact L36
        refine wl_call rfl rfl (vs := [.bool true, .slice A41 n41 c41]) (by kernel_rfl) (by decide) (g_ref5_made hw5.size o41.wi (by rw [j41]; exact Nat.le_trans L36 (by decide))) ?_
        rintro _ v43 ⟨xr45, rfl, r45, e44⟩
        refine ret_intro ?_
        have hw6 : Ext w v43 := hw5.trans e44
        obtain ⟨s46, A46, n46, c46, rfl, z46⟩ := r45
        have hb48 := (hb15.ext (e34.trans (e38.trans e44)))
        refine wl_stored rfl rfl rfl aggInt rfl hb48 (Nat.le_of_ble_eq_true rfl) rfl [.bool s46, .slice A46 n46 c46] rfl fun v47 hb49 u50 hs51 => ?_
        have hw7 : Ext w v47 := u50.ext hw6 ge16
        refine wl_nil ?_
        refine eo_then ?_
        refine cw_ret ?_
        refine eo_thenR ?_
        refine eo_ret [.agg #[.bool s46, .slice A46 n46 c46]] rfl ⟨⟨_, rfl, load_agg aggInt hb49 [.bool s46, .slice A46 n46 c46] rfl (Nat.le_of_ble_eq_true rfl) rfl⟩, trivial⟩ ?_
        exact ⟨_, rfl, ⟨_, _, _, _, rfl, ((z46.updT hb48 u50)).cast (by rw [sg_sub hxy]; show sg true _ + sg false _ = _; rw [hx.sg, hy.sg])⟩, hw7⟩
      ·
        -- region 4
        refine cw_region ?_
        refine wl_pure rfl rfl (v := .pointer (some ⟨g1, 1, none⟩)) (by decide) (by kernel_rfl) ?_
        refine wl_load rfl rfl (load_cell cellWords (hb4.ext (e8.trans e14)) rfl) (by decide) ?_
        refine wl_pure rfl rfl (v := .pointer (some ⟨g6, 1, none⟩)) (by decide) (by kernel_rfl) ?_
        refine wl_load rfl rfl (load_cell cellWords (hb9.ext e14) rfl) (by decide) ?_
        refine wl_call rfl rfl (vs := [.slice Aa na ca, .slice Ab nb cb]) (by kernel_rfl) (by decide) (g_ref1_Cmp (hx.ext hw3).wi (Nat.le_trans la (by decide)) (hy.ext hw3).wi (Nat.le_trans lb (by decide))) ?_
        rintro _ v52 ⟨xr54, rfl, r54, e53⟩
        refine ret_intro ?_
        have hw4 : Ext w v52 := hw3.trans e53
        obtain rfl := r54
        refine wl_cmp rfl rfl rfl false (cmp3_ge_f hxy) (by decide) ?_
        refine wl_nil ?_
        refine eo_then ?_
        refine cw_false rfl ?_
        refine cw_skip ?_
        refine eo_then ?_
        refine cw_seq ?_
        -- region 7
        refine cw_region ?_
        refine wl_pure rfl rfl (v := .pointer (some ⟨g6, 1, none⟩)) (by decide) (by kernel_rfl) ?_
        refine wl_load rfl rfl (load_cell cellWords (hb9.ext (e14.trans e53)) rfl) (by decide) ?_
        refine wl_pure rfl rfl (v := .pointer (some ⟨g1, 1, none⟩)) (by decide) (by kernel_rfl) ?_
        refine wl_load rfl rfl (load_cell cellWords (hb4.ext (e8.trans (e14.trans e53))) rfl) (by decide) ?_
        have L55 : (wd ((Int.natAbs y) - (Int.natAbs x))).length ≤ 17179869183 := Nat.le_trans (len_wd_mono (Nat.sub_le _ _)) Ly
        refine wl_call rfl rfl (vs := [.slice Ab nb cb, .slice Aa na ca]) (by kernel_rfl) (by decide) (g_ref1_Sub hw4.size (hy.ext hw4).wi (Nat.le_trans lb (by decide)) (hx.ext hw4).wi (Nat.le_trans la (by decide)) (by omega)) ?_
        rintro _ v56 ⟨xr58, rfl, r58, e57⟩
        refine ret_intro ?_
        have hw5 : Ext w v56 := hw4.trans e57
        obtain ⟨a59_0, a59_1, rfl, r59_0, r59_1⟩ := r58
        obtain ⟨A60, n60, c60, rfl, j60, o60⟩ := r59_0
        obtain rfl := r59_1
        refine wl_move rfl rfl (by decide) ?_
        refine wl_pure rfl rfl (v := .slice A60 n60 c60) (by decide) (by kernel_rfl) ?_
        refine wl_pure rfl rfl (v := .int .i64 0) (by decide) (by kernel_rfl) ?_
        refine wl_assign rfl rfl (by decide) ?_
        refine wl_assign rfl rfl (by decide) ?_
        refine wl_nil ?_
        refine eo_then ?_
        refine cw_seq ?_
        -- region 8
        refine cw_region ?_
        refine wl_pure rfl rfl (v := .pointer (some ⟨g6, 0, none⟩)) (by decide) (by kernel_rfl) ?_
        refine wl_load rfl rfl (load_cell cellBool (hb9.ext (e14.trans (e53.trans e57))) rfl) (by decide) ?_
        refine wl_move rfl rfl (by decide) ?_
        have L61 : ln (sg false ((Int.natAbs y) - (Int.natAbs x))) ≤ 17179869183 := by rw [ln_sg]; exact L55
        refine wl_call rfl rfl (vs := [.bool false, .slice A60 n60 c60]) (by kernel_rfl) (by decide) (g_ref5_made hw5.size o60.wi (by rw [j60]; exact Nat.le_trans L55 (by decide))) ?_
        rintro _ v62 ⟨xr64, rfl, r64, e63⟩
        refine ret_intro ?_
        have hw6 : Ext w v62 := hw5.trans e63
        obtain ⟨s65, A65, n65, c65, rfl, z65⟩ := r64
        have hb67 := (hb15.ext (e53.trans (e57.trans e63)))
        refine wl_stored rfl rfl rfl aggInt rfl hb67 (Nat.le_of_ble_eq_true rfl) rfl [.bool s65, .slice A65 n65 c65] rfl fun v66 hb68 u69 hs70 => ?_
        have hw7 : Ext w v66 := u69.ext hw6 ge16
        refine wl_nil ?_
        refine eo_then ?_
        refine cw_ret ?_
        refine eo_ret [.agg #[.bool s65, .slice A65 n65 c65]] rfl ⟨⟨_, rfl, load_agg aggInt hb68 [.bool s65, .slice A65 n65 c65] rfl (Nat.le_of_ble_eq_true rfl) rfl⟩, trivial⟩ ?_
        exact ⟨_, rfl, ⟨_, _, _, _, rfl, ((z65.updT hb67 u69)).cast (by rw [sg_sub (by omega)]; show sg false _ + sg true _ = _; rw [hx.sg, hy.sg, Int.add_comm])⟩, hw7⟩
  ·
    replace hsa : sa = false := by simpa using hsa
    subst hsa
    by_cases hsb : sb = true
    ·
      subst hsb
      -- region 1
      refine cw_region ?_
      refine wl_pure rfl rfl (v := .pointer (some ⟨g1, 0, none⟩)) (by decide) (by kernel_rfl) ?_
      refine wl_load rfl rfl (load_cell cellBool (hb4.ext (e8.trans e14)) rfl) (by decide) ?_
      refine wl_pure rfl rfl (v := .pointer (some ⟨g6, 0, none⟩)) (by decide) (by kernel_rfl) ?_
      refine wl_load rfl rfl (load_cell cellBool (hb9.ext e14) rfl) (by decide) ?_
      refine wl_pure rfl rfl (v := .bool false) (by decide) (by kernel_rfl) ?_
      refine wl_nil ?_
      refine eo_then ?_
      refine cw_false rfl ?_
      refine cw_skip ?_
      refine eo_then ?_
      refine cw_seq ?_
      refine cw_seq ?_
      by_cases hxy : Int.natAbs y ≤ Int.natAbs x
      ·
        -- region 4
        refine cw_region ?_
        refine wl_pure rfl rfl (v := .pointer (some ⟨g1, 1, none⟩)) (by decide) (by kernel_rfl) ?_
        refine wl_load rfl rfl (load_cell cellWords (hb4.ext (e8.trans e14)) rfl) (by decide) ?_
        refine wl_pure rfl rfl (v := .pointer (some ⟨g6, 1, none⟩)) (by decide) (by kernel_rfl) ?_
        refine wl_load rfl rfl (load_cell cellWords (hb9.ext e14) rfl) (by decide) ?_
        refine wl_call rfl rfl (vs := [.slice Aa na ca, .slice Ab nb cb]) (by kernel_rfl) (by decide) (g_ref1_Cmp (hx.ext hw3).wi (Nat.le_trans la (by decide)) (hy.ext hw3).wi (Nat.le_trans lb (by decide))) ?_
        rintro _ v71 ⟨xr73, rfl, r73, e72⟩
        refine ret_intro ?_
        have hw4 : Ext w v71 := hw3.trans e72
        obtain rfl := r73
        refine wl_cmp rfl rfl rfl true (cmp3_ge_t hxy) (by decide) ?_
        refine wl_nil ?_
        refine eo_then ?_
        refine cw_true rfl ?_
        refine cw_seq ?_
        -- region 5
        refine cw_region ?_
        refine wl_pure rfl rfl (v := .pointer (some ⟨g1, 1, none⟩)) (by decide) (by kernel_rfl) ?_
        refine wl_load rfl rfl (load_cell cellWords (hb4.ext (e8.trans (e14.trans e72))) rfl) (by decide) ?_
        refine wl_pure rfl rfl (v := .pointer (some ⟨g6, 1, none⟩)) (by decide) (by kernel_rfl) ?_
        refine wl_load rfl rfl (load_cell cellWords (hb9.ext (e14.trans e72)) rfl) (by decide) ?_
        have L74 : (wd ((Int.natAbs x) - (Int.natAbs y))).length ≤ 17179869183 := Nat.le_trans (len_wd_mono (Nat.sub_le _ _)) Lx
        refine wl_call rfl rfl (vs := [.slice Aa na ca, .slice Ab nb cb]) (by kernel_rfl) (by decide) (g_ref1_Sub hw4.size (hx.ext hw4).wi (Nat.le_trans la (by decide)) (hy.ext hw4).wi (Nat.le_trans lb (by decide)) hxy) ?_
        rintro _ v75 ⟨xr77, rfl, r77, e76⟩
        refine ret_intro ?_
        have hw5 : Ext w v75 := hw4.trans e76
        obtain ⟨a78_0, a78_1, rfl, r78_0, r78_1⟩ := r77
        obtain ⟨A79, n79, c79, rfl, j79, o79⟩ := r78_0
        obtain rfl := r78_1
        refine wl_move rfl rfl (by decide) ?_
        refine wl_pure rfl rfl (v := .slice A79 n79 c79) (by decide) (by kernel_rfl) ?_
        refine wl_pure rfl rfl (v := .int .i64 0) (by decide) (by kernel_rfl) ?_
        refine wl_assign rfl rfl (by decide) ?_
        refine wl_assign rfl rfl (by decide) ?_
        refine wl_nil ?_
        refine eo_then ?_
        refine cw_seq ?_
        -- region 6
        refine cw_region ?_
        refine wl_pure rfl rfl (v := .pointer (some ⟨g1, 0, none⟩)) (by decide) (by kernel_rfl) ?_
        refine wl_load rfl rfl (load_cell cellBool (hb4.ext (e8.trans (e14.trans (e72.trans e76)))) rfl) (by decide) ?_
        refine wl_move rfl rfl (by decide) ?_
        have L80 : ln (sg false ((Int.natAbs x) - (Int.natAbs y))) ≤ 17179869183 := by rw [ln_sg]; exact L74
        refine wl_call rfl rfl (vs := [.bool false, .slice A79 n79 c79]) (by kernel_rfl) (by decide) (g_ref5_made hw5.size o79.wi (by rw [j79]; exact Nat.le_trans L74 (by decide))) ?_
        rintro _ v81 ⟨xr83, rfl, r83, e82⟩
        refine ret_intro ?_
        have hw6 : Ext w v81 := hw5.trans e82
        obtain ⟨s84, A84, n84, c84, rfl, z84⟩ := r83
        have hb86 := (hb15.ext (e72.trans (e76.trans e82)))
        refine wl_stored rfl rfl rfl aggInt rfl hb86 (Nat.le_of_ble_eq_true rfl) rfl [.bool s84, .slice A84 n84 c84] rfl fun v85 hb87 u88 hs89 => ?_
        have hw7 : Ext w v85 := u88.ext hw6 ge16
        refine wl_nil ?_
        refine eo_then ?_
        refine cw_ret ?_
        refine eo_thenR ?_
        refine eo_ret [.agg #[.bool s84, .slice A84 n84 c84]] rfl ⟨⟨_, rfl, load_agg aggInt hb87 [.bool s84, .slice A84 n84 c84] rfl (Nat.le_of_ble_eq_true rfl) rfl⟩, trivial⟩ ?_
        exact ⟨_, rfl, ⟨_, _, _, _, rfl, ((z84.updT hb86 u88)).cast (by rw [sg_sub hxy]; show sg false _ + sg true _ = _; rw [hx.sg, hy.sg])⟩, hw7⟩
      ·
        -- region 4
        refine cw_region ?_
        refine wl_pure rfl rfl (v := .pointer (some ⟨g1, 1, none⟩)) (by decide) (by kernel_rfl) ?_
        refine wl_load rfl rfl (load_cell cellWords (hb4.ext (e8.trans e14)) rfl) (by decide) ?_
        refine wl_pure rfl rfl (v := .pointer (some ⟨g6, 1, none⟩)) (by decide) (by kernel_rfl) ?_
        refine wl_load rfl rfl (load_cell cellWords (hb9.ext e14) rfl) (by decide) ?_
        refine wl_call rfl rfl (vs := [.slice Aa na ca, .slice Ab nb cb]) (by kernel_rfl) (by decide) (g_ref1_Cmp (hx.ext hw3).wi (Nat.le_trans la (by decide)) (hy.ext hw3).wi (Nat.le_trans lb (by decide))) ?_
        rintro _ v90 ⟨xr92, rfl, r92, e91⟩
        refine ret_intro ?_
        have hw4 : Ext w v90 := hw3.trans e91
        obtain rfl := r92
        refine wl_cmp rfl rfl rfl false (cmp3_ge_f hxy) (by decide) ?_
        refine wl_nil ?_
        refine eo_then ?_
        refine cw_false rfl ?_
        refine cw_skip ?_
        refine eo_then ?_
        refine cw_seq ?_
        -- region 7
        refine cw_region ?_
        refine wl_pure rfl rfl (v := .pointer (some ⟨g6, 1, none⟩)) (by decide) (by kernel_rfl) ?_
        refine wl_load rfl rfl (load_cell cellWords (hb9.ext (e14.trans e91)) rfl) (by decide) ?_
        refine wl_pure rfl rfl (v := .pointer (some ⟨g1, 1, none⟩)) (by decide) (by kernel_rfl) ?_
        refine wl_load rfl rfl (load_cell cellWords (hb4.ext (e8.trans (e14.trans e91))) rfl) (by decide) ?_
        have L93 : (wd ((Int.natAbs y) - (Int.natAbs x))).length ≤ 17179869183 := Nat.le_trans (len_wd_mono (Nat.sub_le _ _)) Ly
        refine wl_call rfl rfl (vs := [.slice Ab nb cb, .slice Aa na ca]) (by kernel_rfl) (by decide) (g_ref1_Sub hw4.size (hy.ext hw4).wi (Nat.le_trans lb (by decide)) (hx.ext hw4).wi (Nat.le_trans la (by decide)) (by omega)) ?_
        rintro _ v94 ⟨xr96, rfl, r96, e95⟩
        refine ret_intro ?_
        have hw5 : Ext w v94 := hw4.trans e95
        obtain ⟨a97_0, a97_1, rfl, r97_0, r97_1⟩ := r96
        obtain ⟨A98, n98, c98, rfl, j98, o98⟩ := r97_0
        obtain rfl := r97_1
        refine wl_move rfl rfl (by decide) ?_
        refine wl_pure rfl rfl (v := .slice A98 n98 c98) (by decide) (by kernel_rfl) ?_
        refine wl_pure rfl rfl (v := .int .i64 0) (by decide) (by kernel_rfl) ?_
        refine wl_assign rfl rfl (by decide) ?_
        refine wl_assign rfl rfl (by decide) ?_
        refine wl_nil ?_
        refine eo_then ?_
        refine cw_seq ?_
        -- region 8
        refine cw_region ?_
        refine wl_pure rfl rfl (v := .pointer (some ⟨g6, 0, none⟩)) (by decide) (by kernel_rfl) ?_
        refine wl_load rfl rfl (load_cell cellBool (hb9.ext (e14.trans (e91.trans e95))) rfl) (by decide) ?_
        refine wl_move rfl rfl (by decide) ?_
        have L99 : ln (sg true ((Int.natAbs y) - (Int.natAbs x))) ≤ 17179869183 := by rw [ln_sg]; exact L93
        refine wl_call rfl rfl (vs := [.bool true, .slice A98 n98 c98]) (by kernel_rfl) (by decide) (g_ref5_made hw5.size o98.wi (by rw [j98]; exact Nat.le_trans L93 (by decide))) ?_
        rintro _ v100 ⟨xr102, rfl, r102, e101⟩
        refine ret_intro ?_
        have hw6 : Ext w v100 := hw5.trans e101
        obtain ⟨s103, A103, n103, c103, rfl, z103⟩ := r102
        have hb105 := (hb15.ext (e91.trans (e95.trans e101)))
        refine wl_stored rfl rfl rfl aggInt rfl hb105 (Nat.le_of_ble_eq_true rfl) rfl [.bool s103, .slice A103 n103 c103] rfl fun v104 hb106 u107 hs108 => ?_
        have hw7 : Ext w v104 := u107.ext hw6 ge16
        refine wl_nil ?_
        refine eo_then ?_
        refine cw_ret ?_
        refine eo_ret [.agg #[.bool s103, .slice A103 n103 c103]] rfl ⟨⟨_, rfl, load_agg aggInt hb106 [.bool s103, .slice A103 n103 c103] rfl (Nat.le_of_ble_eq_true rfl) rfl⟩, trivial⟩ ?_
        exact ⟨_, rfl, ⟨_, _, _, _, rfl, ((z103.updT hb105 u107)).cast (by rw [sg_sub (by omega)]; show sg true _ + sg false _ = _; rw [hx.sg, hy.sg, Int.add_comm])⟩, hw7⟩
    ·
      replace hsb : sb = false := by simpa using hsb
      subst hsb
      -- region 1
      refine cw_region ?_
      refine wl_pure rfl rfl (v := .pointer (some ⟨g1, 0, none⟩)) (by decide) (by kernel_rfl) ?_
      refine wl_load rfl rfl (load_cell cellBool (hb4.ext (e8.trans e14)) rfl) (by decide) ?_
      refine wl_pure rfl rfl (v := .pointer (some ⟨g6, 0, none⟩)) (by decide) (by kernel_rfl) ?_
      refine wl_load rfl rfl (load_cell cellBool (hb9.ext e14) rfl) (by decide) ?_
      refine wl_pure rfl rfl (v := .bool true) (by decide) (by kernel_rfl) ?_
      refine wl_nil ?_
      refine eo_then ?_
      refine cw_true rfl ?_
      refine cw_seq ?_
      -- region 2
      refine cw_region ?_
      refine wl_pure rfl rfl (v := .pointer (some ⟨g1, 1, none⟩)) (by decide) (by kernel_rfl) ?_
      refine wl_load rfl rfl (load_cell cellWords (hb4.ext (e8.trans e14)) rfl) (by decide) ?_
      refine wl_pure rfl rfl (v := .pointer (some ⟨g6, 1, none⟩)) (by decide) (by kernel_rfl) ?_
      refine wl_load rfl rfl (load_cell cellWords (hb9.ext e14) rfl) (by decide) ?_
      have L109 : (wd ((Int.natAbs x) + (Int.natAbs y))).length ≤ 17179869184 := Nat.le_trans (len_wd_add _ _) (Nat.succ_le_succ (Nat.max_le.2 ⟨Nat.le_trans Lx (by decide), Nat.le_trans Ly (by decide)⟩))
      refine wl_call rfl rfl (vs := [.slice Aa na ca, .slice Ab nb cb]) (by kernel_rfl) (by decide) (g_ref1_Add hw3.size (hx.ext hw3).wi (Nat.le_trans la (by decide)) (hy.ext hw3).wi (Nat.le_trans lb (by decide))) ?_
      rintro _ v110 ⟨xr112, rfl, r112, e111⟩
      refine ret_intro ?_
      have hw4 : Ext w v110 := hw3.trans e111
      obtain ⟨A113, n113, c113, rfl, j113, o113⟩ := r112
      refine wl_assign rfl rfl (by decide) ?_
      refine wl_nil ?_
      refine eo_then ?_
      refine cw_seq ?_
      -- region 3
      refine cw_region ?_
      refine wl_pure rfl rfl (v := .pointer (some ⟨g1, 0, none⟩)) (by decide) (by kernel_rfl) ?_
      refine wl_load rfl rfl (load_cell cellBool (hb4.ext (e8.trans (e14.trans e111))) rfl) (by decide) ?_
      refine wl_move rfl rfl (by decide) ?_
      have L114 : ln (sg false ((Int.natAbs x) + (Int.natAbs y))) ≤ 17179869184 := by rw [ln_sg]; exact L109
      refine wl_call rfl rfl (vs := [.bool false, .slice A113 n113 c113]) (by kernel_rfl) (by decide) (g_ref5_made hw4.size o113.wi (by rw [j113]; exact Nat.le_trans L109 (by decide))) ?_
      rintro _ v115 ⟨xr117, rfl, r117, e116⟩
      refine ret_intro ?_
      have hw5 : Ext w v115 := hw4.trans e116
      obtain ⟨s118, A118, n118, c118, rfl, z118⟩ := r117
      have hb120 := (hb15.ext (e111.trans e116))
      refine wl_stored rfl rfl rfl aggInt rfl hb120 (Nat.le_of_ble_eq_true rfl) rfl [.bool s118, .slice A118 n118 c118] rfl fun v119 hb121 u122 hs123 => ?_
      have hw6 : Ext w v119 := u122.ext hw5 ge16
      refine wl_nil ?_
      refine eo_then ?_
      refine cw_ret ?_
      refine eo_thenR ?_
      refine eo_ret [.agg #[.bool s118, .slice A118 n118 c118]] rfl ⟨⟨_, rfl, load_agg aggInt hb121 [.bool s118, .slice A118 n118 c118] rfl (Nat.le_of_ble_eq_true rfl) rfl⟩, trivial⟩ ?_
      exact ⟨_, rfl, ⟨_, _, _, _, rfl, ((z118.updT hb120 u122)).cast (by rw [sg_add, hx.sg, hy.sg])⟩, hw6⟩
theorem g_ref5_Add {w : World} {sa : Bool} {Aa : Option Addr} {na ca : Nat} {x : Int} {sb : Bool} {Ab : Option Addr} {nb cb : Nat} {y : Int} {b : Nat} (hb : b ≤ w.heap.size)  (hx : Zi w sa Aa na ca x) (la : na ≤ 17179869183) (hy : Zi w sb Ab nb cb y) (lb : nb ≤ 17179869183)  :
    Calls Try.prog 40 #[.agg #[.bool sa, .slice Aa na ca], .agg #[.bool sb, .slice Ab nb cb]] w (Gv w (ZR b (x + y))) := (g_ref5_AddI hx la hy lb).mono (Gv.imp (ZR.imp hb))

set_option maxHeartbeats 4000000 in
theorem g_ref5_SubI {w : World} {sa : Bool} {Aa : Option Addr} {na ca : Nat} {x : Int} {sb : Bool} {Ab : Option Addr} {nb cb : Nat} {y : Int} (hx : Zi w sa Aa na ca x) (la : na ≤ 17179869183) (hy : Zi w sb Ab nb cb y) (lb : nb ≤ 17179869183)  :
    Calls Try.prog 34 #[.agg #[.bool sa, .slice Aa na ca], .agg #[.bool sb, .slice Ab nb cb]] w (Gv w (ZR w.heap.size (x - y))) := by
  have Lx : ln x ≤ 17179869183 := Nat.le_trans hx.ln la
  have Ly : ln y ≤ 17179869183 := Nat.le_trans hy.ln lb
  refine sx_enter Try.func34 rfl (n := 13) rfl (Nat.le_of_ble_eq_true rfl) (args := [.agg #[.bool sa, .slice Aa na ca], .agg #[.bool sb, .slice Ab nb cb]]) ?_
  refine cw_keep [(0, .agg #[.bool sa, .slice Aa na ca]), (1, .agg #[.bool sb, .slice Ab nb cb])] ⟨rfl, rfl, trivial⟩ ?_
  refine cw_seq ?_
  -- region 0
  refine cw_region ?_
  refine wl_box rfl rfl (vs := [.bool sa, .slice Aa na ca]) rfl (by decide) fun g1 v2 nb => ?_
  have hb4 := nb.bk
  have ge5 : w.heap.size ≤ g1 := by rw [← nb.at_]; exact (Ext.refl w).size
  have e3 := nb.ext
  clear nb
  have hw1 : Ext w v2 := (Ext.refl w).trans e3
  refine wl_box rfl rfl (vs := [.bool sb, .slice Ab nb cb]) rfl (by decide) fun g6 v7 nb => ?_
  have hb9 := nb.bk
  have ge10 : w.heap.size ≤ g6 := by rw [← nb.at_]; exact hw1.size
  have q11 : g1 < g6 := by rw [← nb.at_]; exact hb4.lt
  have e8 := nb.ext
  clear nb
  have hw2 : Ext w v7 := hw1.trans e8
  refine wl_alloc rfl (z := .agg #[.bool false, .slice none 0 0]) (vs := [.bool false, .slice none 0 0]) (fun _ => by kernel_rfl) rfl (by decide) fun g12 v13 nb => ?_
  have hb15 := nb.bk
  have ge16 : w.heap.size ≤ g12 := by rw [← nb.at_]; exact hw2.size
  have q17 : g6 < g12 := by rw [← nb.at_]; exact hb9.lt
  have e14 := nb.ext
  clear nb
  have hw3 : Ext w v13 := hw2.trans e14
  refine wl_nil ?_
  refine eo_then ?_
  refine cw_seq ?_
  -- region 1
  refine cw_region ?_
  refine wl_load rfl rfl (load_agg aggInt (hb4.ext (e8.trans e14)) [.bool sa, .slice Aa na ca] rfl (Nat.le_of_ble_eq_true rfl) rfl) (by decide) ?_
  refine wl_pure rfl rfl (v := .pointer (some ⟨g6, 0, none⟩)) (by decide) (by kernel_rfl) ?_
  refine wl_load rfl rfl (load_cell cellBool (hb9.ext e14) rfl) (by decide) ?_
  refine wl_pure rfl rfl (v := .bool (!sb)) (by decide) (by kernel_rfl) ?_
  refine wl_pure rfl rfl (v := .pointer (some ⟨g6, 1, none⟩)) (by decide) (by kernel_rfl) ?_
  refine wl_load rfl rfl (load_cell cellWords (hb9.ext e14) rfl) (by decide) ?_
  refine wl_pure rfl rfl (v := .agg #[.bool (!sb), .slice Ab nb cb]) (by decide) (by kernel_rfl) ?_
  have L18 : ln (x + (-y)) ≤ 17179869184 := Nat.le_trans (ln_add Lx (show ln (-y) ≤ 17179869183 by rw [ln_neg]; exact Ly)) (by decide)
  refine wl_call rfl rfl (vs := [.agg #[.bool sa, .slice Aa na ca], .agg #[.bool (!sb), .slice Ab nb cb]]) (by kernel_rfl) (by decide) (g_ref5_Add hw3.size (hx.ext hw3) (Nat.le_trans la (by decide)) (hy.ext hw3).not (Nat.le_trans lb (by decide))) ?_
  rintro _ v19 ⟨xr21, rfl, r21, e20⟩
  refine ret_intro ?_
  have hw4 : Ext w v19 := hw3.trans e20
  obtain ⟨s22, A22, n22, c22, rfl, z22⟩ := r21
  have hb24 := (hb15.ext e20)
  refine wl_stored rfl rfl rfl aggInt rfl hb24 (Nat.le_of_ble_eq_true rfl) rfl [.bool s22, .slice A22 n22 c22] rfl fun v23 hb25 u26 hs27 => ?_
  have hw5 : Ext w v23 := u26.ext hw4 ge16
  refine wl_nil ?_
  refine eo_then ?_
  refine cw_ret ?_
  refine eo_ret [.agg #[.bool s22, .slice A22 n22 c22]] rfl ⟨⟨_, rfl, load_agg aggInt hb25 [.bool s22, .slice A22 n22 c22] rfl (Nat.le_of_ble_eq_true rfl) rfl⟩, trivial⟩ ?_
  exact ⟨_, rfl, ⟨_, _, _, _, rfl, ((z22.updT hb24 u26)).cast (by omega)⟩, hw5⟩
theorem g_ref5_Sub {w : World} {sa : Bool} {Aa : Option Addr} {na ca : Nat} {x : Int} {sb : Bool} {Ab : Option Addr} {nb cb : Nat} {y : Int} {b : Nat} (hb : b ≤ w.heap.size)  (hx : Zi w sa Aa na ca x) (la : na ≤ 17179869183) (hy : Zi w sb Ab nb cb y) (lb : nb ≤ 17179869183)  :
    Calls Try.prog 34 #[.agg #[.bool sa, .slice Aa na ca], .agg #[.bool sb, .slice Ab nb cb]] w (Gv w (ZR b (x - y))) := (g_ref5_SubI hx la hy lb).mono (Gv.imp (ZR.imp hb))

set_option maxHeartbeats 4000000 in
theorem g_ref5_MulI {w : World} {sa : Bool} {Aa : Option Addr} {na ca : Nat} {x : Int} {sb : Bool} {Ab : Option Addr} {nb cb : Nat} {y : Int} (hx : Zi w sa Aa na ca x) (la : na ≤ 17179869183) (hy : Zi w sb Ab nb cb y) (lb : nb ≤ 17179869183)  :
    Calls Try.prog 35 #[.agg #[.bool sa, .slice Aa na ca], .agg #[.bool sb, .slice Ab nb cb]] w (Gv w (ZR w.heap.size (x * y))) := by
  have Lx : ln x ≤ 17179869183 := Nat.le_trans hx.ln la
  have Ly : ln y ≤ 17179869183 := Nat.le_trans hy.ln lb
  refine sx_enter Try.func35 rfl (n := 18) rfl (Nat.le_of_ble_eq_true rfl) (args := [.agg #[.bool sa, .slice Aa na ca], .agg #[.bool sb, .slice Ab nb cb]]) ?_
  refine cw_keep [(0, .agg #[.bool sa, .slice Aa na ca]), (1, .agg #[.bool sb, .slice Ab nb cb])] ⟨rfl, rfl, trivial⟩ ?_
  refine cw_seq ?_
  -- region 0
  refine cw_region ?_
  refine wl_box rfl rfl (vs := [.bool sa, .slice Aa na ca]) rfl (by decide) fun g1 v2 nb => ?_
  have hb4 := nb.bk
  have ge5 : w.heap.size ≤ g1 := by rw [← nb.at_]; exact (Ext.refl w).size
  have e3 := nb.ext
  clear nb
  have hw1 : Ext w v2 := (Ext.refl w).trans e3
  refine wl_box rfl rfl (vs := [.bool sb, .slice Ab nb cb]) rfl (by decide) fun g6 v7 nb => ?_
  have hb9 := nb.bk
  have ge10 : w.heap.size ≤ g6 := by rw [← nb.at_]; exact hw1.size
  have q11 : g1 < g6 := by rw [← nb.at_]; exact hb4.lt
  have e8 := nb.ext
  clear nb
  have hw2 : Ext w v7 := hw1.trans e8
  refine wl_alloc rfl (z := .agg #[.bool false, .slice none 0 0]) (vs := [.bool false, .slice none 0 0]) (fun _ => by kernel_rfl) rfl (by decide) fun g12 v13 nb => ?_
  have hb15 := nb.bk
  have ge16 : w.heap.size ≤ g12 := by rw [← nb.at_]; exact hw2.size
  have q17 : g6 < g12 := by rw [← nb.at_]; exact hb9.lt
  have e14 := nb.ext
  clear nb
  have hw3 : Ext w v13 := hw2.trans e14
  refine wl_nil ?_
  refine eo_then ?_
  refine cw_seq ?_
  -- region 1
  refine cw_region ?_
  refine wl_pure rfl rfl (v := .pointer (some ⟨g1, 1, none⟩)) (by decide) (by kernel_rfl) ?_
  refine wl_load rfl rfl (load_cell cellWords (hb4.ext (e8.trans e14)) rfl) (by decide) ?_
  refine wl_pure rfl rfl (v := .pointer (some ⟨g6, 1, none⟩)) (by decide) (by kernel_rfl) ?_
  refine wl_load rfl rfl (load_cell cellWords (hb9.ext e14) rfl) (by decide) ?_
  have L18 : (wd ((Int.natAbs x) * (Int.natAbs y))).length ≤ 34359738366 := Nat.le_trans (len_wd_mul _ _) (Nat.add_le_add Lx Ly)
  refine wl_call rfl rfl (vs := [.slice Aa na ca, .slice Ab nb cb]) (by kernel_rfl) (by decide) (g_ref2_Mul hw3.size (hx.ext hw3).wi (Nat.le_trans la (by decide)) (hy.ext hw3).wi (Nat.le_trans lb (by decide))) ?_
  rintro _ v19 ⟨xr21, rfl, r21, e20⟩
  refine ret_intro ?_
  have hw4 : Ext w v19 := hw3.trans e20
  obtain ⟨A22, n22, c22, rfl, j22, o22⟩ := r21
  refine wl_assign rfl rfl (by decide) ?_
  refine wl_nil ?_
  refine eo_then ?_
  refine cw_seq ?_
  -- region 2
  refine cw_region ?_
  refine wl_pure rfl rfl (v := .pointer (some ⟨g1, 0, none⟩)) (by decide) (by kernel_rfl) ?_
  refine wl_load rfl rfl (load_cell cellBool (hb4.ext (e8.trans (e14.trans e20))) rfl) (by decide) ?_
  refine wl_pure rfl rfl (v := .pointer (some ⟨g6, 0, none⟩)) (by decide) (by kernel_rfl) ?_
  refine wl_load rfl rfl (load_cell cellBool (hb9.ext (e14.trans e20)) rfl) (by decide) ?_
  refine wl_pure rfl rfl (v := .bool (!(sa == sb))) (by decide) (by kernel_rfl) ?_
  refine wl_move rfl rfl (by decide) ?_
  have L23 : ln (sg (!(sa == sb)) ((Int.natAbs x) * (Int.natAbs y))) ≤ 34359738366 := by rw [ln_sg]; exact L18
  refine wl_call rfl rfl (vs := [.bool (!(sa == sb)), .slice A22 n22 c22]) (by kernel_rfl) (by decide) (g_ref5_made hw4.size o22.wi (by rw [j22]; exact Nat.le_trans L18 (by decide))) ?_
  rintro _ v24 ⟨xr26, rfl, r26, e25⟩
  refine ret_intro ?_
  have hw5 : Ext w v24 := hw4.trans e25
  obtain ⟨s27, A27, n27, c27, rfl, z27⟩ := r26
  have hb29 := (hb15.ext (e20.trans e25))
  refine wl_stored rfl rfl rfl aggInt rfl hb29 (Nat.le_of_ble_eq_true rfl) rfl [.bool s27, .slice A27 n27 c27] rfl fun v28 hb30 u31 hs32 => ?_
  have hw6 : Ext w v28 := u31.ext hw5 ge16
  refine wl_nil ?_
  refine eo_then ?_
  refine cw_ret ?_
  refine eo_ret [.agg #[.bool s27, .slice A27 n27 c27]] rfl ⟨⟨_, rfl, load_agg aggInt hb30 [.bool s27, .slice A27 n27 c27] rfl (Nat.le_of_ble_eq_true rfl) rfl⟩, trivial⟩ ?_
  exact ⟨_, rfl, ⟨_, _, _, _, rfl, ((z27.updT hb29 u31)).cast ((sg_mul _ _ _ _).trans (by rw [hx.sg, hy.sg]))⟩, hw6⟩
theorem g_ref5_Mul {w : World} {sa : Bool} {Aa : Option Addr} {na ca : Nat} {x : Int} {sb : Bool} {Ab : Option Addr} {nb cb : Nat} {y : Int} {b : Nat} (hb : b ≤ w.heap.size)  (hx : Zi w sa Aa na ca x) (la : na ≤ 17179869183) (hy : Zi w sb Ab nb cb y) (lb : nb ≤ 17179869183)  :
    Calls Try.prog 35 #[.agg #[.bool sa, .slice Aa na ca], .agg #[.bool sb, .slice Ab nb cb]] w (Gv w (ZR b (x * y))) := (g_ref5_MulI hx la hy lb).mono (Gv.imp (ZR.imp hb))

set_option maxHeartbeats 4000000 in
theorem g_ref5_MulAddI {w : World} {sa : Bool} {Aa : Option Addr} {na ca : Nat} {x : Int} {sb : Bool} {Ab : Option Addr} {nb cb : Nat} {y : Int} {sd : Bool} {Ad : Option Addr} {nd cd : Nat} {z : Int} (hx : Zi w sa Aa na ca x) (la : na ≤ 8589934591) (hy : Zi w sb Ab nb cb y) (lb : nb ≤ 8589934591) (hz : Zi w sd Ad nd cd z) (ld : nd ≤ 8589934591)  :
    Calls Try.prog 48 #[.agg #[.bool sa, .slice Aa na ca], .agg #[.bool sb, .slice Ab nb cb], .agg #[.bool sd, .slice Ad nd cd]] w (Gv w (ZR w.heap.size (x * y + z))) := by
  have Lx : ln x ≤ 8589934591 := Nat.le_trans hx.ln la
  have Ly : ln y ≤ 8589934591 := Nat.le_trans hy.ln lb
  have Lz : ln z ≤ 8589934591 := Nat.le_trans hz.ln ld
  refine sx_enter Try.func48 rfl (n := 14) rfl (Nat.le_of_ble_eq_true rfl) (args := [.agg #[.bool sa, .slice Aa na ca], .agg #[.bool sb, .slice Ab nb cb], .agg #[.bool sd, .slice Ad nd cd]]) ?_
  refine cw_keep [(0, .agg #[.bool sa, .slice Aa na ca]), (1, .agg #[.bool sb, .slice Ab nb cb]), (2, .agg #[.bool sd, .slice Ad nd cd])] ⟨rfl, rfl, rfl, trivial⟩ ?_
  refine cw_seq ?_
  -- region 0
  refine cw_region ?_
  refine wl_box rfl rfl (vs := [.bool sa, .slice Aa na ca]) rfl (by decide) fun g1 v2 nb => ?_
  have hb4 := nb.bk
  have ge5 : w.heap.size ≤ g1 := by rw [← nb.at_]; exact (Ext.refl w).size
  have e3 := nb.ext
  clear nb
  have hw1 : Ext w v2 := (Ext.refl w).trans e3
  refine wl_box rfl rfl (vs := [.bool sb, .slice Ab nb cb]) rfl (by decide) fun g6 v7 nb => ?_
  have hb9 := nb.bk
  have ge10 : w.heap.size ≤ g6 := by rw [← nb.at_]; exact hw1.size
  have q11 : g1 < g6 := by rw [← nb.at_]; exact hb4.lt
  have e8 := nb.ext
  clear nb
  have hw2 : Ext w v7 := hw1.trans e8
  refine wl_box rfl rfl (vs := [.bool sd, .slice Ad nd cd]) rfl (by decide) fun g12 v13 nb => ?_
  have hb15 := nb.bk
  have ge16 : w.heap.size ≤ g12 := by rw [← nb.at_]; exact hw2.size
  have q17 : g6 < g12 := by rw [← nb.at_]; exact hb9.lt
  have e14 := nb.ext
  clear nb
  have hw3 : Ext w v13 := hw2.trans e14
  refine wl_alloc rfl (z := .agg #[.bool false, .slice none 0 0]) (vs := [.bool false, .slice none 0 0]) (fun _ => by kernel_rfl) rfl (by decide) fun g18 v19 nb => ?_
  have hb21 := nb.bk
  have ge22 : w.heap.size ≤ g18 := by rw [← nb.at_]; exact hw3.size
  have q23 : g12 < g18 := by rw [← nb.at_]; exact hb15.lt
  have e20 := nb.ext
  clear nb
  have hw4 : Ext w v19 := hw3.trans e20
  refine wl_nil ?_
  refine eo_then ?_
  refine cw_seq ?_
  -- region 1
  refine cw_region ?_
  refine wl_load rfl rfl (load_agg aggInt (hb4.ext (e8.trans (e14.trans e20))) [.bool sa, .slice Aa na ca] rfl (Nat.le_of_ble_eq_true rfl) rfl) (by decide) ?_
  refine wl_load rfl rfl (load_agg aggInt (hb9.ext (e14.trans e20)) [.bool sb, .slice Ab nb cb] rfl (Nat.le_of_ble_eq_true rfl) rfl) (by decide) ?_
  have L24 : ln (x * y) ≤ 17179869182 := Nat.le_trans (ln_mul Lx Ly) (by decide)
  refine wl_call rfl rfl (vs := [.agg #[.bool sa, .slice Aa na ca], .agg #[.bool sb, .slice Ab nb cb]]) (by kernel_rfl) (by decide) (g_ref5_Mul hw4.size (hx.ext hw4) (Nat.le_trans la (by decide)) (hy.ext hw4) (Nat.le_trans lb (by decide))) ?_
  rintro _ v25 ⟨xr27, rfl, r27, e26⟩
  refine ret_intro ?_
  have hw5 : Ext w v25 := hw4.trans e26
  obtain ⟨s28, A28, n28, c28, rfl, z28⟩ := r27
  refine wl_alloc rfl (z := .agg #[.bool false, .slice none 0 0]) (vs := [.bool false, .slice none 0 0]) (fun _ => by kernel_rfl) rfl (by decide) fun g29 v30 nb => ?_
  have hb32 := nb.bk
  have ge33 : w.heap.size ≤ g29 := by rw [← nb.at_]; exact hw5.size
  have q34 : g18 < g29 := by rw [← nb.at_]; exact (hb21.ext e26).lt
  have e31 := nb.ext
  clear nb
  have hw6 : Ext w v30 := hw5.trans e31
  have hb36 := hb32
  refine wl_stored rfl rfl rfl aggInt rfl hb36 (Nat.le_of_ble_eq_true rfl) rfl [.bool s28, .slice A28 n28 c28] rfl fun v35 hb37 u38 hs39 => ?_
  have hw7 : Ext w v35 := u38.ext hw6 ge33
  refine wl_nil ?_
  refine eo_then ?_
  refine cw_seq ?_
  -- region 2
  refine cw_region ?_
  refine wl_load rfl rfl (load_agg aggInt hb37 [.bool s28, .slice A28 n28 c28] rfl (Nat.le_of_ble_eq_true rfl) rfl) (by decide) ?_
  refine wl_load rfl rfl (load_agg aggInt ((hb15.ext (e20.trans (e26.trans e31))).updN u38 (by omega)) [.bool sd, .slice Ad nd cd] rfl (Nat.le_of_ble_eq_true rfl) rfl) (by decide) ?_
  have L40 : ln ((x * y) + z) ≤ 17179869183 := Nat.le_trans (ln_add L24 Lz) (by decide)
  refine wl_call rfl rfl (vs := [.agg #[.bool s28, .slice A28 n28 c28], .agg #[.bool sd, .slice Ad nd cd]]) (by kernel_rfl) (by decide) (g_ref5_Add hw7.size ((z28.ext e31).updT hb36 u38).zi (z28.le (Nat.le_trans L24 (by decide))) (hz.ext hw7) (Nat.le_trans ld (by decide))) ?_
  rintro _ v41 ⟨xr43, rfl, r43, e42⟩
  refine ret_intro ?_
  have hw8 : Ext w v41 := hw7.trans e42
  obtain ⟨s44, A44, n44, c44, rfl, z44⟩ := r43
  have hb46 := (((hb21.ext (e26.trans e31)).updN u38 (by omega)).ext e42)
  refine wl_stored rfl rfl rfl aggInt rfl hb46 (Nat.le_of_ble_eq_true rfl) rfl [.bool s44, .slice A44 n44 c44] rfl fun v45 hb47 u48 hs49 => ?_
  have hw9 : Ext w v45 := u48.ext hw8 ge22
  refine wl_nil ?_
  refine eo_then ?_
  refine cw_ret ?_
  refine eo_ret [.agg #[.bool s44, .slice A44 n44 c44]] rfl ⟨⟨_, rfl, load_agg aggInt hb47 [.bool s44, .slice A44 n44 c44] rfl (Nat.le_of_ble_eq_true rfl) rfl⟩, trivial⟩ ?_
  exact ⟨_, rfl, ⟨_, _, _, _, rfl, ((z44.updT hb46 u48)).cast (rfl)⟩, hw9⟩
theorem g_ref5_MulAdd {w : World} {sa : Bool} {Aa : Option Addr} {na ca : Nat} {x : Int} {sb : Bool} {Ab : Option Addr} {nb cb : Nat} {y : Int} {sd : Bool} {Ad : Option Addr} {nd cd : Nat} {z : Int} {b : Nat} (hb : b ≤ w.heap.size)  (hx : Zi w sa Aa na ca x) (la : na ≤ 8589934591) (hy : Zi w sb Ab nb cb y) (lb : nb ≤ 8589934591) (hz : Zi w sd Ad nd cd z) (ld : nd ≤ 8589934591)  :
    Calls Try.prog 48 #[.agg #[.bool sa, .slice Aa na ca], .agg #[.bool sb, .slice Ab nb cb], .agg #[.bool sd, .slice Ad nd cd]] w (Gv w (ZR b (x * y + z))) := (g_ref5_MulAddI hx la hy lb hz ld).mono (Gv.imp (ZR.imp hb))

set_option maxHeartbeats 4000000 in
theorem g_ref5_TruncI {w : World} {sa : Bool} {Aa : Option Addr} {na ca : Nat} {x : Int} {sb : Bool} {Ab : Option Addr} {nb cb : Nat} {y : Int} (hx : Zi w sa Aa na ca x) (la : na ≤ 17179869183) (hy : Zi w sb Ab nb cb y) (lb : nb ≤ 17179869183) (h0 : y ≠ 0) :
    Calls Try.prog 79 #[.agg #[.bool sa, .slice Aa na ca], .agg #[.bool sb, .slice Ab nb cb]] w (Gv w (T3 (ZR w.heap.size (x.tdiv y)) (ZR w.heap.size (x.tmod y)) (Is (.int .i64 0)))) := by
  have Lx : ln x ≤ 17179869183 := Nat.le_trans hx.ln la
  have Ly : ln y ≤ 17179869183 := Nat.le_trans hy.ln lb
  have hy0 : Int.natAbs y ≠ 0 := by omega
  refine sx_enter Try.func79 rfl (n := 34) rfl (Nat.le_of_ble_eq_true rfl) (args := [.agg #[.bool sa, .slice Aa na ca], .agg #[.bool sb, .slice Ab nb cb]]) ?_
  refine cw_keep [(0, .agg #[.bool sa, .slice Aa na ca]), (1, .agg #[.bool sb, .slice Ab nb cb])] ⟨rfl, rfl, trivial⟩ ?_
  refine cw_seq ?_
  -- region 0
  refine cw_region ?_
  refine wl_box rfl rfl (vs := [.bool sa, .slice Aa na ca]) rfl (by decide) fun g1 v2 nb => ?_
  have hb4 := nb.bk
  have ge5 : w.heap.size ≤ g1 := by rw [← nb.at_]; exact (Ext.refl w).size
  have e3 := nb.ext
  clear nb
  have hw1 : Ext w v2 := (Ext.refl w).trans e3
  refine wl_box rfl rfl (vs := [.bool sb, .slice Ab nb cb]) rfl (by decide) fun g6 v7 nb => ?_
  have hb9 := nb.bk
  have ge10 : w.heap.size ≤ g6 := by rw [← nb.at_]; exact hw1.size
  have q11 : g1 < g6 := by rw [← nb.at_]; exact hb4.lt
  have e8 := nb.ext
  clear nb
  have hw2 : Ext w v7 := hw1.trans e8
  refine wl_alloc rfl (z := .agg #[.bool false, .slice none 0 0]) (vs := [.bool false, .slice none 0 0]) (fun _ => by kernel_rfl) rfl (by decide) fun g12 v13 nb => ?_
  have hb15 := nb.bk
  have ge16 : w.heap.size ≤ g12 := by rw [← nb.at_]; exact hw2.size
  have q17 : g6 < g12 := by rw [← nb.at_]; exact hb9.lt
  have e14 := nb.ext
  clear nb
  have hw3 : Ext w v13 := hw2.trans e14
  refine wl_alloc rfl (z := .agg #[.bool false, .slice none 0 0]) (vs := [.bool false, .slice none 0 0]) (fun _ => by kernel_rfl) rfl (by decide) fun g18 v19 nb => ?_
  have hb21 := nb.bk
  have ge22 : w.heap.size ≤ g18 := by rw [← nb.at_]; exact hw3.size
  have q23 : g12 < g18 := by rw [← nb.at_]; exact hb15.lt
  have e20 := nb.ext
  clear nb
  have hw4 : Ext w v19 := hw3.trans e20
  refine wl_assign rfl rfl (by decide) ?_
  refine wl_nil ?_
  refine eo_then ?_
  refine cw_seq ?_
  -- region 1
  refine cw_region ?_
  refine wl_pure rfl rfl (v := .pointer (some ⟨g1, 1, none⟩)) (by decide) (by kernel_rfl) ?_
  refine wl_load rfl rfl (load_cell cellWords (hb4.ext (e8.trans (e14.trans e20))) rfl) (by decide) ?_
  refine wl_pure rfl rfl (v := .pointer (some ⟨g6, 1, none⟩)) (by decide) (by kernel_rfl) ?_
  refine wl_load rfl rfl (load_cell cellWords (hb9.ext (e14.trans e20)) rfl) (by decide) ?_
  have L24 : (wd ((Int.natAbs x) / (Int.natAbs y))).length ≤ 17179869183 := Nat.le_trans (len_wd_mono (Nat.div_le_self _ _)) Lx
  have L25 : (wd ((Int.natAbs x) % (Int.natAbs y))).length ≤ 17179869183 := Nat.le_trans (len_wd_mono (Nat.mod_le _ _)) Lx
  refine wl_call rfl rfl (vs := [.slice Aa na ca, .slice Ab nb cb]) (by kernel_rfl) (by decide) (g_ref3_DivMod hw4.size (hx.ext hw4).wi (Nat.le_trans la (by decide)) (hy.ext hw4).wi (Nat.le_trans lb (by decide)) hy0) ?_
  rintro _ v26 ⟨xr28, rfl, r28, e27⟩
  refine ret_intro ?_
  have hw5 : Ext w v26 := hw4.trans e27
  obtain ⟨a29_0, a29_1, a29_2, rfl, r29_0, r29_1, r29_2⟩ := r28
  obtain ⟨A30, n30, c30, rfl, j30, o30⟩ := r29_0
  obtain ⟨A31, n31, c31, rfl, j31, o31⟩ := r29_1
  obtain rfl := r29_2
  refine wl_move rfl rfl (by decide) ?_
  refine wl_pure rfl rfl (v := .slice A30 n30 c30) (by decide) (by kernel_rfl) ?_
  refine wl_pure rfl rfl (v := .slice A31 n31 c31) (by decide) (by kernel_rfl) ?_
  refine wl_pure rfl rfl (v := .int .i64 0) (by decide) (by kernel_rfl) ?_
  refine wl_assign rfl rfl (by decide) ?_
  refine wl_assign rfl rfl (by decide) ?_
  refine wl_assign rfl rfl (by decide) ?_
  refine wl_nil ?_
  refine eo_then ?_
  refine cw_seq ?_
  refine cw_seq ?_
  -- region 2
  refine cw_region ?_
  refine wl_move rfl rfl (by decide) ?_
  refine wl_pure rfl rfl (v := .bool false) (by decide) (by kernel_rfl) ?_
  refine wl_nil ?_
  refine eo_then ?_
  refine cw_false rfl ?_
  refine cw_skip ?_
  refine eo_then ?_
  refine cw_seq ?_
  -- region 4, in whatever order
  have L32 : ln (sg (!(sa == sb)) ((Int.natAbs x) / (Int.natAbs y))) ≤ 17179869183 := by rw [ln_sg]; exact L24
  have L34 : ln (sg sa ((Int.natAbs x) % (Int.natAbs y))) ≤ 17179869183 := by rw [ln_sg]; exact L25
  refine cw_draw mix 11 [] [Is (.pointer (some ⟨g1, 0, none⟩)), Is (.bool sa), Is (.pointer (some ⟨g6, 0, none⟩)), Is (.bool sb), Is (.bool (!(sa == sb))), Is (.slice A30 n30 c30), ZR w.heap.size (sg (!(sa == sb)) ((Int.natAbs x) / (Int.natAbs y))), Is (.pointer (some ⟨g1, 0, none⟩)), Is (.bool sa), Is (.slice A31 n31 c31), ZR w.heap.size (sg sa ((Int.natAbs x) % (Int.natAbs y)))] [[], [0], [], [2], [1, 3], [], [4, 5], [], [7], [], [8, 9]] [[], [0], [], [2], [0, 1, 2, 3], [], [0, 1, 2, 3, 4, 5], [], [7], [], [0, 1, 2, 3, 4, 5, 6, 7, 8, 9], [0, 1, 2, 3, 4, 5, 6, 7, 8, 9, 10], [0, 1, 2, 3, 4, 5, 6, 7, 8, 9, 10, 11], [0, 1, 2, 3, 4, 5, 6, 7, 8, 9, 10, 11, 12]] rfl
    (obs_cons rfl rfl (hob rfl rfl ?_) (obs_cons rfl rfl (hob rfl rfl ?_) (obs_cons rfl rfl (hob rfl rfl ?_) (obs_cons rfl rfl (hob rfl rfl ?_) (obs_cons rfl rfl (hob rfl rfl ?_) (obs_cons rfl rfl (hob rfl rfl ?_) (obs_cons rfl rfl (hob rfl rfl ?_) (obs_cons rfl rfl (hob rfl rfl ?_) (obs_cons rfl rfl (hob rfl rfl ?_) (obs_cons rfl rfl (hob rfl rfl ?_) (obs_cons rfl rfl (hob rfl rfl ?_) obs_nil))))))))))) ?_
  · -- 0
    intro v36 e37
    have hw6 : Ext w v36 := hw5.trans e37
    refine deps_nil ?_
    refine wl_pure rfl rfl (v := .pointer (some ⟨g1, 0, none⟩)) (by decide) (by kernel_rfl) ?_
    exact pi_done rfl (Ext.refl _) rfl
  · -- 1
    intro v38 e39
    have hw6 : Ext w v38 := hw5.trans e39
    refine deps_cons rfl rfl fun x40 y41 h42 e43 f44 => ?_
    obtain rfl := h42
    refine deps_nil ?_
    refine wl_load rfl rfl (load_cell cellBool (hb4.ext (e8.trans (e14.trans (e20.trans (e27.trans e39))))) rfl) (by decide) ?_
    exact pi_done rfl (Ext.refl _) rfl
  · -- 2
    intro v45 e46
    have hw6 : Ext w v45 := hw5.trans e46
    refine deps_nil ?_
    refine wl_pure rfl rfl (v := .pointer (some ⟨g6, 0, none⟩)) (by decide) (by kernel_rfl) ?_
    exact pi_done rfl (Ext.refl _) rfl
  · -- 3
    intro v47 e48
    have hw6 : Ext w v47 := hw5.trans e48
    refine deps_cons rfl rfl fun x49 y50 h51 e52 f53 => ?_
    obtain rfl := h51
    refine deps_nil ?_
    refine wl_load rfl rfl (load_cell cellBool (hb9.ext (e14.trans (e20.trans (e27.trans e48)))) rfl) (by decide) ?_
    exact pi_done rfl (Ext.refl _) rfl
  · -- 4
    intro v54 e55
    have hw6 : Ext w v54 := hw5.trans e55
    refine deps_cons rfl rfl fun x56 y57 h58 e59 f60 => ?_
    obtain rfl := h58
    refine deps_cons rfl rfl fun x61 y62 h63 e64 f65 => ?_
    obtain rfl := h63
    refine deps_nil ?_
    refine wl_pure rfl rfl (v := .bool (!(sa == sb))) (by decide) (by kernel_rfl) ?_
    exact pi_done rfl (Ext.refl _) rfl
  · -- 5
    intro v66 e67
    have hw6 : Ext w v66 := hw5.trans e67
    refine deps_nil ?_
    refine wl_move rfl rfl (by decide) ?_
    exact pi_done rfl (Ext.refl _) rfl
  · -- 6
    intro v68 e69
    have hw6 : Ext w v68 := hw5.trans e69
    refine deps_cons rfl rfl fun x70 y71 h72 e73 f74 => ?_
    obtain rfl := h72
    refine deps_cons rfl rfl fun x75 y76 h77 e78 f79 => ?_
    obtain rfl := h77
    refine deps_nil ?_
    have L80 : ln (sg (!(sa == sb)) ((Int.natAbs x) / (Int.natAbs y))) ≤ 17179869183 := by rw [ln_sg]; exact L24
    refine wl_call rfl rfl (vs := [.bool (!(sa == sb)), .slice A30 n30 c30]) (by kernel_rfl) (by decide) (g_ref5_made hw6.size (o30.ext e69).wi (by rw [j30]; exact Nat.le_trans L24 (by decide))) ?_
    rintro _ v81 ⟨xr83, rfl, r83, e82⟩
    refine ret_intro ?_
    have hw7 : Ext w v81 := hw6.trans e82
    obtain ⟨s84, A84, n84, c84, rfl, z84⟩ := r83
    exact pi_done rfl e82 ⟨_, _, _, _, rfl, z84⟩
  · -- 7
    intro v85 e86
    have hw6 : Ext w v85 := hw5.trans e86
    refine deps_nil ?_
    refine wl_pure rfl rfl (v := .pointer (some ⟨g1, 0, none⟩)) (by decide) (by kernel_rfl) ?_
    exact pi_done rfl (Ext.refl _) rfl
  · -- 8
    intro v87 e88
    have hw6 : Ext w v87 := hw5.trans e88
    refine deps_cons rfl rfl fun x89 y90 h91 e92 f93 => ?_
    obtain rfl := h91
    refine deps_nil ?_
    refine wl_load rfl rfl (load_cell cellBool (hb4.ext (e8.trans (e14.trans (e20.trans (e27.trans e88))))) rfl) (by decide) ?_
    exact pi_done rfl (Ext.refl _) rfl
  · -- 9
    intro v94 e95
    have hw6 : Ext w v94 := hw5.trans e95
    refine deps_nil ?_
    refine wl_move rfl rfl (by decide) ?_
    exact pi_done rfl (Ext.refl _) rfl
  · -- 10
    intro v96 e97
    have hw6 : Ext w v96 := hw5.trans e97
    refine deps_cons rfl rfl fun x98 y99 h100 e101 f102 => ?_
    obtain rfl := h100
    refine deps_cons rfl rfl fun x103 y104 h105 e106 f107 => ?_
    obtain rfl := h105
    refine deps_nil ?_
    have L108 : ln (sg sa ((Int.natAbs x) % (Int.natAbs y))) ≤ 17179869183 := by rw [ln_sg]; exact L25
    refine wl_call rfl rfl (vs := [.bool sa, .slice A31 n31 c31]) (by kernel_rfl) (by decide) (g_ref5_made hw6.size (o31.ext e97).wi (by rw [j31]; exact Nat.le_trans L25 (by decide))) ?_
    rintro _ v109 ⟨xr111, rfl, r111, e110⟩
    refine ret_intro ?_
    have hw7 : Ext w v109 := hw6.trans e110
    obtain ⟨s112, A112, n112, c112, rfl, z112⟩ := r111
    exact pi_done rfl e110 ⟨_, _, _, _, rfl, z112⟩
  · -- all
    intro v113 e114
    have hw6 : Ext w v113 := hw5.trans e114
    refine deps_cons rfl rfl fun x115 y116 h117 e118 f119 => ?_
    obtain rfl := h117
    refine deps_cons rfl rfl fun x120 y121 h122 e123 f124 => ?_
    obtain rfl := h122
    refine deps_cons rfl rfl fun x125 y126 h127 e128 f129 => ?_
    obtain rfl := h127
    refine deps_cons rfl rfl fun x130 y131 h132 e133 f134 => ?_
    obtain rfl := h132
    refine deps_cons rfl rfl fun x135 y136 h137 e138 f139 => ?_
    obtain rfl := h137
    refine deps_cons rfl rfl fun x140 y141 h142 e143 f144 => ?_
    obtain rfl := h142
    refine deps_cons rfl rfl fun x145 y146 h147 e148 f149 => ?_
    obtain ⟨s150, A150, n150, c150, rfl, z150⟩ := h147
    have z150 := z150.ext f149
    refine deps_cons rfl rfl fun x151 y152 h153 e154 f155 => ?_
    obtain rfl := h153
    refine deps_cons rfl rfl fun x156 y157 h158 e159 f160 => ?_
    obtain rfl := h158
    refine deps_cons rfl rfl fun x161 y162 h163 e164 f165 => ?_
    obtain rfl := h163
    refine deps_cons rfl rfl fun x166 y167 h168 e169 f170 => ?_
    obtain ⟨s171, A171, n171, c171, rfl, z171⟩ := h168
    have z171 := z171.ext f170
    refine deps_nil ?_
    have hb173 := (hb15.ext (e20.trans (e27.trans e114)))
    refine wl_stored rfl rfl rfl aggInt rfl hb173 (Nat.le_of_ble_eq_true rfl) rfl [.bool s150, .slice A150 n150 c150] rfl fun v172 hb174 u175 hs176 => ?_
    have hw7 : Ext w v172 := u175.ext hw6 ge16
    have hb178 := ((hb21.ext (e27.trans e114)).updN u175 (by omega))
    refine wl_stored rfl rfl rfl aggInt rfl hb178 (Nat.le_of_ble_eq_true rfl) rfl [.bool s171, .slice A171 n171 c171] rfl fun v177 hb179 u180 hs181 => ?_
    have hw8 : Ext w v177 := u180.ext hw7 ge22
    refine wl_assign rfl rfl (by decide) ?_
    refine wl_nil ?_
    refine eo_np ?_
    refine eo_then ?_
    refine cw_ret ?_
    refine eo_ret [.agg #[.bool s150, .slice A150 n150 c150], .agg #[.bool s171, .slice A171 n171 c171], .int .i64 0] rfl ⟨⟨_, rfl, load_agg aggInt (hb174.updN u180 (by omega)) [.bool s150, .slice A150 n150 c150] rfl (Nat.le_of_ble_eq_true rfl) rfl⟩, ⟨_, rfl, load_agg aggInt hb179 [.bool s171, .slice A171 n171 c171] rfl (Nat.le_of_ble_eq_true rfl) rfl⟩, rfl, trivial⟩ ?_
    exact ⟨_, rfl, ⟨_, _, _, rfl, ⟨_, _, _, _, rfl, (((z150.updT hb173 u175).updT hb178 u180)).cast ((sg_tdiv _ _ _ _).trans (by rw [hx.sg, hy.sg]))⟩, ⟨_, _, _, _, rfl, (((z171.updT hb173 u175).updT hb178 u180)).cast ((sg_tmod sa sb _ _).trans (by rw [hx.sg, hy.sg]))⟩, rfl⟩, hw8⟩
theorem g_ref5_Trunc {w : World} {sa : Bool} {Aa : Option Addr} {na ca : Nat} {x : Int} {sb : Bool} {Ab : Option Addr} {nb cb : Nat} {y : Int} {b : Nat} (hb : b ≤ w.heap.size)  (hx : Zi w sa Aa na ca x) (la : na ≤ 17179869183) (hy : Zi w sb Ab nb cb y) (lb : nb ≤ 17179869183) (h0 : y ≠ 0) :
    Calls Try.prog 79 #[.agg #[.bool sa, .slice Aa na ca], .agg #[.bool sb, .slice Ab nb cb]] w (Gv w (T3 (ZR b (x.tdiv y)) (ZR b (x.tmod y)) (Is (.int .i64 0)))) := (g_ref5_TruncI hx la hy lb h0).mono (Gv.imp (T3.imp (ZR.imp hb) (ZR.imp hb) Is.imp))
set_option maxHeartbeats 4000000 in
theorem g_ref5_Trunc_badI {w : World} {sa : Bool} {Aa : Option Addr} {na ca : Nat} {x : Int} {sb : Bool} {Ab : Option Addr} {nb cb : Nat} {y : Int} (hx : Zi w sa Aa na ca x) (la : na ≤ 17179869183) (hy : Zi w sb Ab nb cb y) (lb : nb ≤ 17179869183) (h0 : y = 0) :
    Calls Try.prog 79 #[.agg #[.bool sa, .slice Aa na ca], .agg #[.bool sb, .slice Ab nb cb]] w (Gv w (T3 (ZR w.heap.size (0)) (ZR w.heap.size (0)) (Is (.int .i64 4)))) := by
  have Lx : ln x ≤ 17179869183 := Nat.le_trans hx.ln la
  have Ly : ln y ≤ 17179869183 := Nat.le_trans hy.ln lb
  have hy0 : Int.natAbs y = 0 := by omega
  refine sx_enter Try.func79 rfl (n := 34) rfl (Nat.le_of_ble_eq_true rfl) (args := [.agg #[.bool sa, .slice Aa na ca], .agg #[.bool sb, .slice Ab nb cb]]) ?_
  refine cw_keep [(0, .agg #[.bool sa, .slice Aa na ca]), (1, .agg #[.bool sb, .slice Ab nb cb])] ⟨rfl, rfl, trivial⟩ ?_
  refine cw_seq ?_
  -- region 0
  refine cw_region ?_
  refine wl_box rfl rfl (vs := [.bool sa, .slice Aa na ca]) rfl (by decide) fun g1 v2 nb => ?_
  have hb4 := nb.bk
  have ge5 : w.heap.size ≤ g1 := by rw [← nb.at_]; exact (Ext.refl w).size
  have e3 := nb.ext
  clear nb
  have hw1 : Ext w v2 := (Ext.refl w).trans e3
  refine wl_box rfl rfl (vs := [.bool sb, .slice Ab nb cb]) rfl (by decide) fun g6 v7 nb => ?_
  have hb9 := nb.bk
  have ge10 : w.heap.size ≤ g6 := by rw [← nb.at_]; exact hw1.size
  have q11 : g1 < g6 := by rw [← nb.at_]; exact hb4.lt
  have e8 := nb.ext
  clear nb
  have hw2 : Ext w v7 := hw1.trans e8
  refine wl_alloc rfl (z := .agg #[.bool false, .slice none 0 0]) (vs := [.bool false, .slice none 0 0]) (fun _ => by kernel_rfl) rfl (by decide) fun g12 v13 nb => ?_
  have hb15 := nb.bk
  have ge16 : w.heap.size ≤ g12 := by rw [← nb.at_]; exact hw2.size
  have q17 : g6 < g12 := by rw [← nb.at_]; exact hb9.lt
  have e14 := nb.ext
  clear nb
  have hw3 : Ext w v13 := hw2.trans e14
  refine wl_alloc rfl (z := .agg #[.bool false, .slice none 0 0]) (vs := [.bool false, .slice none 0 0]) (fun _ => by kernel_rfl) rfl (by decide) fun g18 v19 nb => ?_
  have hb21 := nb.bk
  have ge22 : w.heap.size ≤ g18 := by rw [← nb.at_]; exact hw3.size
  have q23 : g12 < g18 := by rw [← nb.at_]; exact hb15.lt
  have e20 := nb.ext
  clear nb
  have hw4 : Ext w v19 := hw3.trans e20
  refine wl_assign rfl rfl (by decide) ?_
  refine wl_nil ?_
  refine eo_then ?_
  refine cw_seq ?_
  -- region 1
  refine cw_region ?_
  refine wl_pure rfl rfl (v := .pointer (some ⟨g1, 1, none⟩)) (by decide) (by kernel_rfl) ?_
  refine wl_load rfl rfl (load_cell cellWords (hb4.ext (e8.trans (e14.trans e20))) rfl) (by decide) ?_
  refine wl_pure rfl rfl (v := .pointer (some ⟨g6, 1, none⟩)) (by decide) (by kernel_rfl) ?_
  refine wl_load rfl rfl (load_cell cellWords (hb9.ext (e14.trans e20)) rfl) (by decide) ?_
  refine wl_call rfl rfl (vs := [.slice Aa na ca, .slice Ab nb cb]) (by kernel_rfl) (by decide) (g_ref3_DivMod_bad (hy.ext hw4).wi (Nat.le_trans lb (by decide)) hy0) ?_
  rintro _ v24 ⟨xr26, rfl, r26, e25⟩
  refine ret_intro ?_
  have hw5 : Ext w v24 := hw4.trans e25
  obtain rfl := r26
  refine wl_move rfl rfl (by decide) ?_
  refine wl_pure rfl rfl (v := .slice none 0 0) (by decide) (by kernel_rfl) ?_
  refine wl_pure rfl rfl (v := .slice none 0 0) (by decide) (by kernel_rfl) ?_
  refine wl_pure rfl rfl (v := .int .i64 4) (by decide) (by kernel_rfl) ?_
  refine wl_assign rfl rfl (by decide) ?_
  refine wl_assign rfl rfl (by decide) ?_
  refine wl_assign rfl rfl (by decide) ?_
  refine wl_nil ?_
  refine eo_then ?_
  refine cw_seq ?_
  refine cw_seq ?_
  -- region 2
  refine cw_region ?_
  refine wl_move rfl rfl (by decide) ?_
  refine wl_pure rfl rfl (v := .bool true) (by decide) (by kernel_rfl) ?_
  refine wl_nil ?_
  refine eo_then ?_
  refine cw_true rfl ?_
  refine cw_seq ?_
  -- region 3
  refine cw_region ?_
  refine wl_pure rfl rfl (v := .agg #[.bool false, .slice none 0 0]) (by decide) (by kernel_rfl) ?_
  refine wl_pure rfl rfl (v := .agg #[.bool false, .slice none 0 0]) (by decide) (by kernel_rfl) ?_
  have hb28 := (hb15.ext (e20.trans e25))
  refine wl_stored rfl rfl rfl aggInt rfl hb28 (Nat.le_of_ble_eq_true rfl) rfl [.bool false, .slice none 0 0] rfl fun v27 hb29 u30 hs31 => ?_
  have hw6 : Ext w v27 := u30.ext hw5 ge16
  have hb33 := ((hb21.ext e25).updN u30 (by omega))
  refine wl_stored rfl rfl rfl aggInt rfl hb33 (Nat.le_of_ble_eq_true rfl) rfl [.bool false, .slice none 0 0] rfl fun v32 hb34 u35 hs36 => ?_
  have hw7 : Ext w v32 := u35.ext hw6 ge22
  refine wl_assign rfl rfl (by decide) ?_
  refine wl_nil ?_
  refine eo_then ?_
  refine cw_ret ?_
  refine eo_thenR ?_
  refine eo_ret [.agg #[.bool false, .slice none 0 0], .agg #[.bool false, .slice none 0 0], .int .i64 4] rfl ⟨⟨_, rfl, load_agg aggInt (hb29.updN u35 (by omega)) [.bool false, .slice none 0 0] rfl (Nat.le_of_ble_eq_true rfl) rfl⟩, ⟨_, rfl, load_agg aggInt hb34 [.bool false, .slice none 0 0] rfl (Nat.le_of_ble_eq_true rfl) rfl⟩, rfl, trivial⟩ ?_
  exact ⟨_, rfl, ⟨_, _, _, rfl, ⟨_, _, _, _, rfl, (((Zr.zero (w := v24) (base := w.heap.size)).updT hb28 u30).updT hb33 u35)⟩, ⟨_, _, _, _, rfl, (((Zr.zero (w := v24) (base := w.heap.size)).updT hb28 u30).updT hb33 u35)⟩, rfl⟩, hw7⟩
theorem g_ref5_Trunc_bad {w : World} {sa : Bool} {Aa : Option Addr} {na ca : Nat} {x : Int} {sb : Bool} {Ab : Option Addr} {nb cb : Nat} {y : Int} {b : Nat} (hb : b ≤ w.heap.size)  (hx : Zi w sa Aa na ca x) (la : na ≤ 17179869183) (hy : Zi w sb Ab nb cb y) (lb : nb ≤ 17179869183) (h0 : y = 0) :
    Calls Try.prog 79 #[.agg #[.bool sa, .slice Aa na ca], .agg #[.bool sb, .slice Ab nb cb]] w (Gv w (T3 (ZR b (0)) (ZR b (0)) (Is (.int .i64 4)))) := (g_ref5_Trunc_badI hx la hy lb h0).mono (Gv.imp (T3.imp (ZR.imp hb) (ZR.imp hb) Is.imp))

theorem tmod_zero_iff {x y : Int} : x.tmod y = 0 ↔ x.natAbs % y.natAbs = 0 := by rw [← Int.natAbs_tmod, Int.natAbs_eq_zero]

set_option maxHeartbeats 4000000 in
theorem g_ref5_Exact_okI {w : World} {sa : Bool} {Aa : Option Addr} {na ca : Nat} {x : Int} {sb : Bool} {Ab : Option Addr} {nb cb : Nat} {y : Int} (hx : Zi w sa Aa na ca x) (la : na ≤ 17179869183) (hy : Zi w sb Ab nb cb y) (lb : nb ≤ 17179869183) (h0 : y ≠ 0) (h1 : x.natAbs % y.natAbs = 0) :
    Calls Try.prog 44 #[.agg #[.bool sa, .slice Aa na ca], .agg #[.bool sb, .slice Ab nb cb]] w (Gv w (T2 (ZR w.heap.size (x.tdiv y)) (Is (.int .i64 0)))) := by
  have Lx : ln x ≤ 17179869183 := Nat.le_trans hx.ln la
  have Ly : ln y ≤ 17179869183 := Nat.le_trans hy.ln lb
  refine sx_enter Try.func44 rfl (n := 25) rfl (Nat.le_of_ble_eq_true rfl) (args := [.agg #[.bool sa, .slice Aa na ca], .agg #[.bool sb, .slice Ab nb cb]]) ?_
  refine cw_keep [(0, .agg #[.bool sa, .slice Aa na ca]), (1, .agg #[.bool sb, .slice Ab nb cb])] ⟨rfl, rfl, trivial⟩ ?_
  refine cw_seq ?_
  -- region 0
  refine cw_region ?_
  refine wl_box rfl rfl (vs := [.bool sa, .slice Aa na ca]) rfl (by decide) fun g1 v2 nb => ?_
  have hb4 := nb.bk
  have ge5 : w.heap.size ≤ g1 := by rw [← nb.at_]; exact (Ext.refl w).size
  have e3 := nb.ext
  clear nb
  have hw1 : Ext w v2 := (Ext.refl w).trans e3
  refine wl_box rfl rfl (vs := [.bool sb, .slice Ab nb cb]) rfl (by decide) fun g6 v7 nb => ?_
  have hb9 := nb.bk
  have ge10 : w.heap.size ≤ g6 := by rw [← nb.at_]; exact hw1.size
  have q11 : g1 < g6 := by rw [← nb.at_]; exact hb4.lt
  have e8 := nb.ext
  clear nb
  have hw2 : Ext w v7 := hw1.trans e8
  refine wl_alloc rfl (z := .agg #[.bool false, .slice none 0 0]) (vs := [.bool false, .slice none 0 0]) (fun _ => by kernel_rfl) rfl (by decide) fun g12 v13 nb => ?_
  have hb15 := nb.bk
  have ge16 : w.heap.size ≤ g12 := by rw [← nb.at_]; exact hw2.size
  have q17 : g6 < g12 := by rw [← nb.at_]; exact hb9.lt
  have e14 := nb.ext
  clear nb
  have hw3 : Ext w v13 := hw2.trans e14
  refine wl_assign rfl rfl (by decide) ?_
  refine wl_nil ?_
  refine eo_then ?_
  refine cw_seq ?_
  -- region 1
  refine cw_region ?_
  refine wl_load rfl rfl (load_agg aggInt (hb4.ext (e8.trans e14)) [.bool sa, .slice Aa na ca] rfl (Nat.le_of_ble_eq_true rfl) rfl) (by decide) ?_
  refine wl_load rfl rfl (load_agg aggInt (hb9.ext e14) [.bool sb, .slice Ab nb cb] rfl (Nat.le_of_ble_eq_true rfl) rfl) (by decide) ?_
  have L18 : ln ((x).tdiv y) ≤ 17179869183 := Nat.le_trans (ln_tdiv _ _) Lx
  have L19 : ln ((x).tmod y) ≤ 17179869183 := Nat.le_trans (ln_tmod _ _) Lx
  refine wl_call rfl rfl (vs := [.agg #[.bool sa, .slice Aa na ca], .agg #[.bool sb, .slice Ab nb cb]]) (by kernel_rfl) (by decide) (g_ref5_Trunc hw3.size (hx.ext hw3) (Nat.le_trans la (by decide)) (hy.ext hw3) (Nat.le_trans lb (by decide)) h0) ?_
  rintro _ v20 ⟨xr22, rfl, r22, e21⟩
  refine ret_intro ?_
  have hw4 : Ext w v20 := hw3.trans e21
  obtain ⟨a23_0, a23_1, a23_2, rfl, r23_0, r23_1, r23_2⟩ := r22
  obtain ⟨s24, A24, n24, c24, rfl, z24⟩ := r23_0
  obtain ⟨s25, A25, n25, c25, rfl, z25⟩ := r23_1
  obtain rfl := r23_2
  refine wl_move rfl rfl (by decide) ?_
  refine wl_pure rfl rfl (v := .agg #[.bool s24, .slice A24 n24 c24]) (by decide) (by kernel_rfl) ?_
  refine wl_pure rfl rfl (v := .agg #[.bool s25, .slice A25 n25 c25]) (by decide) (by kernel_rfl) ?_
  refine wl_pure rfl rfl (v := .int .i64 0) (by decide) (by kernel_rfl) ?_
  refine wl_alloc rfl (z := .agg #[.bool false, .slice none 0 0]) (vs := [.bool false, .slice none 0 0]) (fun _ => by kernel_rfl) rfl (by decide) fun g26 v27 nb => ?_
  have hb29 := nb.bk
  have ge30 : w.heap.size ≤ g26 := by rw [← nb.at_]; exact hw4.size
  have q31 : g12 < g26 := by rw [← nb.at_]; exact (hb15.ext e21).lt
  have e28 := nb.ext
  clear nb
  have hw5 : Ext w v27 := hw4.trans e28
  refine wl_alloc rfl (z := .agg #[.bool false, .slice none 0 0]) (vs := [.bool false, .slice none 0 0]) (fun _ => by kernel_rfl) rfl (by decide) fun g32 v33 nb => ?_
  have hb35 := nb.bk
  have ge36 : w.heap.size ≤ g32 := by rw [← nb.at_]; exact hw5.size
  have q37 : g26 < g32 := by rw [← nb.at_]; exact hb29.lt
  have e34 := nb.ext
  clear nb
  have hw6 : Ext w v33 := hw5.trans e34
  have hb39 := (hb29.ext e34)
  refine wl_stored rfl rfl rfl aggInt rfl hb39 (Nat.le_of_ble_eq_true rfl) rfl [.bool s24, .slice A24 n24 c24] rfl fun v38 hb40 u41 hs42 => ?_
  have hw7 : Ext w v38 := u41.ext hw6 ge30
  have hb44 := (hb35.updN u41 (by omega))
  refine wl_stored rfl rfl rfl aggInt rfl hb44 (Nat.le_of_ble_eq_true rfl) rfl [.bool s25, .slice A25 n25 c25] rfl fun v43 hb45 u46 hs47 => ?_
  have hw8 : Ext w v43 := u46.ext hw7 ge36
  refine wl_assign rfl rfl (by decide) ?_
  refine wl_nil ?_
  refine eo_then ?_
  refine cw_seq ?_
  refine cw_seq ?_
  -- region 2
  refine cw_region ?_
  refine wl_move rfl rfl (by decide) ?_
  refine wl_pure rfl rfl (v := .bool false) (by decide) (by kernel_rfl) ?_
  refine wl_nil ?_
  refine eo_then ?_
  refine cw_false rfl ?_
  refine cw_skip ?_
  refine eo_then ?_
  refine cw_seq ?_
  refine cw_seq ?_
  -- region 4
  refine cw_region ?_
  refine wl_load rfl rfl (load_agg aggInt hb45 [.bool s25, .slice A25 n25 c25] rfl (Nat.le_of_ble_eq_true rfl) rfl) (by decide) ?_
  refine wl_call rfl rfl (vs := [.agg #[.bool s25, .slice A25 n25 c25]]) (by kernel_rfl) (by decide) (g_ref5_Sign (((z25.ext (e28.trans e34)).updT hb39 u41).updT hb44 u46).zi (z25.le (Nat.le_trans L19 (by decide)))) ?_
  rintro _ v48 ⟨xr50, rfl, r50, e49⟩
  refine ret_intro ?_
  have hw9 : Ext w v48 := hw8.trans e49
  obtain rfl := r50
  refine wl_cmp rfl rfl rfl false (scmp_ne_f (tmod_zero_iff.2 h1)) (by decide) ?_
  refine wl_nil ?_
  refine eo_then ?_
  refine cw_false rfl ?_
  refine cw_skip ?_
  refine eo_then ?_
  refine cw_seq ?_
  -- region 6
  refine cw_region ?_
  refine wl_load rfl rfl (load_agg aggInt ((hb40.updN u46 (by omega)).ext e49) [.bool s24, .slice A24 n24 c24] rfl (Nat.le_of_ble_eq_true rfl) rfl) (by decide) ?_
  have hb52 := ((((hb15.ext (e21.trans (e28.trans e34))).updN u41 (by omega)).updN u46 (by omega)).ext e49)
  refine wl_stored rfl rfl rfl aggInt rfl hb52 (Nat.le_of_ble_eq_true rfl) rfl [.bool s24, .slice A24 n24 c24] rfl fun v51 hb53 u54 hs55 => ?_
  have hw10 : Ext w v51 := u54.ext hw9 ge16
  refine wl_assign rfl rfl (by decide) ?_
  refine wl_nil ?_
  refine eo_then ?_
  refine cw_ret ?_
  refine eo_ret [.agg #[.bool s24, .slice A24 n24 c24], .int .i64 0] rfl ⟨⟨_, rfl, load_agg aggInt hb53 [.bool s24, .slice A24 n24 c24] rfl (Nat.le_of_ble_eq_true rfl) rfl⟩, rfl, trivial⟩ ?_
  exact ⟨_, rfl, ⟨_, _, rfl, ⟨_, _, _, _, rfl, (((((z24.ext (e28.trans e34)).updT hb39 u41).updT hb44 u46).ext e49).updT hb52 u54)⟩, rfl⟩, hw10⟩
theorem g_ref5_Exact_ok {w : World} {sa : Bool} {Aa : Option Addr} {na ca : Nat} {x : Int} {sb : Bool} {Ab : Option Addr} {nb cb : Nat} {y : Int} {b : Nat} (hb : b ≤ w.heap.size)  (hx : Zi w sa Aa na ca x) (la : na ≤ 17179869183) (hy : Zi w sb Ab nb cb y) (lb : nb ≤ 17179869183) (h0 : y ≠ 0) (h1 : x.natAbs % y.natAbs = 0) :
    Calls Try.prog 44 #[.agg #[.bool sa, .slice Aa na ca], .agg #[.bool sb, .slice Ab nb cb]] w (Gv w (T2 (ZR b (x.tdiv y)) (Is (.int .i64 0)))) := (g_ref5_Exact_okI hx la hy lb h0 h1).mono (Gv.imp (T2.imp (ZR.imp hb) Is.imp))
set_option maxHeartbeats 4000000 in
theorem g_ref5_Exact_notI {w : World} {sa : Bool} {Aa : Option Addr} {na ca : Nat} {x : Int} {sb : Bool} {Ab : Option Addr} {nb cb : Nat} {y : Int} (hx : Zi w sa Aa na ca x) (la : na ≤ 17179869183) (hy : Zi w sb Ab nb cb y) (lb : nb ≤ 17179869183) (h0 : y ≠ 0) (h1 : x.natAbs % y.natAbs ≠ 0) :
    Calls Try.prog 44 #[.agg #[.bool sa, .slice Aa na ca], .agg #[.bool sb, .slice Ab nb cb]] w (Gv w (T2 (ZR w.heap.size (0)) (Is (.int .i64 8)))) := by
  have Lx : ln x ≤ 17179869183 := Nat.le_trans hx.ln la
  have Ly : ln y ≤ 17179869183 := Nat.le_trans hy.ln lb
  refine sx_enter Try.func44 rfl (n := 25) rfl (Nat.le_of_ble_eq_true rfl) (args := [.agg #[.bool sa, .slice Aa na ca], .agg #[.bool sb, .slice Ab nb cb]]) ?_
  refine cw_keep [(0, .agg #[.bool sa, .slice Aa na ca]), (1, .agg #[.bool sb, .slice Ab nb cb])] ⟨rfl, rfl, trivial⟩ ?_
  refine cw_seq ?_
  -- region 0
  refine cw_region ?_
  refine wl_box rfl rfl (vs := [.bool sa, .slice Aa na ca]) rfl (by decide) fun g1 v2 nb => ?_
  have hb4 := nb.bk
  have ge5 : w.heap.size ≤ g1 := by rw [← nb.at_]; exact (Ext.refl w).size
  have e3 := nb.ext
  clear nb
  have hw1 : Ext w v2 := (Ext.refl w).trans e3
  refine wl_box rfl rfl (vs := [.bool sb, .slice Ab nb cb]) rfl (by decide) fun g6 v7 nb => ?_
  have hb9 := nb.bk
  have ge10 : w.heap.size ≤ g6 := by rw [← nb.at_]; exact hw1.size
  have q11 : g1 < g6 := by rw [← nb.at_]; exact hb4.lt
  have e8 := nb.ext
  clear nb
  have hw2 : Ext w v7 := hw1.trans e8
  refine wl_alloc rfl (z := .agg #[.bool false, .slice none 0 0]) (vs := [.bool false, .slice none 0 0]) (fun _ => by kernel_rfl) rfl (by decide) fun g12 v13 nb => ?_
  have hb15 := nb.bk
  have ge16 : w.heap.size ≤ g12 := by rw [← nb.at_]; exact hw2.size
  have q17 : g6 < g12 := by rw [← nb.at_]; exact hb9.lt
  have e14 := nb.ext
  clear nb
  have hw3 : Ext w v13 := hw2.trans e14
  refine wl_assign rfl rfl (by decide) ?_
  refine wl_nil ?_
  refine eo_then ?_
  refine cw_seq ?_
  -- region 1
  refine cw_region ?_
  refine wl_load rfl rfl (load_agg aggInt (hb4.ext (e8.trans e14)) [.bool sa, .slice Aa na ca] rfl (Nat.le_of_ble_eq_true rfl) rfl) (by decide) ?_
  refine wl_load rfl rfl (load_agg aggInt (hb9.ext e14) [.bool sb, .slice Ab nb cb] rfl (Nat.le_of_ble_eq_true rfl) rfl) (by decide) ?_
  have L18 : ln ((x).tdiv y) ≤ 17179869183 := Nat.le_trans (ln_tdiv _ _) Lx
  have L19 : ln ((x).tmod y) ≤ 17179869183 := Nat.le_trans (ln_tmod _ _) Lx
  refine wl_call rfl rfl (vs := [.agg #[.bool sa, .slice Aa na ca], .agg #[.bool sb, .slice Ab nb cb]]) (by kernel_rfl) (by decide) (g_ref5_Trunc hw3.size (hx.ext hw3) (Nat.le_trans la (by decide)) (hy.ext hw3) (Nat.le_trans lb (by decide)) h0) ?_
  rintro _ v20 ⟨xr22, rfl, r22, e21⟩
  refine ret_intro ?_
  have hw4 : Ext w v20 := hw3.trans e21
  obtain ⟨a23_0, a23_1, a23_2, rfl, r23_0, r23_1, r23_2⟩ := r22
  obtain ⟨s24, A24, n24, c24, rfl, z24⟩ := r23_0
  obtain ⟨s25, A25, n25, c25, rfl, z25⟩ := r23_1
  obtain rfl := r23_2
  refine wl_move rfl rfl (by decide) ?_
  refine wl_pure rfl rfl (v := .agg #[.bool s24, .slice A24 n24 c24]) (by decide) (by kernel_rfl) ?_
  refine wl_pure rfl rfl (v := .agg #[.bool s25, .slice A25 n25 c25]) (by decide) (by kernel_rfl) ?_
  refine wl_pure rfl rfl (v := .int .i64 0) (by decide) (by kernel_rfl) ?_
  refine wl_alloc rfl (z := .agg #[.bool false, .slice none 0 0]) (vs := [.bool false, .slice none 0 0]) (fun _ => by kernel_rfl) rfl (by decide) fun g26 v27 nb => ?_
  have hb29 := nb.bk
  have ge30 : w.heap.size ≤ g26 := by rw [← nb.at_]; exact hw4.size
  have q31 : g12 < g26 := by rw [← nb.at_]; exact (hb15.ext e21).lt
  have e28 := nb.ext
  clear nb
  have hw5 : Ext w v27 := hw4.trans e28
  refine wl_alloc rfl (z := .agg #[.bool false, .slice none 0 0]) (vs := [.bool false, .slice none 0 0]) (fun _ => by kernel_rfl) rfl (by decide) fun g32 v33 nb => ?_
  have hb35 := nb.bk
  have ge36 : w.heap.size ≤ g32 := by rw [← nb.at_]; exact hw5.size
  have q37 : g26 < g32 := by rw [← nb.at_]; exact hb29.lt
  have e34 := nb.ext
  clear nb
  have hw6 : Ext w v33 := hw5.trans e34
  have hb39 := (hb29.ext e34)
  refine wl_stored rfl rfl rfl aggInt rfl hb39 (Nat.le_of_ble_eq_true rfl) rfl [.bool s24, .slice A24 n24 c24] rfl fun v38 hb40 u41 hs42 => ?_
  have hw7 : Ext w v38 := u41.ext hw6 ge30
  have hb44 := (hb35.updN u41 (by omega))
  refine wl_stored rfl rfl rfl aggInt rfl hb44 (Nat.le_of_ble_eq_true rfl) rfl [.bool s25, .slice A25 n25 c25] rfl fun v43 hb45 u46 hs47 => ?_
  have hw8 : Ext w v43 := u46.ext hw7 ge36
  refine wl_assign rfl rfl (by decide) ?_
  refine wl_nil ?_
  refine eo_then ?_
  refine cw_seq ?_
  refine cw_seq ?_
  -- region 2
  refine cw_region ?_
  refine wl_move rfl rfl (by decide) ?_
  refine wl_pure rfl rfl (v := .bool false) (by decide) (by kernel_rfl) ?_
  refine wl_nil ?_
  refine eo_then ?_
  refine cw_false rfl ?_
  refine cw_skip ?_
  refine eo_then ?_
  refine cw_seq ?_
  refine cw_seq ?_
  -- region 4
  refine cw_region ?_
  refine wl_load rfl rfl (load_agg aggInt hb45 [.bool s25, .slice A25 n25 c25] rfl (Nat.le_of_ble_eq_true rfl) rfl) (by decide) ?_
  refine wl_call rfl rfl (vs := [.agg #[.bool s25, .slice A25 n25 c25]]) (by kernel_rfl) (by decide) (g_ref5_Sign (((z25.ext (e28.trans e34)).updT hb39 u41).updT hb44 u46).zi (z25.le (Nat.le_trans L19 (by decide)))) ?_
  rintro _ v48 ⟨xr50, rfl, r50, e49⟩
  refine ret_intro ?_
  have hw9 : Ext w v48 := hw8.trans e49
  obtain rfl := r50
  refine wl_cmp rfl rfl rfl true (scmp_ne_t (fun e => h1 (tmod_zero_iff.1 e))) (by decide) ?_
  refine wl_nil ?_
  refine eo_then ?_
  refine cw_true rfl ?_
  refine cw_seq ?_
  -- region 5
  refine cw_region ?_
  refine wl_pure rfl rfl (v := .agg #[.bool false, .slice none 0 0]) (by decide) (by kernel_rfl) ?_
  have hb52 := ((((hb15.ext (e21.trans (e28.trans e34))).updN u41 (by omega)).updN u46 (by omega)).ext e49)
  refine wl_stored rfl rfl rfl aggInt rfl hb52 (Nat.le_of_ble_eq_true rfl) rfl [.bool false, .slice none 0 0] rfl fun v51 hb53 u54 hs55 => ?_
  have hw10 : Ext w v51 := u54.ext hw9 ge16
  refine wl_assign rfl rfl (by decide) ?_
  refine wl_nil ?_
  refine eo_then ?_
  refine cw_ret ?_
  refine eo_thenR ?_
  refine eo_ret [.agg #[.bool false, .slice none 0 0], .int .i64 8] rfl ⟨⟨_, rfl, load_agg aggInt hb53 [.bool false, .slice none 0 0] rfl (Nat.le_of_ble_eq_true rfl) rfl⟩, rfl, trivial⟩ ?_
  exact ⟨_, rfl, ⟨_, _, rfl, ⟨_, _, _, _, rfl, ((Zr.zero (w := v48) (base := w.heap.size)).updT hb52 u54)⟩, rfl⟩, hw10⟩
theorem g_ref5_Exact_not {w : World} {sa : Bool} {Aa : Option Addr} {na ca : Nat} {x : Int} {sb : Bool} {Ab : Option Addr} {nb cb : Nat} {y : Int} {b : Nat} (hb : b ≤ w.heap.size)  (hx : Zi w sa Aa na ca x) (la : na ≤ 17179869183) (hy : Zi w sb Ab nb cb y) (lb : nb ≤ 17179869183) (h0 : y ≠ 0) (h1 : x.natAbs % y.natAbs ≠ 0) :
    Calls Try.prog 44 #[.agg #[.bool sa, .slice Aa na ca], .agg #[.bool sb, .slice Ab nb cb]] w (Gv w (T2 (ZR b (0)) (Is (.int .i64 8)))) := (g_ref5_Exact_notI hx la hy lb h0 h1).mono (Gv.imp (T2.imp (ZR.imp hb) Is.imp))
set_option maxHeartbeats 4000000 in
theorem g_ref5_Exact_badI {w : World} {sa : Bool} {Aa : Option Addr} {na ca : Nat} {x : Int} {sb : Bool} {Ab : Option Addr} {nb cb : Nat} {y : Int} (hx : Zi w sa Aa na ca x) (la : na ≤ 17179869183) (hy : Zi w sb Ab nb cb y) (lb : nb ≤ 17179869183) (h0 : y = 0) :
    Calls Try.prog 44 #[.agg #[.bool sa, .slice Aa na ca], .agg #[.bool sb, .slice Ab nb cb]] w (Gv w (T2 (ZR w.heap.size (0)) (Is (.int .i64 4)))) := by
  have Lx : ln x ≤ 17179869183 := Nat.le_trans hx.ln la
  have Ly : ln y ≤ 17179869183 := Nat.le_trans hy.ln lb
  refine sx_enter Try.func44 rfl (n := 25) rfl (Nat.le_of_ble_eq_true rfl) (args := [.agg #[.bool sa, .slice Aa na ca], .agg #[.bool sb, .slice Ab nb cb]]) ?_
  refine cw_keep [(0, .agg #[.bool sa, .slice Aa na ca]), (1, .agg #[.bool sb, .slice Ab nb cb])] ⟨rfl, rfl, trivial⟩ ?_
  refine cw_seq ?_
  -- region 0
  refine cw_region ?_
  refine wl_box rfl rfl (vs := [.bool sa, .slice Aa na ca]) rfl (by decide) fun g1 v2 nb => ?_
  have hb4 := nb.bk
  have ge5 : w.heap.size ≤ g1 := by rw [← nb.at_]; exact (Ext.refl w).size
  have e3 := nb.ext
  clear nb
  have hw1 : Ext w v2 := (Ext.refl w).trans e3
  refine wl_box rfl rfl (vs := [.bool sb, .slice Ab nb cb]) rfl (by decide) fun g6 v7 nb => ?_
  have hb9 := nb.bk
  have ge10 : w.heap.size ≤ g6 := by rw [← nb.at_]; exact hw1.size
  have q11 : g1 < g6 := by rw [← nb.at_]; exact hb4.lt
  have e8 := nb.ext
  clear nb
  have hw2 : Ext w v7 := hw1.trans e8
  refine wl_alloc rfl (z := .agg #[.bool false, .slice none 0 0]) (vs := [.bool false, .slice none 0 0]) (fun _ => by kernel_rfl) rfl (by decide) fun g12 v13 nb => ?_
  have hb15 := nb.bk
  have ge16 : w.heap.size ≤ g12 := by rw [← nb.at_]; exact hw2.size
  have q17 : g6 < g12 := by rw [← nb.at_]; exact hb9.lt
  have e14 := nb.ext
  clear nb
  have hw3 : Ext w v13 := hw2.trans e14
  refine wl_assign rfl rfl (by decide) ?_
  refine wl_nil ?_
  refine eo_then ?_
  refine cw_seq ?_
  -- region 1
  refine cw_region ?_
  refine wl_load rfl rfl (load_agg aggInt (hb4.ext (e8.trans e14)) [.bool sa, .slice Aa na ca] rfl (Nat.le_of_ble_eq_true rfl) rfl) (by decide) ?_
  refine wl_load rfl rfl (load_agg aggInt (hb9.ext e14) [.bool sb, .slice Ab nb cb] rfl (Nat.le_of_ble_eq_true rfl) rfl) (by decide) ?_
  refine wl_call rfl rfl (vs := [.agg #[.bool sa, .slice Aa na ca], .agg #[.bool sb, .slice Ab nb cb]]) (by kernel_rfl) (by decide) (g_ref5_Trunc_bad hw3.size (hx.ext hw3) (Nat.le_trans la (by decide)) (hy.ext hw3) (Nat.le_trans lb (by decide)) h0) ?_
  rintro _ v18 ⟨xr20, rfl, r20, e19⟩
  refine ret_intro ?_
  have hw4 : Ext w v18 := hw3.trans e19
  obtain ⟨a21_0, a21_1, a21_2, rfl, r21_0, r21_1, r21_2⟩ := r20
  obtain ⟨s22, A22, n22, c22, rfl, z22⟩ := r21_0
  obtain ⟨s23, A23, n23, c23, rfl, z23⟩ := r21_1
  obtain rfl := r21_2
  refine wl_move rfl rfl (by decide) ?_
  refine wl_pure rfl rfl (v := .agg #[.bool s22, .slice A22 n22 c22]) (by decide) (by kernel_rfl) ?_
  refine wl_pure rfl rfl (v := .agg #[.bool s23, .slice A23 n23 c23]) (by decide) (by kernel_rfl) ?_
  refine wl_pure rfl rfl (v := .int .i64 4) (by decide) (by kernel_rfl) ?_
  refine wl_alloc rfl (z := .agg #[.bool false, .slice none 0 0]) (vs := [.bool false, .slice none 0 0]) (fun _ => by kernel_rfl) rfl (by decide) fun g24 v25 nb => ?_
  have hb27 := nb.bk
  have ge28 : w.heap.size ≤ g24 := by rw [← nb.at_]; exact hw4.size
  have q29 : g12 < g24 := by rw [← nb.at_]; exact (hb15.ext e19).lt
  have e26 := nb.ext
  clear nb
  have hw5 : Ext w v25 := hw4.trans e26
  refine wl_alloc rfl (z := .agg #[.bool false, .slice none 0 0]) (vs := [.bool false, .slice none 0 0]) (fun _ => by kernel_rfl) rfl (by decide) fun g30 v31 nb => ?_
  have hb33 := nb.bk
  have ge34 : w.heap.size ≤ g30 := by rw [← nb.at_]; exact hw5.size
  have q35 : g24 < g30 := by rw [← nb.at_]; exact hb27.lt
  have e32 := nb.ext
  clear nb
  have hw6 : Ext w v31 := hw5.trans e32
  have hb37 := (hb27.ext e32)
  refine wl_stored rfl rfl rfl aggInt rfl hb37 (Nat.le_of_ble_eq_true rfl) rfl [.bool s22, .slice A22 n22 c22] rfl fun v36 hb38 u39 hs40 => ?_
  have hw7 : Ext w v36 := u39.ext hw6 ge28
  have hb42 := (hb33.updN u39 (by omega))
  refine wl_stored rfl rfl rfl aggInt rfl hb42 (Nat.le_of_ble_eq_true rfl) rfl [.bool s23, .slice A23 n23 c23] rfl fun v41 hb43 u44 hs45 => ?_
  have hw8 : Ext w v41 := u44.ext hw7 ge34
  refine wl_assign rfl rfl (by decide) ?_
  refine wl_nil ?_
  refine eo_then ?_
  refine cw_seq ?_
  refine cw_seq ?_
  -- region 2
  refine cw_region ?_
  refine wl_move rfl rfl (by decide) ?_
  refine wl_pure rfl rfl (v := .bool true) (by decide) (by kernel_rfl) ?_
  refine wl_nil ?_
  refine eo_then ?_
  refine cw_true rfl ?_
  refine cw_seq ?_
  -- region 3
  refine cw_region ?_
  refine wl_pure rfl rfl (v := .agg #[.bool false, .slice none 0 0]) (by decide) (by kernel_rfl) ?_
  refine wl_move rfl rfl (by decide) ?_
  have hb47 := (((hb15.ext (e19.trans (e26.trans e32))).updN u39 (by omega)).updN u44 (by omega))
  refine wl_stored rfl rfl rfl aggInt rfl hb47 (Nat.le_of_ble_eq_true rfl) rfl [.bool false, .slice none 0 0] rfl fun v46 hb48 u49 hs50 => ?_
  have hw9 : Ext w v46 := u49.ext hw8 ge16
  refine wl_assign rfl rfl (by decide) ?_
  refine wl_nil ?_
  refine eo_then ?_
  refine cw_ret ?_
  refine eo_thenR ?_
  refine eo_ret [.agg #[.bool false, .slice none 0 0], .int .i64 4] rfl ⟨⟨_, rfl, load_agg aggInt hb48 [.bool false, .slice none 0 0] rfl (Nat.le_of_ble_eq_true rfl) rfl⟩, rfl, trivial⟩ ?_
  exact ⟨_, rfl, ⟨_, _, rfl, ⟨_, _, _, _, rfl, ((Zr.zero (w := v41) (base := w.heap.size)).updT hb47 u49)⟩, rfl⟩, hw9⟩
theorem g_ref5_Exact_bad {w : World} {sa : Bool} {Aa : Option Addr} {na ca : Nat} {x : Int} {sb : Bool} {Ab : Option Addr} {nb cb : Nat} {y : Int} {b : Nat} (hb : b ≤ w.heap.size)  (hx : Zi w sa Aa na ca x) (la : na ≤ 17179869183) (hy : Zi w sb Ab nb cb y) (lb : nb ≤ 17179869183) (h0 : y = 0) :
    Calls Try.prog 44 #[.agg #[.bool sa, .slice Aa na ca], .agg #[.bool sb, .slice Ab nb cb]] w (Gv w (T2 (ZR b (0)) (Is (.int .i64 4)))) := (g_ref5_Exact_badI hx la hy lb h0).mono (Gv.imp (T2.imp (ZR.imp hb) Is.imp))

set_option maxHeartbeats 4000000 in
theorem g_ref5_Of_m1I {w : World}  :
    Calls Try.prog 43 #[.int .i64 (-1)] w (Gv w (ZR w.heap.size (-1))) := by
  refine sx_enter Try.func43 rfl (n := 14) rfl (Nat.le_of_ble_eq_true rfl) (args := [.int .i64 (-1)]) ?_
  refine cw_keep [(0, .int .i64 (-1))] ⟨rfl, trivial⟩ ?_
  refine cw_seq ?_
  -- region 0
  refine cw_region ?_
  refine wl_alloc rfl (z := .agg #[.bool false, .slice none 0 0]) (vs := [.bool false, .slice none 0 0]) (fun _ => by kernel_rfl) rfl (by decide) fun g1 v2 nb => ?_
  have hb4 := nb.bk
  have ge5 : w.heap.size ≤ g1 := by rw [← nb.at_]; exact (Ext.refl w).size
  have e3 := nb.ext
  clear nb
  have hw1 : Ext w v2 := (Ext.refl w).trans e3
  refine wl_nil ?_
  refine eo_then ?_
  refine cw_seq ?_
  refine cw_seq ?_
  -- region 1
  refine cw_region ?_
  refine wl_move rfl rfl (by decide) ?_
  refine wl_pure rfl rfl (v := .bool true) (by decide) (by kernel_rfl) ?_
  refine wl_nil ?_
  refine eo_then ?_
  refine cw_true rfl ?_
  refine cw_seq ?_
  -- region 2
  refine cw_region ?_
  refine wl_move rfl rfl (by decide) ?_
  refine wl_pure rfl rfl (v := .int .i64 1) (by decide) (by kernel_rfl) ?_
  refine wl_pure rfl rfl (v := .int .u64 1) (by decide) (by kernel_rfl) ?_
  refine wl_bslice rfl rfl (by decide) (k := 1) (e := 47) [.int .u64 1] (fun _ => by kernel_rfl) fun g6 v7 nb8 => ?_
  have o9 := O1.mk_ (x := 1) (b := w.heap.size) nb8 hw1.size
  have e10 := nb8.ext
  have hw2 : Ext w v7 := hw1.trans e10
  have o12 := own1_wd o9 (by decide : 1 ≤ 18446744073709551615) (by decide : 1 ≠ 0)
  have j11 := len1 (by decide : 1 ≤ 18446744073709551615) (by decide : 1 ≠ 0)
  have L13 : ln (sg true 1) ≤ 1 := by rw [ln_sg]; exact (Nat.le_of_eq j11.symm)
  refine wl_call rfl rfl (vs := [.bool true, .slice (some ⟨g6, 0, none⟩) 1 1]) (by kernel_rfl) (by decide) (g_ref5_made hw2.size o12.wi (by rw [j11]; exact Nat.le_trans (Nat.le_of_eq j11.symm) (by decide))) ?_
  rintro _ v14 ⟨xr16, rfl, r16, e15⟩
  refine ret_intro ?_
  have hw3 : Ext w v14 := hw2.trans e15
  obtain ⟨s17, A17, n17, c17, rfl, z17⟩ := r16
  have hb19 := (hb4.ext (e10.trans e15))
  refine wl_stored rfl rfl rfl aggInt rfl hb19 (Nat.le_of_ble_eq_true rfl) rfl [.bool s17, .slice A17 n17 c17] rfl fun v18 hb20 u21 hs22 => ?_
  have hw4 : Ext w v18 := u21.ext hw3 ge5
  refine wl_nil ?_
  refine eo_then ?_
  refine cw_ret ?_
  refine eo_thenR ?_
  refine eo_ret [.agg #[.bool s17, .slice A17 n17 c17]] rfl ⟨⟨_, rfl, load_agg aggInt hb20 [.bool s17, .slice A17 n17 c17] rfl (Nat.le_of_ble_eq_true rfl) rfl⟩, trivial⟩ ?_
  exact ⟨_, rfl, ⟨_, _, _, _, rfl, ((z17.updT hb19 u21)).cast (rfl)⟩, hw4⟩
theorem g_ref5_Of_m1 {w : World} {b : Nat} (hb : b ≤ w.heap.size)   :
    Calls Try.prog 43 #[.int .i64 (-1)] w (Gv w (ZR b (-1))) := (g_ref5_Of_m1I ).mono (Gv.imp (ZR.imp hb))
set_option maxHeartbeats 4000000 in
theorem g_ref5_Of_zI {w : World}  :
    Calls Try.prog 43 #[.int .i64 0] w (Gv w (ZR w.heap.size (0))) := by
  refine sx_enter Try.func43 rfl (n := 14) rfl (Nat.le_of_ble_eq_true rfl) (args := [.int .i64 0]) ?_
  refine cw_keep [(0, .int .i64 0)] ⟨rfl, trivial⟩ ?_
  refine cw_seq ?_
  -- region 0
  refine cw_region ?_
  refine wl_alloc rfl (z := .agg #[.bool false, .slice none 0 0]) (vs := [.bool false, .slice none 0 0]) (fun _ => by kernel_rfl) rfl (by decide) fun g1 v2 nb => ?_
  have hb4 := nb.bk
  have ge5 : w.heap.size ≤ g1 := by rw [← nb.at_]; exact (Ext.refl w).size
  have e3 := nb.ext
  clear nb
  have hw1 : Ext w v2 := (Ext.refl w).trans e3
  refine wl_nil ?_
  refine eo_then ?_
  refine cw_seq ?_
  refine cw_seq ?_
  -- region 1
  refine cw_region ?_
  refine wl_move rfl rfl (by decide) ?_
  refine wl_pure rfl rfl (v := .bool false) (by decide) (by kernel_rfl) ?_
  refine wl_nil ?_
  refine eo_then ?_
  refine cw_false rfl ?_
  refine cw_skip ?_
  refine eo_then ?_
  refine cw_seq ?_
  -- region 3
  refine cw_region ?_
  refine wl_move rfl rfl (by decide) ?_
  refine wl_pure rfl rfl (v := .int .u64 0) (by decide) (by kernel_rfl) ?_
  refine wl_bslice rfl rfl (by decide) (k := 1) (e := 47) [.int .u64 0] (fun _ => by kernel_rfl) fun g6 v7 nb8 => ?_
  have o9 := O1.mk_ (x := 0) (b := w.heap.size) nb8 hw1.size
  have e10 := nb8.ext
  have hw2 : Ext w v7 := hw1.trans e10
  have L13 : ln (sg false 0) ≤ 1 := by rw [ln_sg]; exact (show (wd 0).length ≤ 1 by decide)
  refine wl_call rfl rfl (vs := [.bool false, .slice (some ⟨g6, 0, none⟩) 1 1]) (by kernel_rfl) (by decide) (g_ref5_made hw2.size (own1_wi o9 (by decide : 0 ≤ 18446744073709551615)) (by decide)) ?_
  rintro _ v14 ⟨xr16, rfl, r16, e15⟩
  refine ret_intro ?_
  have hw3 : Ext w v14 := hw2.trans e15
  obtain ⟨s17, A17, n17, c17, rfl, z17⟩ := r16
  have hb19 := (hb4.ext (e10.trans e15))
  refine wl_stored rfl rfl rfl aggInt rfl hb19 (Nat.le_of_ble_eq_true rfl) rfl [.bool s17, .slice A17 n17 c17] rfl fun v18 hb20 u21 hs22 => ?_
  have hw4 : Ext w v18 := u21.ext hw3 ge5
  refine wl_nil ?_
  refine eo_then ?_
  refine cw_ret ?_
  refine eo_ret [.agg #[.bool s17, .slice A17 n17 c17]] rfl ⟨⟨_, rfl, load_agg aggInt hb20 [.bool s17, .slice A17 n17 c17] rfl (Nat.le_of_ble_eq_true rfl) rfl⟩, trivial⟩ ?_
  exact ⟨_, rfl, ⟨_, _, _, _, rfl, ((z17.updT hb19 u21)).cast (rfl)⟩, hw4⟩
theorem g_ref5_Of_z {w : World} {b : Nat} (hb : b ≤ w.heap.size)   :
    Calls Try.prog 43 #[.int .i64 0] w (Gv w (ZR b (0))) := (g_ref5_Of_zI ).mono (Gv.imp (ZR.imp hb))
set_option maxHeartbeats 4000000 in
theorem g_ref5_Of_p1I {w : World}  :
    Calls Try.prog 43 #[.int .i64 1] w (Gv w (ZR w.heap.size (1))) := by
  refine sx_enter Try.func43 rfl (n := 14) rfl (Nat.le_of_ble_eq_true rfl) (args := [.int .i64 1]) ?_
  refine cw_keep [(0, .int .i64 1)] ⟨rfl, trivial⟩ ?_
  refine cw_seq ?_
  -- region 0
  refine cw_region ?_
  refine wl_alloc rfl (z := .agg #[.bool false, .slice none 0 0]) (vs := [.bool false, .slice none 0 0]) (fun _ => by kernel_rfl) rfl (by decide) fun g1 v2 nb => ?_
  have hb4 := nb.bk
  have ge5 : w.heap.size ≤ g1 := by rw [← nb.at_]; exact (Ext.refl w).size
  have e3 := nb.ext
  clear nb
  have hw1 : Ext w v2 := (Ext.refl w).trans e3
  refine wl_nil ?_
  refine eo_then ?_
  refine cw_seq ?_
  refine cw_seq ?_
  -- region 1
  refine cw_region ?_
  refine wl_move rfl rfl (by decide) ?_
  refine wl_pure rfl rfl (v := .bool false) (by decide) (by kernel_rfl) ?_
  refine wl_nil ?_
  refine eo_then ?_
  refine cw_false rfl ?_
  refine cw_skip ?_
  refine eo_then ?_
  refine cw_seq ?_
  -- region 3
  refine cw_region ?_
  refine wl_move rfl rfl (by decide) ?_
  refine wl_pure rfl rfl (v := .int .u64 1) (by decide) (by kernel_rfl) ?_
  refine wl_bslice rfl rfl (by decide) (k := 1) (e := 47) [.int .u64 1] (fun _ => by kernel_rfl) fun g6 v7 nb8 => ?_
  have o9 := O1.mk_ (x := 1) (b := w.heap.size) nb8 hw1.size
  have e10 := nb8.ext
  have hw2 : Ext w v7 := hw1.trans e10
  have o12 := own1_wd o9 (by decide : 1 ≤ 18446744073709551615) (by decide : 1 ≠ 0)
  have j11 := len1 (by decide : 1 ≤ 18446744073709551615) (by decide : 1 ≠ 0)
  have L13 : ln (sg false 1) ≤ 1 := by rw [ln_sg]; exact (Nat.le_of_eq j11.symm)
  refine wl_call rfl rfl (vs := [.bool false, .slice (some ⟨g6, 0, none⟩) 1 1]) (by kernel_rfl) (by decide) (g_ref5_made hw2.size o12.wi (by rw [j11]; exact Nat.le_trans (Nat.le_of_eq j11.symm) (by decide))) ?_
  rintro _ v14 ⟨xr16, rfl, r16, e15⟩
  refine ret_intro ?_
  have hw3 : Ext w v14 := hw2.trans e15
  obtain ⟨s17, A17, n17, c17, rfl, z17⟩ := r16
  have hb19 := (hb4.ext (e10.trans e15))
  refine wl_stored rfl rfl rfl aggInt rfl hb19 (Nat.le_of_ble_eq_true rfl) rfl [.bool s17, .slice A17 n17 c17] rfl fun v18 hb20 u21 hs22 => ?_
  have hw4 : Ext w v18 := u21.ext hw3 ge5
  refine wl_nil ?_
  refine eo_then ?_
  refine cw_ret ?_
  refine eo_ret [.agg #[.bool s17, .slice A17 n17 c17]] rfl ⟨⟨_, rfl, load_agg aggInt hb20 [.bool s17, .slice A17 n17 c17] rfl (Nat.le_of_ble_eq_true rfl) rfl⟩, trivial⟩ ?_
  exact ⟨_, rfl, ⟨_, _, _, _, rfl, ((z17.updT hb19 u21)).cast (rfl)⟩, hw4⟩
theorem g_ref5_Of_p1 {w : World} {b : Nat} (hb : b ≤ w.heap.size)   :
    Calls Try.prog 43 #[.int .i64 1] w (Gv w (ZR b (1))) := (g_ref5_Of_p1I ).mono (Gv.imp (ZR.imp hb))
theorem g_ref5_Of_sgn {w : World} {b : Nat} (hb : b ≤ w.heap.size) (x : Int) : Calls Try.prog 43 #[.int .i64 (scmp x 0)] w (Gv w (ZR b (scmp x 0))) := by
  rcases Int.lt_trichotomy x 0 with h | h | h
  · rw [scmp_m1 h]; exact g_ref5_Of_m1 hb
  · rw [scmp_z h]; exact g_ref5_Of_z hb
  · rw [scmp_p1 h]; exact g_ref5_Of_p1 hb

end Go.Proofs.Ytmaconeeonkdgaa

/- bezout.Inverse -/
namespace Go.Proofs.Ytmaconeeonkdgaa
open Go.RowKit

theorem Bez.ln_u {x y u v : Int} {N : Nat} (h : Bez x y u v) (hx : ln x ≤ N) (hy : ln y ≤ N) : ln u ≤ N + 1 := by
  by_cases h0 : y = 0
  · rw [(h.zero h0).1]
    refine Nat.le_trans (ln_w1 (x := x.sign) ?_ ?_) (by omega) <;> (rcases Int.lt_trichotomy x 0 with h | h | h <;> simp [Int.sign_eq_neg_one_of_neg, Int.sign_eq_one_of_pos, h])
  · refine Nat.le_trans (ln_mono (y := y) ?_) (Nat.le_succ_of_le hy)
    have h1 := h.lo h0
    have h2 := h.hi h0
    have h3 : 0 < Int.gcd x y := Int.gcd_pos_of_ne_zero_right x h0
    have h4 : u * 1 ≤ u * (Int.gcd x y : Int) := Int.mul_le_mul_of_nonneg_left (by omega) h1
    omega
theorem Bez.ln_v {x y u v : Int} {N : Nat} (h : Bez x y u v) (hx : ln x ≤ N) (hy : ln y ≤ N) : ln v ≤ N + 1 := by
  by_cases h0 : y = 0
  · rw [(h.zero h0).2, ln_zero]; omega
  · refine Nat.le_trans (ln_mono (y := x.natAbs + 1) ?_) (Nat.le_trans (ln_add (a := N) (b := 1) (by rw [ln_abs]; exact hx) (by rw [ln_one]; exact Nat.le_refl _)) ?_)
    · have h1 := h.lo h0
      have h2 := h.hi h0
      have h3 : 0 < Int.gcd x y := Int.gcd_pos_of_ne_zero_right x h0
      have e := h.eq
      have h4 : u * 1 ≤ u * (Int.gcd x y : Int) := Int.mul_le_mul_of_nonneg_left (by omega) h1
      have h5 : u.natAbs ≤ y.natAbs := by omega
      have hgy : Int.gcd x y ≤ y.natAbs := Nat.le_of_dvd (by omega) (Int.gcd_dvd_natAbs_right x y)
      have h6 : (y * v).natAbs ≤ (x.natAbs + 1) * y.natAbs := by
        have e2 : y * v = Int.gcd x y - x * u := by omega
        have h7 : (x * u).natAbs ≤ x.natAbs * y.natAbs := by rw [Int.natAbs_mul]; exact Nat.mul_le_mul_left _ h5
        rw [e2, Nat.add_mul, Nat.one_mul]
        omega
      rw [Int.natAbs_mul, Nat.mul_comm] at h6
      have h8 := Nat.le_of_mul_le_mul_right h6 (by omega)
      omega
    · refine Nat.le_of_eq ?_
      have : 1 ≤ N := by
        refine Nat.pos_of_ne_zero fun hN => h0 ?_
        have h1 : ln y = 0 := by omega
        have := len_wd_zero.1 (show (wd y.natAbs).length = 0 from h1)
        omega
      omega

set_option maxHeartbeats 4000000 in
theorem g_bezout_one_t {w : World} {sa : Bool} {Aa : Option Addr} {na ca : Nat} {x : Int} (hx : Zi w sa Aa na ca x) (la : na ≤ 17179869184) (h1 : x = 1) :
    Calls Try.prog 62 #[.agg #[.bool sa, .slice Aa na ca]] w (Gv w (Is (.bool true))) := by
  have Lx : ln x ≤ 17179869184 := Nat.le_trans hx.ln la
  refine sx_enter Try.func62 rfl (n := 7) rfl (Nat.le_of_ble_eq_true rfl) (args := [.agg #[.bool sa, .slice Aa na ca]]) ?_
  refine cw_keep [(0, .agg #[.bool sa, .slice Aa na ca])] ⟨rfl, trivial⟩ ?_
  refine cw_seq ?_
  -- region 0
  refine cw_region ?_
  refine wl_box rfl rfl (vs := [.bool sa, .slice Aa na ca]) rfl (by decide) fun g1 v2 nb => ?_
  have hb4 := nb.bk
  have ge5 : w.heap.size ≤ g1 := by rw [← nb.at_]; exact (Ext.refl w).size
  have e3 := nb.ext
  clear nb
  have hw1 : Ext w v2 := (Ext.refl w).trans e3
  refine wl_assign rfl rfl (by decide) ?_
  refine wl_nil ?_
  refine eo_then ?_
  refine cw_seq ?_
  -- region 1, in whatever order
  refine cw_draw mix 4 [] [Is (.agg #[.bool sa, .slice Aa na ca]), ZR w.heap.size (1), Is (.int .i64 (scmp x 1)), Is (.bool true)] [[], [], [0, 1], [2]] [[], [], [0, 1], [0, 1, 2], [0, 1, 2, 3]] rfl
    (obs_cons rfl rfl (hob rfl rfl ?_) (obs_cons rfl rfl (hob rfl rfl ?_) (obs_cons rfl rfl (hob rfl rfl ?_) (obs_cons rfl rfl (hob rfl rfl ?_) obs_nil)))) ?_
  · -- 0
    intro v7 e8
    have hw2 : Ext w v7 := hw1.trans e8
    refine deps_nil ?_
    refine wl_load rfl rfl (load_agg aggInt (hb4.ext e8) [.bool sa, .slice Aa na ca] rfl (Nat.le_of_ble_eq_true rfl) rfl) (by decide) ?_
    exact pi_done rfl (Ext.refl _) rfl
  · -- 1
    intro v9 e10
    have hw2 : Ext w v9 := hw1.trans e10
    refine deps_nil ?_
    refine wl_call rfl rfl (vs := [.int .i64 1]) (by kernel_rfl) (by decide) (g_zint_Of hw2.size (by decide) (by decide)) ?_
    rintro _ v11 ⟨xr13, rfl, r13, e12⟩
    refine ret_intro ?_
    have hw3 : Ext w v11 := hw2.trans e12
    obtain ⟨s14, A14, n14, c14, rfl, z14⟩ := r13
    exact pi_done rfl e12 ⟨_, _, _, _, rfl, z14⟩
  · -- 2
    intro v15 e16
    have hw2 : Ext w v15 := hw1.trans e16
    refine deps_cons rfl rfl fun x17 y18 h19 e20 f21 => ?_
    obtain rfl := h19
    refine deps_cons rfl rfl fun x22 y23 h24 e25 f26 => ?_
    obtain ⟨s27, A27, n27, c27, rfl, z27⟩ := h24
    have z27 := z27.ext f26
    refine deps_nil ?_
    refine wl_call rfl rfl (vs := [.agg #[.bool sa, .slice Aa na ca], .agg #[.bool s27, .slice A27 n27 c27]]) (by kernel_rfl) (by decide) (g_zint_Cmp (hx.ext hw2) (Nat.le_trans la (by decide)) z27.zi (z27.le (Nat.le_trans (show ln (1) ≤ 1 by decide +kernel) (by decide)))) ?_
    rintro _ v28 ⟨xr30, rfl, r30, e29⟩
    refine ret_intro ?_
    have hw3 : Ext w v28 := hw2.trans e29
    obtain rfl := r30
    exact pi_done rfl e29 rfl
  · -- 3
    intro v31 e32
    have hw2 : Ext w v31 := hw1.trans e32
    refine deps_cons rfl rfl fun x33 y34 h35 e36 f37 => ?_
    obtain rfl := h35
    refine deps_nil ?_
    refine wl_cmp rfl rfl rfl true (scmp_eq_t h1) (by decide) ?_
    exact pi_done rfl (Ext.refl _) rfl
  · -- all
    intro v38 e39
    have hw2 : Ext w v38 := hw1.trans e39
    refine deps_cons rfl rfl fun x40 y41 h42 e43 f44 => ?_
    obtain rfl := h42
    refine deps_cons rfl rfl fun x45 y46 h47 e48 f49 => ?_
    obtain ⟨s50, A50, n50, c50, rfl, z50⟩ := h47
    have z50 := z50.ext f49
    refine deps_cons rfl rfl fun x51 y52 h53 e54 f55 => ?_
    obtain rfl := h53
    refine deps_cons rfl rfl fun x56 y57 h58 e59 f60 => ?_
    obtain rfl := h58
    refine deps_nil ?_
    refine wl_assign rfl rfl (by decide) ?_
    refine wl_nil ?_
    refine eo_np ?_
    refine eo_then ?_
    refine cw_ret ?_
    refine eo_ret [.bool true] rfl ⟨rfl, trivial⟩ ?_
    exact ⟨_, rfl, rfl, hw2⟩
set_option maxHeartbeats 4000000 in
theorem g_bezout_one_f {w : World} {sa : Bool} {Aa : Option Addr} {na ca : Nat} {x : Int} (hx : Zi w sa Aa na ca x) (la : na ≤ 17179869184) (h1 : x ≠ 1) :
    Calls Try.prog 62 #[.agg #[.bool sa, .slice Aa na ca]] w (Gv w (Is (.bool false))) := by
  have Lx : ln x ≤ 17179869184 := Nat.le_trans hx.ln la
  refine sx_enter Try.func62 rfl (n := 7) rfl (Nat.le_of_ble_eq_true rfl) (args := [.agg #[.bool sa, .slice Aa na ca]]) ?_
  refine cw_keep [(0, .agg #[.bool sa, .slice Aa na ca])] ⟨rfl, trivial⟩ ?_
  refine cw_seq ?_
  -- region 0
  refine cw_region ?_
  refine wl_box rfl rfl (vs := [.bool sa, .slice Aa na ca]) rfl (by decide) fun g1 v2 nb => ?_
  have hb4 := nb.bk
  have ge5 : w.heap.size ≤ g1 := by rw [← nb.at_]; exact (Ext.refl w).size
  have e3 := nb.ext
  clear nb
  have hw1 : Ext w v2 := (Ext.refl w).trans e3
  refine wl_assign rfl rfl (by decide) ?_
  refine wl_nil ?_
  refine eo_then ?_
  refine cw_seq ?_
  -- region 1, in whatever order
  refine cw_draw mix 4 [] [Is (.agg #[.bool sa, .slice Aa na ca]), ZR w.heap.size (1), Is (.int .i64 (scmp x 1)), Is (.bool false)] [[], [], [0, 1], [2]] [[], [], [0, 1], [0, 1, 2], [0, 1, 2, 3]] rfl
    (obs_cons rfl rfl (hob rfl rfl ?_) (obs_cons rfl rfl (hob rfl rfl ?_) (obs_cons rfl rfl (hob rfl rfl ?_) (obs_cons rfl rfl (hob rfl rfl ?_) obs_nil)))) ?_
  · -- 0
    intro v7 e8
    have hw2 : Ext w v7 := hw1.trans e8
    refine deps_nil ?_
    refine wl_load rfl rfl (load_agg aggInt (hb4.ext e8) [.bool sa, .slice Aa na ca] rfl (Nat.le_of_ble_eq_true rfl) rfl) (by decide) ?_
    exact pi_done rfl (Ext.refl _) rfl
  · -- 1
    intro v9 e10
    have hw2 : Ext w v9 := hw1.trans e10
    refine deps_nil ?_
    refine wl_call rfl rfl (vs := [.int .i64 1]) (by kernel_rfl) (by decide) (g_zint_Of hw2.size (by decide) (by decide)) ?_
    rintro _ v11 ⟨xr13, rfl, r13, e12⟩
    refine ret_intro ?_
    have hw3 : Ext w v11 := hw2.trans e12
    obtain ⟨s14, A14, n14, c14, rfl, z14⟩ := r13
    exact pi_done rfl e12 ⟨_, _, _, _, rfl, z14⟩
  · -- 2
    intro v15 e16
    have hw2 : Ext w v15 := hw1.trans e16
    refine deps_cons rfl rfl fun x17 y18 h19 e20 f21 => ?_
    obtain rfl := h19
    refine deps_cons rfl rfl fun x22 y23 h24 e25 f26 => ?_
    obtain ⟨s27, A27, n27, c27, rfl, z27⟩ := h24
    have z27 := z27.ext f26
    refine deps_nil ?_
    refine wl_call rfl rfl (vs := [.agg #[.bool sa, .slice Aa na ca], .agg #[.bool s27, .slice A27 n27 c27]]) (by kernel_rfl) (by decide) (g_zint_Cmp (hx.ext hw2) (Nat.le_trans la (by decide)) z27.zi (z27.le (Nat.le_trans (show ln (1) ≤ 1 by decide +kernel) (by decide)))) ?_
    rintro _ v28 ⟨xr30, rfl, r30, e29⟩
    refine ret_intro ?_
    have hw3 : Ext w v28 := hw2.trans e29
    obtain rfl := r30
    exact pi_done rfl e29 rfl
  · -- 3
    intro v31 e32
    have hw2 : Ext w v31 := hw1.trans e32
    refine deps_cons rfl rfl fun x33 y34 h35 e36 f37 => ?_
    obtain rfl := h35
    refine deps_nil ?_
    refine wl_cmp rfl rfl rfl false (scmp_eq_f h1) (by decide) ?_
    exact pi_done rfl (Ext.refl _) rfl
  · -- all
    intro v38 e39
    have hw2 : Ext w v38 := hw1.trans e39
    refine deps_cons rfl rfl fun x40 y41 h42 e43 f44 => ?_
    obtain rfl := h42
    refine deps_cons rfl rfl fun x45 y46 h47 e48 f49 => ?_
    obtain ⟨s50, A50, n50, c50, rfl, z50⟩ := h47
    have z50 := z50.ext f49
    refine deps_cons rfl rfl fun x51 y52 h53 e54 f55 => ?_
    obtain rfl := h53
    refine deps_cons rfl rfl fun x56 y57 h58 e59 f60 => ?_
    obtain rfl := h58
    refine deps_nil ?_
    refine wl_assign rfl rfl (by decide) ?_
    refine wl_nil ?_
    refine eo_np ?_
    refine eo_then ?_
    refine cw_ret ?_
    refine eo_ret [.bool false] rfl ⟨rfl, trivial⟩ ?_
    exact ⟨_, rfl, rfl, hw2⟩

set_option maxHeartbeats 4000000 in
theorem g_bezout_Inverse_zeroI {w : World} {sa : Bool} {Aa : Option Addr} {na ca : Nat} {x : Int} {sb : Bool} {Ab : Option Addr} {nb cb : Nat} {y : Int} (hx : Zi w sa Aa na ca x) (la : na ≤ 17179869184) (hy : Zi w sb Ab nb cb y) (lb : nb ≤ 17179869184) (h0 : y = 0) :
    Calls Try.prog 22 #[.agg #[.bool sa, .slice Aa na ca], .agg #[.bool sb, .slice Ab nb cb]] w (Gv w (T2 (ZR w.heap.size (0)) (Is (.int .i64 4)))) := by
  have Lx : ln x ≤ 17179869184 := Nat.le_trans hx.ln la
  have Ly : ln y ≤ 17179869184 := Nat.le_trans hy.ln lb
  refine sx_enter Try.func22 rfl (n := 25) rfl (Nat.le_of_ble_eq_true rfl) (args := [.agg #[.bool sa, .slice Aa na ca], .agg #[.bool sb, .slice Ab nb cb]]) ?_
  refine cw_keep [(0, .agg #[.bool sa, .slice Aa na ca]), (1, .agg #[.bool sb, .slice Ab nb cb])] ⟨rfl, rfl, trivial⟩ ?_
  refine cw_seq ?_
  -- region 0
  refine cw_region ?_
  refine wl_box rfl rfl (vs := [.bool sa, .slice Aa na ca]) rfl (by decide) fun g1 v2 nb => ?_
  have hb4 := nb.bk
  have ge5 : w.heap.size ≤ g1 := by rw [← nb.at_]; exact (Ext.refl w).size
  have e3 := nb.ext
  clear nb
  have hw1 : Ext w v2 := (Ext.refl w).trans e3
  refine wl_box rfl rfl (vs := [.bool sb, .slice Ab nb cb]) rfl (by decide) fun g6 v7 nb => ?_
  have hb9 := nb.bk
  have ge10 : w.heap.size ≤ g6 := by rw [← nb.at_]; exact hw1.size
  have q11 : g1 < g6 := by rw [← nb.at_]; exact hb4.lt
  have e8 := nb.ext
  clear nb
  have hw2 : Ext w v7 := hw1.trans e8
  refine wl_alloc rfl (z := .agg #[.bool false, .slice none 0 0]) (vs := [.bool false, .slice none 0 0]) (fun _ => by kernel_rfl) rfl (by decide) fun g12 v13 nb => ?_
  have hb15 := nb.bk
  have ge16 : w.heap.size ≤ g12 := by rw [← nb.at_]; exact hw2.size
  have q17 : g6 < g12 := by rw [← nb.at_]; exact hb9.lt
  have e14 := nb.ext
  clear nb
  have hw3 : Ext w v13 := hw2.trans e14
  refine wl_assign rfl rfl (by decide) ?_
  refine wl_nil ?_
  refine eo_then ?_
  refine cw_seq ?_
  refine cw_seq ?_
  -- region 1
  refine cw_region ?_
  refine wl_load rfl rfl (load_agg aggInt (hb9.ext e14) [.bool sb, .slice Ab nb cb] rfl (Nat.le_of_ble_eq_true rfl) rfl) (by decide) ?_
  refine wl_call rfl rfl (vs := [.agg #[.bool sb, .slice Ab nb cb]]) (by kernel_rfl) (by decide) (g_zint_Sign (hy.ext hw3) (Nat.le_trans lb (by decide))) ?_
  rintro _ v18 ⟨xr20, rfl, r20, e19⟩
  refine ret_intro ?_
  have hw4 : Ext w v18 := hw3.trans e19
  obtain rfl := r20
  refine wl_cmp rfl rfl rfl true (scmp_eq_t h0) (by decide) ?_
  refine wl_nil ?_
  refine eo_then ?_
  refine cw_true rfl ?_
  refine cw_seq ?_
  -- region 2
  refine cw_region ?_
  refine wl_pure rfl rfl (v := .agg #[.bool false, .slice none 0 0]) (by decide) (by kernel_rfl) ?_
  have hb22 := (hb15.ext e19)
  refine wl_stored rfl rfl rfl aggInt rfl hb22 (Nat.le_of_ble_eq_true rfl) rfl [.bool false, .slice none 0 0] rfl fun v21 hb23 u24 hs25 => ?_
  have hw5 : Ext w v21 := u24.ext hw4 ge16
  refine wl_assign rfl rfl (by decide) ?_
  refine wl_nil ?_
  refine eo_then ?_
  refine cw_ret ?_
  refine eo_thenR ?_
  refine eo_ret [.agg #[.bool false, .slice none 0 0], .int .i64 4] rfl ⟨⟨_, rfl, load_agg aggInt hb23 [.bool false, .slice none 0 0] rfl (Nat.le_of_ble_eq_true rfl) rfl⟩, rfl, trivial⟩ ?_
  exact ⟨_, rfl, ⟨_, _, rfl, ⟨_, _, _, _, rfl, ((Zr.zero (w := v18) (base := w.heap.size)).updT hb22 u24)⟩, rfl⟩, hw5⟩
theorem g_bezout_Inverse_zero {w : World} {sa : Bool} {Aa : Option Addr} {na ca : Nat} {x : Int} {sb : Bool} {Ab : Option Addr} {nb cb : Nat} {y : Int} {b : Nat} (hb : b ≤ w.heap.size)  (hx : Zi w sa Aa na ca x) (la : na ≤ 17179869184) (hy : Zi w sb Ab nb cb y) (lb : nb ≤ 17179869184) (h0 : y = 0) :
    Calls Try.prog 22 #[.agg #[.bool sa, .slice Aa na ca], .agg #[.bool sb, .slice Ab nb cb]] w (Gv w (T2 (ZR b (0)) (Is (.int .i64 4)))) := (g_bezout_Inverse_zeroI hx la hy lb h0).mono (Gv.imp (T2.imp (ZR.imp hb) Is.imp))
set_option maxHeartbeats 4000000 in
theorem g_bezout_Inverse_noneI {w : World} {sa : Bool} {Aa : Option Addr} {na ca : Nat} {x : Int} {sb : Bool} {Ab : Option Addr} {nb cb : Nat} {y : Int} (hx : Zi w sa Aa na ca x) (la : na ≤ 17179869184) (hy : Zi w sb Ab nb cb y) (lb : nb ≤ 17179869184) (h0 : y ≠ 0) (hg : (Int.gcd x y : Int) ≠ 1) :
    Calls Try.prog 22 #[.agg #[.bool sa, .slice Aa na ca], .agg #[.bool sb, .slice Ab nb cb]] w (Gv w (T2 (ZR w.heap.size (0)) (Is (.int .i64 6)))) := by
  have Lx : ln x ≤ 17179869184 := Nat.le_trans hx.ln la
  have Ly : ln y ≤ 17179869184 := Nat.le_trans hy.ln lb
  refine sx_enter Try.func22 rfl (n := 25) rfl (Nat.le_of_ble_eq_true rfl) (args := [.agg #[.bool sa, .slice Aa na ca], .agg #[.bool sb, .slice Ab nb cb]]) ?_
  refine cw_keep [(0, .agg #[.bool sa, .slice Aa na ca]), (1, .agg #[.bool sb, .slice Ab nb cb])] ⟨rfl, rfl, trivial⟩ ?_
  refine cw_seq ?_
  -- region 0
  refine cw_region ?_
  refine wl_box rfl rfl (vs := [.bool sa, .slice Aa na ca]) rfl (by decide) fun g1 v2 nb => ?_
  have hb4 := nb.bk
  have ge5 : w.heap.size ≤ g1 := by rw [← nb.at_]; exact (Ext.refl w).size
  have e3 := nb.ext
  clear nb
  have hw1 : Ext w v2 := (Ext.refl w).trans e3
  refine wl_box rfl rfl (vs := [.bool sb, .slice Ab nb cb]) rfl (by decide) fun g6 v7 nb => ?_
  have hb9 := nb.bk
  have ge10 : w.heap.size ≤ g6 := by rw [← nb.at_]; exact hw1.size
  have q11 : g1 < g6 := by rw [← nb.at_]; exact hb4.lt
  have e8 := nb.ext
  clear nb
  have hw2 : Ext w v7 := hw1.trans e8
  refine wl_alloc rfl (z := .agg #[.bool false, .slice none 0 0]) (vs := [.bool false, .slice none 0 0]) (fun _ => by kernel_rfl) rfl (by decide) fun g12 v13 nb => ?_
  have hb15 := nb.bk
  have ge16 : w.heap.size ≤ g12 := by rw [← nb.at_]; exact hw2.size
  have q17 : g6 < g12 := by rw [← nb.at_]; exact hb9.lt
  have e14 := nb.ext
  clear nb
  have hw3 : Ext w v13 := hw2.trans e14
  refine wl_assign rfl rfl (by decide) ?_
  refine wl_nil ?_
  refine eo_then ?_
  refine cw_seq ?_
  refine cw_seq ?_
  -- region 1
  refine cw_region ?_
  refine wl_load rfl rfl (load_agg aggInt (hb9.ext e14) [.bool sb, .slice Ab nb cb] rfl (Nat.le_of_ble_eq_true rfl) rfl) (by decide) ?_
  refine wl_call rfl rfl (vs := [.agg #[.bool sb, .slice Ab nb cb]]) (by kernel_rfl) (by decide) (g_zint_Sign (hy.ext hw3) (Nat.le_trans lb (by decide))) ?_
  rintro _ v18 ⟨xr20, rfl, r20, e19⟩
  refine ret_intro ?_
  have hw4 : Ext w v18 := hw3.trans e19
  obtain rfl := r20
  refine wl_cmp rfl rfl rfl false (scmp_eq_f h0) (by decide) ?_
  refine wl_nil ?_
  refine eo_then ?_
  refine cw_false rfl ?_
  refine cw_skip ?_
  refine eo_then ?_
  refine cw_seq ?_
  -- region 3
  refine cw_region ?_
  refine wl_load rfl rfl (load_agg aggInt (hb4.ext (e8.trans (e14.trans e19))) [.bool sa, .slice Aa na ca] rfl (Nat.le_of_ble_eq_true rfl) rfl) (by decide) ?_
  refine wl_load rfl rfl (load_agg aggInt (hb9.ext (e14.trans e19)) [.bool sb, .slice Ab nb cb] rfl (Nat.le_of_ble_eq_true rfl) rfl) (by decide) ?_
  refine wl_call rfl rfl (vs := [.agg #[.bool sa, .slice Aa na ca], .agg #[.bool sb, .slice Ab nb cb]]) (by kernel_rfl) (by decide) (g_bezout_Ext hw4.size (hx.ext hw4) (Nat.le_trans la (by decide)) (hy.ext hw4) (Nat.le_trans lb (by decide))) ?_
  rintro _ v21 ⟨u24, v25, p26, xr23, rfl, r23, e22⟩
  have L27 : ln ((Int.gcd x y : Int)) ≤ 17179869184 := Nat.le_trans (ln_gcd _ _) (Nat.max_le.2 ⟨Nat.le_trans Lx (by decide), Nat.le_trans Ly (by decide)⟩)
  have L28 : ln (u24) ≤ 17179869185 := (p26.ln_u Lx Ly)
  have L29 : ln (v25) ≤ 17179869185 := (p26.ln_v Lx Ly)
  refine ret_intro ?_
  have hw5 : Ext w v21 := hw4.trans e22
  obtain ⟨a30_0, a30_1, a30_2, rfl, r30_0, r30_1, r30_2⟩ := r23
  obtain ⟨s31, A31, n31, c31, rfl, z31⟩ := r30_0
  obtain ⟨s32, A32, n32, c32, rfl, z32⟩ := r30_1
  obtain ⟨s33, A33, n33, c33, rfl, z33⟩ := r30_2
  refine wl_move rfl rfl (by decide) ?_
  refine wl_pure rfl rfl (v := .agg #[.bool s31, .slice A31 n31 c31]) (by decide) (by kernel_rfl) ?_
  refine wl_pure rfl rfl (v := .agg #[.bool s32, .slice A32 n32 c32]) (by decide) (by kernel_rfl) ?_
  refine wl_pure rfl rfl (v := .agg #[.bool s33, .slice A33 n33 c33]) (by decide) (by kernel_rfl) ?_
  refine wl_alloc rfl (z := .agg #[.bool false, .slice none 0 0]) (vs := [.bool false, .slice none 0 0]) (fun _ => by kernel_rfl) rfl (by decide) fun g34 v35 nb => ?_
  have hb37 := nb.bk
  have ge38 : w.heap.size ≤ g34 := by rw [← nb.at_]; exact hw5.size
  have q39 : g12 < g34 := by rw [← nb.at_]; exact (hb15.ext (e19.trans e22)).lt
  have e36 := nb.ext
  clear nb
  have hw6 : Ext w v35 := hw5.trans e36
  refine wl_alloc rfl (z := .agg #[.bool false, .slice none 0 0]) (vs := [.bool false, .slice none 0 0]) (fun _ => by kernel_rfl) rfl (by decide) fun g40 v41 nb => ?_
  have hb43 := nb.bk
  have ge44 : w.heap.size ≤ g40 := by rw [← nb.at_]; exact hw6.size
  have q45 : g34 < g40 := by rw [← nb.at_]; exact hb37.lt
  have e42 := nb.ext
  clear nb
  have hw7 : Ext w v41 := hw6.trans e42
  refine wl_alloc rfl (z := .agg #[.bool false, .slice none 0 0]) (vs := [.bool false, .slice none 0 0]) (fun _ => by kernel_rfl) rfl (by decide) fun g46 v47 nb => ?_
  have hb49 := nb.bk
  have ge50 : w.heap.size ≤ g46 := by rw [← nb.at_]; exact hw7.size
  have q51 : g40 < g46 := by rw [← nb.at_]; exact hb43.lt
  have e48 := nb.ext
  clear nb
  have hw8 : Ext w v47 := hw7.trans e48
  have hb53 := (hb37.ext (e42.trans e48))
  refine wl_stored rfl rfl rfl aggInt rfl hb53 (Nat.le_of_ble_eq_true rfl) rfl [.bool s31, .slice A31 n31 c31] rfl fun v52 hb54 u55 hs56 => ?_
  have hw9 : Ext w v52 := u55.ext hw8 ge38
  have hb58 := ((hb43.ext e48).updN u55 (by omega))
  refine wl_stored rfl rfl rfl aggInt rfl hb58 (Nat.le_of_ble_eq_true rfl) rfl [.bool s32, .slice A32 n32 c32] rfl fun v57 hb59 u60 hs61 => ?_
  have hw10 : Ext w v57 := u60.ext hw9 ge44
  have hb63 := ((hb49.updN u55 (by omega)).updN u60 (by omega))
  refine wl_stored rfl rfl rfl aggInt rfl hb63 (Nat.le_of_ble_eq_true rfl) rfl [.bool s33, .slice A33 n33 c33] rfl fun v62 hb64 u65 hs66 => ?_
  have hw11 : Ext w v62 := u65.ext hw10 ge50
  refine wl_nil ?_
  refine eo_then ?_
  refine cw_seq ?_
  refine cw_seq ?_
  -- region 4
  refine cw_region ?_
  refine wl_load rfl rfl (load_agg aggInt ((hb54.updN u60 (by omega)).updN u65 (by omega)) [.bool s31, .slice A31 n31 c31] rfl (Nat.le_of_ble_eq_true rfl) rfl) (by decide) ?_
  refine wl_call rfl rfl (vs := [.agg #[.bool s31, .slice A31 n31 c31]]) (by kernel_rfl) (by decide) (g_bezout_one_f ((((z31.ext (e36.trans (e42.trans e48))).updT hb53 u55).updT hb58 u60).updT hb63 u65).zi (z31.le (Nat.le_trans L27 (by decide))) hg) ?_
  rintro _ v67 ⟨xr69, rfl, r69, e68⟩
  refine ret_intro ?_
  have hw12 : Ext w v67 := hw11.trans e68
  obtain rfl := r69
  refine wl_pure rfl rfl (v := .bool true) (by decide) (by kernel_rfl) ?_
  refine wl_nil ?_
  refine eo_then ?_
  refine cw_true rfl ?_
  refine cw_seq ?_
  -- region 5
  refine cw_region ?_
  refine wl_pure rfl rfl (v := .agg #[.bool false, .slice none 0 0]) (by decide) (by kernel_rfl) ?_
  have hb71 := (((((hb15.ext (e19.trans (e22.trans (e36.trans (e42.trans e48))))).updN u55 (by omega)).updN u60 (by omega)).updN u65 (by omega)).ext e68)
  refine wl_stored rfl rfl rfl aggInt rfl hb71 (Nat.le_of_ble_eq_true rfl) rfl [.bool false, .slice none 0 0] rfl fun v70 hb72 u73 hs74 => ?_
  have hw13 : Ext w v70 := u73.ext hw12 ge16
  refine wl_assign rfl rfl (by decide) ?_
  refine wl_nil ?_
  refine eo_then ?_
  refine cw_ret ?_
  refine eo_thenR ?_
  refine eo_ret [.agg #[.bool false, .slice none 0 0], .int .i64 6] rfl ⟨⟨_, rfl, load_agg aggInt hb72 [.bool false, .slice none 0 0] rfl (Nat.le_of_ble_eq_true rfl) rfl⟩, rfl, trivial⟩ ?_
  exact ⟨_, rfl, ⟨_, _, rfl, ⟨_, _, _, _, rfl, ((Zr.zero (w := v67) (base := w.heap.size)).updT hb71 u73)⟩, rfl⟩, hw13⟩
theorem g_bezout_Inverse_none {w : World} {sa : Bool} {Aa : Option Addr} {na ca : Nat} {x : Int} {sb : Bool} {Ab : Option Addr} {nb cb : Nat} {y : Int} {b : Nat} (hb : b ≤ w.heap.size)  (hx : Zi w sa Aa na ca x) (la : na ≤ 17179869184) (hy : Zi w sb Ab nb cb y) (lb : nb ≤ 17179869184) (h0 : y ≠ 0) (hg : (Int.gcd x y : Int) ≠ 1) :
    Calls Try.prog 22 #[.agg #[.bool sa, .slice Aa na ca], .agg #[.bool sb, .slice Ab nb cb]] w (Gv w (T2 (ZR b (0)) (Is (.int .i64 6)))) := (g_bezout_Inverse_noneI hx la hy lb h0 hg).mono (Gv.imp (T2.imp (ZR.imp hb) Is.imp))
set_option maxHeartbeats 4000000 in
theorem g_bezout_Inverse_okI {w : World} {sa : Bool} {Aa : Option Addr} {na ca : Nat} {x : Int} {sb : Bool} {Ab : Option Addr} {nb cb : Nat} {y : Int} (hx : Zi w sa Aa na ca x) (la : na ≤ 17179869184) (hy : Zi w sb Ab nb cb y) (lb : nb ≤ 17179869184) (h0 : y ≠ 0) (hg : (Int.gcd x y : Int) = 1) :
    Calls Try.prog 22 #[.agg #[.bool sa, .slice Aa na ca], .agg #[.bool sb, .slice Ab nb cb]] w (fun e w' => ∃ u v, Bez x y u v ∧ Gv w (T2 (ZR w.heap.size u) (Is (.int .i64 0))) e w') := by
  have Lx : ln x ≤ 17179869184 := Nat.le_trans hx.ln la
  have Ly : ln y ≤ 17179869184 := Nat.le_trans hy.ln lb
  refine sx_enter Try.func22 rfl (n := 25) rfl (Nat.le_of_ble_eq_true rfl) (args := [.agg #[.bool sa, .slice Aa na ca], .agg #[.bool sb, .slice Ab nb cb]]) ?_
  refine cw_keep [(0, .agg #[.bool sa, .slice Aa na ca]), (1, .agg #[.bool sb, .slice Ab nb cb])] ⟨rfl, rfl, trivial⟩ ?_
  refine cw_seq ?_
  -- region 0
  refine cw_region ?_
  refine wl_box rfl rfl (vs := [.bool sa, .slice Aa na ca]) rfl (by decide) fun g1 v2 nb => ?_
  have hb4 := nb.bk
  have ge5 : w.heap.size ≤ g1 := by rw [← nb.at_]; exact (Ext.refl w).size
  have e3 := nb.ext
  clear nb
  have hw1 : Ext w v2 := (Ext.refl w).trans e3
  refine wl_box rfl rfl (vs := [.bool sb, .slice Ab nb cb]) rfl (by decide) fun g6 v7 nb => ?_
  have hb9 := nb.bk
  have ge10 : w.heap.size ≤ g6 := by rw [← nb.at_]; exact hw1.size
  have q11 : g1 < g6 := by rw [← nb.at_]; exact hb4.lt
  have e8 := nb.ext
  clear nb
  have hw2 : Ext w v7 := hw1.trans e8
  refine wl_alloc rfl (z := .agg #[.bool false, .slice none 0 0]) (vs := [.bool false, .slice none 0 0]) (fun _ => by kernel_rfl) rfl (by decide) fun g12 v13 nb => ?_
  have hb15 := nb.bk
  have ge16 : w.heap.size ≤ g12 := by rw [← nb.at_]; exact hw2.size
  have q17 : g6 < g12 := by rw [← nb.at_]; exact hb9.lt
  have e14 := nb.ext
  clear nb
  have hw3 : Ext w v13 := hw2.trans e14
  refine wl_assign rfl rfl (by decide) ?_
  refine wl_nil ?_
  refine eo_then ?_
  refine cw_seq ?_
  refine cw_seq ?_
  -- region 1
  refine cw_region ?_
  refine wl_load rfl rfl (load_agg aggInt (hb9.ext e14) [.bool sb, .slice Ab nb cb] rfl (Nat.le_of_ble_eq_true rfl) rfl) (by decide) ?_
  refine wl_call rfl rfl (vs := [.agg #[.bool sb, .slice Ab nb cb]]) (by kernel_rfl) (by decide) (g_zint_Sign (hy.ext hw3) (Nat.le_trans lb (by decide))) ?_
  rintro _ v18 ⟨xr20, rfl, r20, e19⟩
  refine ret_intro ?_
  have hw4 : Ext w v18 := hw3.trans e19
  obtain rfl := r20
  refine wl_cmp rfl rfl rfl false (scmp_eq_f h0) (by decide) ?_
  refine wl_nil ?_
  refine eo_then ?_
  refine cw_false rfl ?_
  refine cw_skip ?_
  refine eo_then ?_
  refine cw_seq ?_
  -- region 3
  refine cw_region ?_
  refine wl_load rfl rfl (load_agg aggInt (hb4.ext (e8.trans (e14.trans e19))) [.bool sa, .slice Aa na ca] rfl (Nat.le_of_ble_eq_true rfl) rfl) (by decide) ?_
  refine wl_load rfl rfl (load_agg aggInt (hb9.ext (e14.trans e19)) [.bool sb, .slice Ab nb cb] rfl (Nat.le_of_ble_eq_true rfl) rfl) (by decide) ?_
  refine wl_call rfl rfl (vs := [.agg #[.bool sa, .slice Aa na ca], .agg #[.bool sb, .slice Ab nb cb]]) (by kernel_rfl) (by decide) (g_bezout_Ext hw4.size (hx.ext hw4) (Nat.le_trans la (by decide)) (hy.ext hw4) (Nat.le_trans lb (by decide))) ?_
  rintro _ v21 ⟨u24, v25, p26, xr23, rfl, r23, e22⟩
  have L27 : ln ((Int.gcd x y : Int)) ≤ 17179869184 := Nat.le_trans (ln_gcd _ _) (Nat.max_le.2 ⟨Nat.le_trans Lx (by decide), Nat.le_trans Ly (by decide)⟩)
  have L28 : ln (u24) ≤ 17179869185 := (p26.ln_u Lx Ly)
  have L29 : ln (v25) ≤ 17179869185 := (p26.ln_v Lx Ly)
  refine ret_intro ?_
  have hw5 : Ext w v21 := hw4.trans e22
  obtain ⟨a30_0, a30_1, a30_2, rfl, r30_0, r30_1, r30_2⟩ := r23
  obtain ⟨s31, A31, n31, c31, rfl, z31⟩ := r30_0
  obtain ⟨s32, A32, n32, c32, rfl, z32⟩ := r30_1
  obtain ⟨s33, A33, n33, c33, rfl, z33⟩ := r30_2
  refine wl_move rfl rfl (by decide) ?_
  refine wl_pure rfl rfl (v := .agg #[.bool s31, .slice A31 n31 c31]) (by decide) (by kernel_rfl) ?_
  refine wl_pure rfl rfl (v := .agg #[.bool s32, .slice A32 n32 c32]) (by decide) (by kernel_rfl) ?_
  refine wl_pure rfl rfl (v := .agg #[.bool s33, .slice A33 n33 c33]) (by decide) (by kernel_rfl) ?_
  refine wl_alloc rfl (z := .agg #[.bool false, .slice none 0 0]) (vs := [.bool false, .slice none 0 0]) (fun _ => by kernel_rfl) rfl (by decide) fun g34 v35 nb => ?_
  have hb37 := nb.bk
  have ge38 : w.heap.size ≤ g34 := by rw [← nb.at_]; exact hw5.size
  have q39 : g12 < g34 := by rw [← nb.at_]; exact (hb15.ext (e19.trans e22)).lt
  have e36 := nb.ext
  clear nb
  have hw6 : Ext w v35 := hw5.trans e36
  refine wl_alloc rfl (z := .agg #[.bool false, .slice none 0 0]) (vs := [.bool false, .slice none 0 0]) (fun _ => by kernel_rfl) rfl (by decide) fun g40 v41 nb => ?_
  have hb43 := nb.bk
  have ge44 : w.heap.size ≤ g40 := by rw [← nb.at_]; exact hw6.size
  have q45 : g34 < g40 := by rw [← nb.at_]; exact hb37.lt
  have e42 := nb.ext
  clear nb
  have hw7 : Ext w v41 := hw6.trans e42
  refine wl_alloc rfl (z := .agg #[.bool false, .slice none 0 0]) (vs := [.bool false, .slice none 0 0]) (fun _ => by kernel_rfl) rfl (by decide) fun g46 v47 nb => ?_
  have hb49 := nb.bk
  have ge50 : w.heap.size ≤ g46 := by rw [← nb.at_]; exact hw7.size
  have q51 : g40 < g46 := by rw [← nb.at_]; exact hb43.lt
  have e48 := nb.ext
  clear nb
  have hw8 : Ext w v47 := hw7.trans e48
  have hb53 := (hb37.ext (e42.trans e48))
  refine wl_stored rfl rfl rfl aggInt rfl hb53 (Nat.le_of_ble_eq_true rfl) rfl [.bool s31, .slice A31 n31 c31] rfl fun v52 hb54 u55 hs56 => ?_
  have hw9 : Ext w v52 := u55.ext hw8 ge38
  have hb58 := ((hb43.ext e48).updN u55 (by omega))
  refine wl_stored rfl rfl rfl aggInt rfl hb58 (Nat.le_of_ble_eq_true rfl) rfl [.bool s32, .slice A32 n32 c32] rfl fun v57 hb59 u60 hs61 => ?_
  have hw10 : Ext w v57 := u60.ext hw9 ge44
  have hb63 := ((hb49.updN u55 (by omega)).updN u60 (by omega))
  refine wl_stored rfl rfl rfl aggInt rfl hb63 (Nat.le_of_ble_eq_true rfl) rfl [.bool s33, .slice A33 n33 c33] rfl fun v62 hb64 u65 hs66 => ?_
  have hw11 : Ext w v62 := u65.ext hw10 ge50
  refine wl_nil ?_
  refine eo_then ?_
  refine cw_seq ?_
  refine cw_seq ?_
  -- region 4
  refine cw_region ?_
  refine wl_load rfl rfl (load_agg aggInt ((hb54.updN u60 (by omega)).updN u65 (by omega)) [.bool s31, .slice A31 n31 c31] rfl (Nat.le_of_ble_eq_true rfl) rfl) (by decide) ?_
  refine wl_call rfl rfl (vs := [.agg #[.bool s31, .slice A31 n31 c31]]) (by kernel_rfl) (by decide) (g_bezout_one_t ((((z31.ext (e36.trans (e42.trans e48))).updT hb53 u55).updT hb58 u60).updT hb63 u65).zi (z31.le (Nat.le_trans L27 (by decide))) hg) ?_
  rintro _ v67 ⟨xr69, rfl, r69, e68⟩
  refine ret_intro ?_
  have hw12 : Ext w v67 := hw11.trans e68
  obtain rfl := r69
  refine wl_pure rfl rfl (v := .bool false) (by decide) (by kernel_rfl) ?_
  refine wl_nil ?_
  refine eo_then ?_
  refine cw_false rfl ?_
  refine cw_skip ?_
  refine eo_then ?_
  refine cw_seq ?_
  -- region 6
  refine cw_region ?_
  refine wl_load rfl rfl (load_agg aggInt ((hb59.updN u65 (by omega)).ext e68) [.bool s32, .slice A32 n32 c32] rfl (Nat.le_of_ble_eq_true rfl) rfl) (by decide) ?_
  have hb71 := (((((hb15.ext (e19.trans (e22.trans (e36.trans (e42.trans e48))))).updN u55 (by omega)).updN u60 (by omega)).updN u65 (by omega)).ext e68)
  refine wl_stored rfl rfl rfl aggInt rfl hb71 (Nat.le_of_ble_eq_true rfl) rfl [.bool s32, .slice A32 n32 c32] rfl fun v70 hb72 u73 hs74 => ?_
  have hw13 : Ext w v70 := u73.ext hw12 ge16
  refine wl_assign rfl rfl (by decide) ?_
  refine wl_nil ?_
  refine eo_then ?_
  refine cw_ret ?_
  refine eo_ret [.agg #[.bool s32, .slice A32 n32 c32], .int .i64 0] rfl ⟨⟨_, rfl, load_agg aggInt hb72 [.bool s32, .slice A32 n32 c32] rfl (Nat.le_of_ble_eq_true rfl) rfl⟩, rfl, trivial⟩ ?_
  exact ⟨u24, v25, p26, _, rfl, ⟨_, _, rfl, ⟨_, _, _, _, rfl, ((((((z32.ext (e36.trans (e42.trans e48))).updT hb53 u55).updT hb58 u60).updT hb63 u65).ext e68).updT hb71 u73)⟩, rfl⟩, hw13⟩
theorem g_bezout_Inverse_ok {w : World} {sa : Bool} {Aa : Option Addr} {na ca : Nat} {x : Int} {sb : Bool} {Ab : Option Addr} {nb cb : Nat} {y : Int} {b : Nat} (hb : b ≤ w.heap.size)  (hx : Zi w sa Aa na ca x) (la : na ≤ 17179869184) (hy : Zi w sb Ab nb cb y) (lb : nb ≤ 17179869184) (h0 : y ≠ 0) (hg : (Int.gcd x y : Int) = 1) :
    Calls Try.prog 22 #[.agg #[.bool sa, .slice Aa na ca], .agg #[.bool sb, .slice Ab nb cb]] w (fun e w' => ∃ u v, Bez x y u v ∧ Gv w (T2 (ZR b u) (Is (.int .i64 0))) e w') := (g_bezout_Inverse_okI hx la hy lb h0 hg).mono fun e w2 h => (by obtain ⟨u, v, h1, h2⟩ := h; exact ⟨u, v, h1, Gv.imp (T2.imp (ZR.imp hb) Is.imp) _ _ h2⟩)

end Go.Proofs.Ytmaconeeonkdgaa

/- Small facts for laws. -/
namespace Go.Proofs.Ytmaconeeonkdgaa
open Go.RowKit

theorem bool_of {w : World} {c : Bool} (e : Ending) (w' : World) (h : Gv w (Is (.bool c)) e w') : BoolP c w e w' := by
  obtain ⟨v, rfl, h1, h2⟩ := h
  exact ⟨by rw [h1], h2⟩
theorem tmod_nat (k m : Nat) : (k : Int).tmod (m : Int) = ((k % m : Nat) : Int) := rfl
end Go.Proofs.Ytmaconeeonkdgaa

/- the helpers of trellislaw06, printed by p_law6.py -/
namespace Go.Proofs.Ytmaconeeonkdgaa
open Go.RowKit

theorem ln_w64 {x : Nat} (h : x ≤ 18446744073709551615) : ln ((x : Nat) : Int) ≤ 1 := ln_w1 (by omega) (by omega)
theorem ZO.zr {b x : Nat} (hx : x ≤ 18446744073709551615) (h0 : x ≠ 0) (v : Value) (w : World) (h : ZO b x v w) : ZR b (x : Int) v w := by
  obtain ⟨A, rfl, ho⟩ := h
  exact ⟨_, _, _, _, rfl, Zr_nat (len1 hx h0) (own1_wd ho hx h0)⟩
theorem ZO.imp {b b' x : Nat} (hb : b ≤ b') (v : Value) (w : World) (h : ZO b' x v w) : ZO b x v w := by
  obtain ⟨A, rfl, ho⟩ := h
  exact ⟨A, rfl, ho.mono hb⟩
theorem g_same {w : World} {b b' : Nat} {A B : Option Addr} {n c m d k : Nat} (hx : Own w b 47 1 A n c ((wd k).map W64)) (hl : n ≤ 1099511627776) (hy : Own w b' 47 1 B m d ((wd k).map W64)) (hl' : m ≤ 1099511627776) :
    Calls Try.prog 58 #[.slice A n c, .slice B m d] w (Gv w (Is (.bool true))) := by
  have h := ref1_Same (hx.rd (Wf_wd _)) hl (hy.rd (Wf_wd _)) hl'
  rw [decide_eq_true rfl] at h
  exact h.mono gbool
theorem cmp3_lt_t {x y : Nat} (h : x < y) : cmpB .lss (cmp3 x y) 0 = some true := lt_t (cmp3_neg.2 h)
theorem cmp3_le_t {x y : Nat} (h : x ≤ y) : cmpB .leq (cmp3 x y) 0 = some true := by
  have e : ¬ 0 < cmp3 x y := fun e => by have := cmp3_pos.1 e; omega
  exact le_t (by omega)
theorem wd_topI {x : Int} (h : x ≠ 0) : (wd x.natAbs).getD (ln x - 1) 0 ≠ 0 := by
  have h1 := db_top (b := WB) (by decide) x.natAbs
  rw [← wd_db] at h1
  have h2 : (wd x.natAbs).length ≠ 0 := fun e => h (ln_eq_zero e)
  rcases h1 with h1 | h1
  · exact absurd h1 h2
  · exact h1
theorem wakes_nums {u v : Int} (h : Bez 12 18 u v) : (Int.gcd 12 18 : Int) = 6 ∧ u = 2 ∧ v = -1 := by
  have h1 := h.eq
  have h2 := h.lo (by decide)
  have h3 := h.hi (by decide)
  have e : (Int.gcd 12 18 : Int) = 6 := by decide +kernel
  rw [e] at h1 h3
  have e2 : Int.natAbs 18 = 18 := rfl
  rw [e2] at h3
  refine ⟨e, ?_, ?_⟩ <;> omega

set_option maxHeartbeats 4000000 in
theorem g_law6_ofI {w : World} {x : Nat} (hx : x ≤ 18446744073709551615)  :
    Calls Try.prog 29 #[.int .u64 ((x : Nat) : Int)] w (Gv w (ZO w.heap.size (x))) := by
  refine sx_enter Try.func29 rfl (n := 6) rfl (Nat.le_of_ble_eq_true rfl) (args := [.int .u64 ((x : Nat) : Int)]) ?_
  refine cw_keep [(0, .int .u64 ((x : Nat) : Int))] ⟨rfl, trivial⟩ ?_
  refine cw_seq ?_
  -- region 0
  refine cw_region ?_
  refine wl_alloc rfl (z := .agg #[.bool false, .slice none 0 0]) (vs := [.bool false, .slice none 0 0]) (fun _ => by kernel_rfl) rfl (by decide) fun g1 v2 nb => ?_
  have hb4 := nb.bk
  have ge5 : w.heap.size ≤ g1 := by rw [← nb.at_]; exact (Ext.refl w).size
  have e3 := nb.ext
  clear nb
  have hw1 : Ext w v2 := (Ext.refl w).trans e3
  refine wl_nil ?_
  refine eo_then ?_
  refine cw_seq ?_
  -- region 1
  refine cw_region ?_
  refine wl_move rfl rfl (by decide) ?_
  refine wl_bslice rfl rfl (by decide) (k := 1) (e := 47) [.int .u64 ((x : Nat) : Int)] (fun _ => by kernel_rfl) fun g6 v7 nb8 => ?_
  have o9 := O1.mk_ (x := x) (b := w.heap.size) nb8 hw1.size
  have e10 := nb8.ext
  have hw2 : Ext w v7 := hw1.trans e10
  refine wl_pure rfl rfl (v := .agg #[.bool false, .slice (some ⟨g6, 0, none⟩) 1 1]) (by decide) (by kernel_rfl) ?_
  have hb14 := (hb4.ext e10)
  refine wl_stored rfl rfl rfl aggInt rfl hb14 (Nat.le_of_ble_eq_true rfl) rfl [.bool false, .slice (some ⟨g6, 0, none⟩) 1 1] rfl fun v13 hb15 u16 hs17 => ?_
  have hw3 : Ext w v13 := u16.ext hw2 ge5
  refine wl_nil ?_
  refine eo_then ?_
  refine cw_ret ?_
  refine eo_ret [.agg #[.bool false, .slice (some ⟨g6, 0, none⟩) 1 1]] rfl ⟨⟨_, rfl, load_agg aggInt hb15 [.bool false, .slice (some ⟨g6, 0, none⟩) 1 1] rfl (Nat.le_of_ble_eq_true rfl) rfl⟩, trivial⟩ ?_
  exact ⟨_, rfl, ⟨_, rfl, (o9.updT hb14 (by decide) u16)⟩, hw3⟩
theorem g_law6_of {w : World} {x : Nat} {b : Nat} (hb : b ≤ w.heap.size)  (hx : x ≤ 18446744073709551615)  :
    Calls Try.prog 29 #[.int .u64 ((x : Nat) : Int)] w (Gv w (ZO b (x))) := (g_law6_ofI hx).mono (Gv.imp (ZO.imp hb))

set_option maxHeartbeats 4000000 in
theorem g_law6_alike {w : World} {b1 b2 : Nat} {sa sb : Bool} {Aa Ab : Option Addr} {na ca nb cb : Nat} {x : Int} (ha : Zr w b1 sa Aa na ca x) (la : na ≤ 1099511627776) (hb : Zr w b2 sb Ab nb cb x) (lb : nb ≤ 1099511627776)  :
    Calls Try.prog 31 #[.agg #[.bool sa, .slice Aa na ca], .agg #[.bool sb, .slice Ab nb cb]] w (Gv w (Is (.bool true))) := by
  refine sx_enter Try.func31 rfl (n := 19) rfl (Nat.le_of_ble_eq_true rfl) (args := [.agg #[.bool sa, .slice Aa na ca], .agg #[.bool sb, .slice Ab nb cb]]) ?_
  refine cw_keep [(0, .agg #[.bool sa, .slice Aa na ca]), (1, .agg #[.bool sb, .slice Ab nb cb])] ⟨rfl, rfl, trivial⟩ ?_
  refine cw_seq ?_
  -- region 0
  refine cw_region ?_
  refine wl_box rfl rfl (vs := [.bool sa, .slice Aa na ca]) rfl (by decide) fun g1 v2 nb => ?_
  have hb4 := nb.bk
  have ge5 : w.heap.size ≤ g1 := by rw [← nb.at_]; exact (Ext.refl w).size
  have e3 := nb.ext
  clear nb
  have hw1 : Ext w v2 := (Ext.refl w).trans e3
  refine wl_box rfl rfl (vs := [.bool sb, .slice Ab nb cb]) rfl (by decide) fun g6 v7 nb => ?_
  have hb9 := nb.bk
  have ge10 : w.heap.size ≤ g6 := by rw [← nb.at_]; exact hw1.size
  have q11 : g1 < g6 := by rw [← nb.at_]; exact hb4.lt
  have e8 := nb.ext
  clear nb
  have hw2 : Ext w v7 := hw1.trans e8
  refine wl_assign rfl rfl (by decide) ?_
  refine wl_nil ?_
  refine eo_then ?_
  refine cw_seq ?_
  -- region 1
  refine cw_region ?_
  refine wl_pure rfl rfl (v := .pointer (some ⟨g1, 1, none⟩)) (by decide) (by kernel_rfl) ?_
  refine wl_load rfl rfl (load_cell cellWords (hb4.ext e8) rfl) (by decide) ?_
  refine wl_pure rfl rfl (v := .pointer (some ⟨g6, 1, none⟩)) (by decide) (by kernel_rfl) ?_
  refine wl_load rfl rfl (load_cell cellWords hb9 rfl) (by decide) ?_
  refine wl_call rfl rfl (vs := [.slice Aa na ca, .slice Ab nb cb]) (by kernel_rfl) (by decide) (g_same (ha.ext (e3.trans e8)).own la (hb.ext (e3.trans e8)).own lb) ?_
  rintro _ v12 ⟨xr14, rfl, r14, e13⟩
  refine ret_intro ?_
  have hw3 : Ext w v12 := hw2.trans e13
  obtain rfl := r14
  refine wl_assign rfl rfl (by decide) ?_
  refine wl_nil ?_
  refine eo_then ?_
  refine cw_seq ?_
  -- region 2
  refine cw_region ?_
  refine wl_move rfl rfl (by decide) ?_
  refine wl_move rfl rfl (by decide) ?_
  refine wl_pure rfl rfl (v := .pointer (some ⟨g1, 0, none⟩)) (by decide) (by kernel_rfl) ?_
  refine wl_load rfl rfl (load_cell cellBool (hb4.ext (e8.trans e13)) rfl) (by decide) ?_
  refine wl_pure rfl rfl (v := .pointer (some ⟨g6, 0, none⟩)) (by decide) (by kernel_rfl) ?_
  refine wl_load rfl rfl (load_cell cellBool (hb9.ext e13) rfl) (by decide) ?_
  refine wl_pure rfl rfl (v := .bool (sa == sb)) (by decide) (by kernel_rfl) ?_
  refine wl_pure rfl rfl (v := .bool (sa == sb)) (by decide) (by kernel_rfl) ?_
  refine wl_assign rfl rfl (by decide) ?_
  refine wl_nil ?_
  refine eo_then ?_
  refine cw_ret ?_
  refine eo_ret [.bool (sa == sb)] rfl ⟨rfl, trivial⟩ ?_
  exact ⟨_, rfl, (show Value.bool (sa == sb) = .bool true by rw [ha.sgn, hb.sgn, beq_self_eq_true]), hw3⟩

set_option maxHeartbeats 4000000 in
theorem g_law6_least {w : World} {b1 : Nat} {sa : Bool} {Aa : Option Addr} {na ca : Nat} {x : Int} (ha : Zr w b1 sa Aa na ca x)  :
    Calls Try.prog 32 #[.agg #[.bool sa, .slice Aa na ca]] w (Gv w (Is (.bool true))) := by
  refine sx_enter Try.func32 rfl (n := 27) rfl (Nat.le_of_ble_eq_true rfl) (args := [.agg #[.bool sa, .slice Aa na ca]]) ?_
  refine cw_keep [(0, .agg #[.bool sa, .slice Aa na ca])] ⟨rfl, trivial⟩ ?_
  refine cw_seq ?_
  -- region 0
  refine cw_region ?_
  refine wl_box rfl rfl (vs := [.bool sa, .slice Aa na ca]) rfl (by decide) fun g1 v2 nb => ?_
  have hb4 := nb.bk
  have ge5 : w.heap.size ≤ g1 := by rw [← nb.at_]; exact (Ext.refl w).size
  have e3 := nb.ext
  clear nb
  have hw1 : Ext w v2 := (Ext.refl w).trans e3
  refine wl_assign rfl rfl (by decide) ?_
  refine wl_nil ?_
  refine eo_then ?_
  refine cw_seq ?_
  have hn := ha.len
  have hle := ha.rd.rv.le
  by_cases hx0 : x = 0
  ·
    have hn0 : na = 0 := by rw [hn, hx0]; rfl
    obtain rfl : sa = false := by rw [ha.sgn, hx0]; rfl
    -- region 1
    refine cw_region ?_
    refine wl_pure rfl rfl (v := .pointer (some ⟨g1, 1, none⟩)) (by decide) (by kernel_rfl) ?_
    refine wl_load rfl rfl (load_cell cellWords hb4 rfl) (by decide) ?_
    refine wl_pure rfl rfl (v := .int .i64 ((na : Nat) : Int)) (by decide) (by kernel_rfl) ?_
    refine wl_assign rfl rfl (by decide) ?_
    refine wl_nil ?_
    refine eo_then ?_
    refine cw_seq ?_
    -- region 2
    refine cw_region ?_
    refine wl_move rfl rfl (by decide) ?_
    refine wl_cmp rfl rfl rfl true (eq_t (by omega)) (by decide) ?_
    refine wl_move rfl rfl (by decide) ?_
    refine wl_pure rfl rfl (v := .pointer (some ⟨g1, 0, none⟩)) (by decide) (by kernel_rfl) ?_
    refine wl_load rfl rfl (load_cell cellBool hb4 rfl) (by decide) ?_
    refine wl_pure rfl rfl (v := .bool true) (by decide) (by kernel_rfl) ?_
    refine wl_pure rfl rfl (v := .bool true) (by decide) (by kernel_rfl) ?_
    refine wl_move rfl rfl (by decide) ?_
    refine wl_off rfl (by decide) ?_
    refine wl_off rfl (by decide) ?_
    refine wl_off rfl (by decide) ?_
    refine wl_off rfl (by decide) ?_
    refine wl_off rfl (by decide) ?_
    refine wl_off rfl (by decide) ?_
    refine wl_off rfl (by decide) ?_
    refine wl_off rfl (by decide) ?_
    refine wl_off rfl (by decide) ?_
    refine wl_off rfl (by decide) ?_
    refine wl_off rfl (by decide) ?_
    refine wl_pure rfl rfl (v := .bool true) (by decide) (by kernel_rfl) ?_
    refine wl_assign rfl rfl (by decide) ?_
    refine wl_nil ?_
    refine eo_then ?_
    refine cw_ret ?_
    refine eo_ret [.bool true] rfl ⟨rfl, trivial⟩ ?_
    exact ⟨_, rfl, rfl, hw1⟩
  ·
    have hn0 : na ≠ 0 := fun e => hx0 (ln_eq_zero (by rw [← hn, e]))
    have htop := wd_topI hx0
    rw [← hn] at htop
    -- region 1
    refine cw_region ?_
    refine wl_pure rfl rfl (v := .pointer (some ⟨g1, 1, none⟩)) (by decide) (by kernel_rfl) ?_
    refine wl_load rfl rfl (load_cell cellWords hb4 rfl) (by decide) ?_
    refine wl_pure rfl rfl (v := .int .i64 ((na : Nat) : Int)) (by decide) (by kernel_rfl) ?_
    refine wl_assign rfl rfl (by decide) ?_
    refine wl_nil ?_
    refine eo_then ?_
    refine cw_seq ?_
    -- region 2
    refine cw_region ?_
    refine wl_move rfl rfl (by decide) ?_
    refine wl_cmp rfl rfl rfl false (eq_f (by omega)) (by decide) ?_
    refine wl_move rfl rfl (by decide) ?_
    refine wl_off rfl (by decide) ?_
    refine wl_off rfl (by decide) ?_
    refine wl_off rfl (by decide) ?_
    refine wl_pure rfl rfl (v := .bool false) (by decide) (by kernel_rfl) ?_
    refine wl_move rfl rfl (by decide) ?_
    refine wl_move rfl rfl (by decide) ?_
    refine wl_cmp rfl rfl rfl true (gt_t (by omega)) (by decide) ?_
    refine wl_move rfl rfl (by decide) ?_
    refine wl_pure rfl rfl (v := .pointer (some ⟨g1, 1, none⟩)) (by decide) (by kernel_rfl) ?_
    refine wl_load rfl rfl (load_cell cellWords hb4 rfl) (by decide) ?_
    refine wl_move rfl rfl (by decide) ?_
    refine wl_ar rfl rfl rfl ((na - 1 : Nat) : Int) (ar_i64s (by omega) (by omega) (by have := ha.rd.rv.max; rw [len_maxLen] at this; omega)) (by decide) ?_
    obtain ⟨p9, hp9, hc9, hv9⟩ := (ha.ext e3).rd.at (i := na - 1) (by omega)
    refine wl_idx rfl rfl rfl un_u64 sz_u64 (na - 1) rfl (by omega) p9 hp9 (by decide) ?_
    refine wl_load rfl rfl (load_cell1 ag_u64 hc9) (by decide) ?_
    refine wl_cmp rfl rfl rfl true (ne_t (by omega)) (by decide) ?_
    refine wl_pure rfl rfl (v := .bool true) (by decide) (by kernel_rfl) ?_
    refine wl_pure rfl rfl (v := .bool true) (by decide) (by kernel_rfl) ?_
    refine wl_assign rfl rfl (by decide) ?_
    refine wl_nil ?_
    refine eo_then ?_
    refine cw_ret ?_
    refine eo_ret [.bool true] rfl ⟨rfl, trivial⟩ ?_
    exact ⟨_, rfl, rfl, hw1⟩

set_option maxHeartbeats 4000000 in
theorem g_law6_equal {w : World} {sa : Bool} {Aa : Option Addr} {na ca : Nat} {x : Int} {sb : Bool} {Ab : Option Addr} {nb cb : Nat} {y : Int} (hx : Zi w sa Aa na ca x) (la : na ≤ 17179869183) (hy : Zi w sb Ab nb cb y) (lb : nb ≤ 17179869183) (h : x = y) :
    Calls Try.prog 42 #[.agg #[.bool sa, .slice Aa na ca], .agg #[.bool sb, .slice Ab nb cb]] w (Gv w (Is (.bool true))) := by
  have Lx : ln x ≤ 17179869183 := Nat.le_trans hx.ln la
  have Ly : ln y ≤ 17179869183 := Nat.le_trans hy.ln lb
  refine sx_enter Try.func42 rfl (n := 9) rfl (Nat.le_of_ble_eq_true rfl) (args := [.agg #[.bool sa, .slice Aa na ca], .agg #[.bool sb, .slice Ab nb cb]]) ?_
  refine cw_keep [(0, .agg #[.bool sa, .slice Aa na ca]), (1, .agg #[.bool sb, .slice Ab nb cb])] ⟨rfl, rfl, trivial⟩ ?_
  refine cw_seq ?_
  -- region 0
  refine cw_region ?_
  refine wl_box rfl rfl (vs := [.bool sa, .slice Aa na ca]) rfl (by decide) fun g1 v2 nb => ?_
  have hb4 := nb.bk
  have ge5 : w.heap.size ≤ g1 := by rw [← nb.at_]; exact (Ext.refl w).size
  have e3 := nb.ext
  clear nb
  have hw1 : Ext w v2 := (Ext.refl w).trans e3
  refine wl_box rfl rfl (vs := [.bool sb, .slice Ab nb cb]) rfl (by decide) fun g6 v7 nb => ?_
  have hb9 := nb.bk
  have ge10 : w.heap.size ≤ g6 := by rw [← nb.at_]; exact hw1.size
  have q11 : g1 < g6 := by rw [← nb.at_]; exact hb4.lt
  have e8 := nb.ext
  clear nb
  have hw2 : Ext w v7 := hw1.trans e8
  refine wl_assign rfl rfl (by decide) ?_
  refine wl_nil ?_
  refine eo_then ?_
  refine cw_seq ?_
  -- region 1
  refine cw_region ?_
  refine wl_load rfl rfl (load_agg aggInt (hb4.ext e8) [.bool sa, .slice Aa na ca] rfl (Nat.le_of_ble_eq_true rfl) rfl) (by decide) ?_
  refine wl_load rfl rfl (load_agg aggInt hb9 [.bool sb, .slice Ab nb cb] rfl (Nat.le_of_ble_eq_true rfl) rfl) (by decide) ?_
  refine wl_call rfl rfl (vs := [.agg #[.bool sa, .slice Aa na ca], .agg #[.bool sb, .slice Ab nb cb]]) (by kernel_rfl) (by decide) (g_ref5_Cmp (hx.ext hw2) (Nat.le_trans la (by decide)) (hy.ext hw2) (Nat.le_trans lb (by decide))) ?_
  rintro _ v12 ⟨xr14, rfl, r14, e13⟩
  refine ret_intro ?_
  have hw3 : Ext w v12 := hw2.trans e13
  obtain rfl := r14
  refine wl_cmp rfl rfl rfl true (scmp_eq_t h) (by decide) ?_
  refine wl_assign rfl rfl (by decide) ?_
  refine wl_nil ?_
  refine eo_then ?_
  refine cw_ret ?_
  refine eo_ret [.bool true] rfl ⟨rfl, trivial⟩ ?_
  exact ⟨_, rfl, rfl, hw3⟩

set_option maxHeartbeats 4000000 in
theorem g_law6_within {w : World} {sa : Bool} {Aa : Option Addr} {na ca : Nat} {x : Int} {sb : Bool} {Ab : Option Addr} {nb cb : Nat} {y : Int} (hx : Zi w sa Aa na ca x) (la : na ≤ 17179869183) (hy : Zi w sb Ab nb cb y) (lb : nb ≤ 17179869183) (h0 : 0 ≤ x) (h1 : x < y.natAbs) :
    Calls Try.prog 33 #[.agg #[.bool sa, .slice Aa na ca], .agg #[.bool sb, .slice Ab nb cb]] w (Gv w (Is (.bool true))) := by
  have Lx : ln x ≤ 17179869183 := Nat.le_trans hx.ln la
  have Ly : ln y ≤ 17179869183 := Nat.le_trans hy.ln lb
  refine sx_enter Try.func33 rfl (n := 16) rfl (Nat.le_of_ble_eq_true rfl) (args := [.agg #[.bool sa, .slice Aa na ca], .agg #[.bool sb, .slice Ab nb cb]]) ?_
  refine cw_keep [(0, .agg #[.bool sa, .slice Aa na ca]), (1, .agg #[.bool sb, .slice Ab nb cb])] ⟨rfl, rfl, trivial⟩ ?_
  refine cw_seq ?_
  -- region 0
  refine cw_region ?_
  refine wl_box rfl rfl (vs := [.bool sa, .slice Aa na ca]) rfl (by decide) fun g1 v2 nb => ?_
  have hb4 := nb.bk
  have ge5 : w.heap.size ≤ g1 := by rw [← nb.at_]; exact (Ext.refl w).size
  have e3 := nb.ext
  clear nb
  have hw1 : Ext w v2 := (Ext.refl w).trans e3
  refine wl_box rfl rfl (vs := [.bool sb, .slice Ab nb cb]) rfl (by decide) fun g6 v7 nb => ?_
  have hb9 := nb.bk
  have ge10 : w.heap.size ≤ g6 := by rw [← nb.at_]; exact hw1.size
  have q11 : g1 < g6 := by rw [← nb.at_]; exact hb4.lt
  have e8 := nb.ext
  clear nb
  have hw2 : Ext w v7 := hw1.trans e8
  refine wl_assign rfl rfl (by decide) ?_
  refine wl_nil ?_
  refine eo_then ?_
  refine cw_seq ?_
  -- region 1
  refine cw_region ?_
  refine wl_load rfl rfl (load_agg aggInt (hb4.ext e8) [.bool sa, .slice Aa na ca] rfl (Nat.le_of_ble_eq_true rfl) rfl) (by decide) ?_
  refine wl_call rfl rfl (vs := [.agg #[.bool sa, .slice Aa na ca]]) (by kernel_rfl) (by decide) (g_ref5_Sign (hx.ext hw2) (Nat.le_trans la (by decide))) ?_
  rintro _ v12 ⟨xr14, rfl, r14, e13⟩
  refine ret_intro ?_
  have hw3 : Ext w v12 := hw2.trans e13
  obtain rfl := r14
  refine wl_assign rfl rfl (by decide) ?_
  refine wl_nil ?_
  refine eo_then ?_
  refine cw_seq ?_
  -- region 2
  refine cw_region ?_
  refine wl_move rfl rfl (by decide) ?_
  refine wl_cmp rfl rfl rfl true (scmp_ge_t h0) (by decide) ?_
  refine wl_move rfl rfl (by decide) ?_
  refine wl_load rfl rfl (load_agg aggInt (hb4.ext (e8.trans e13)) [.bool sa, .slice Aa na ca] rfl (Nat.le_of_ble_eq_true rfl) rfl) (by decide) ?_
  refine wl_load rfl rfl (load_agg aggInt (hb9.ext e13) [.bool sb, .slice Ab nb cb] rfl (Nat.le_of_ble_eq_true rfl) rfl) (by decide) ?_
  refine wl_call rfl rfl (vs := [.agg #[.bool sa, .slice Aa na ca], .agg #[.bool sb, .slice Ab nb cb]]) (by kernel_rfl) (by decide) (g_ref5_CmpAbs (hx.ext hw3) (Nat.le_trans la (by decide)) (hy.ext hw3) (Nat.le_trans lb (by decide))) ?_
  rintro _ v15 ⟨xr17, rfl, r17, e16⟩
  refine ret_intro ?_
  have hw4 : Ext w v15 := hw3.trans e16
  obtain rfl := r17
  refine wl_cmp rfl rfl rfl true (cmp3_lt_t (by omega)) (by decide) ?_
  refine wl_pure rfl rfl (v := .bool true) (by decide) (by kernel_rfl) ?_
  refine wl_assign rfl rfl (by decide) ?_
  refine wl_nil ?_
  refine eo_then ?_
  refine cw_ret ?_
  refine eo_ret [.bool true] rfl ⟨rfl, trivial⟩ ?_
  exact ⟨_, rfl, rfl, hw4⟩

theorem dvd_mod {x y : Int} : x ∣ y ↔ y.natAbs % x.natAbs = 0 := by rw [← Int.natAbs_dvd_natAbs]; exact Nat.dvd_iff_mod_eq_zero

set_option maxHeartbeats 4000000 in
theorem g_law6_divides {w : World} {sa : Bool} {Aa : Option Addr} {na ca : Nat} {x : Int} {sb : Bool} {Ab : Option Addr} {nb cb : Nat} {y : Int} (hx : Zi w sa Aa na ca x) (la : na ≤ 17179869183) (hy : Zi w sb Ab nb cb y) (lb : nb ≤ 17179869183) (h : x ∣ y) :
    Calls Try.prog 36 #[.agg #[.bool sa, .slice Aa na ca], .agg #[.bool sb, .slice Ab nb cb]] w (Gv w (Is (.bool true))) := by
  have Lx : ln x ≤ 17179869183 := Nat.le_trans hx.ln la
  have Ly : ln y ≤ 17179869183 := Nat.le_trans hy.ln lb
  refine sx_enter Try.func36 rfl (n := 21) rfl (Nat.le_of_ble_eq_true rfl) (args := [.agg #[.bool sa, .slice Aa na ca], .agg #[.bool sb, .slice Ab nb cb]]) ?_
  refine cw_keep [(0, .agg #[.bool sa, .slice Aa na ca]), (1, .agg #[.bool sb, .slice Ab nb cb])] ⟨rfl, rfl, trivial⟩ ?_
  refine cw_seq ?_
  -- region 0
  refine cw_region ?_
  refine wl_box rfl rfl (vs := [.bool sa, .slice Aa na ca]) rfl (by decide) fun g1 v2 nb => ?_
  have hb4 := nb.bk
  have ge5 : w.heap.size ≤ g1 := by rw [← nb.at_]; exact (Ext.refl w).size
  have e3 := nb.ext
  clear nb
  have hw1 : Ext w v2 := (Ext.refl w).trans e3
  refine wl_box rfl rfl (vs := [.bool sb, .slice Ab nb cb]) rfl (by decide) fun g6 v7 nb => ?_
  have hb9 := nb.bk
  have ge10 : w.heap.size ≤ g6 := by rw [← nb.at_]; exact hw1.size
  have q11 : g1 < g6 := by rw [← nb.at_]; exact hb4.lt
  have e8 := nb.ext
  clear nb
  have hw2 : Ext w v7 := hw1.trans e8
  refine wl_assign rfl rfl (by decide) ?_
  refine wl_nil ?_
  refine eo_then ?_
  refine cw_seq ?_
  refine cw_seq ?_
  by_cases hx0 : x = 0
  ·
    -- region 1
    refine cw_region ?_
    refine wl_load rfl rfl (load_agg aggInt (hb4.ext e8) [.bool sa, .slice Aa na ca] rfl (Nat.le_of_ble_eq_true rfl) rfl) (by decide) ?_
    refine wl_call rfl rfl (vs := [.agg #[.bool sa, .slice Aa na ca]]) (by kernel_rfl) (by decide) (g_ref5_Sign (hx.ext hw2) (Nat.le_trans la (by decide))) ?_
    rintro _ v12 ⟨xr14, rfl, r14, e13⟩
    refine ret_intro ?_
    have hw3 : Ext w v12 := hw2.trans e13
    obtain rfl := r14
    refine wl_cmp rfl rfl rfl true (scmp_eq_t hx0) (by decide) ?_
    refine wl_nil ?_
    refine eo_then ?_
    refine cw_true rfl ?_
    refine cw_seq ?_
    -- region 2
    refine cw_region ?_
    refine wl_load rfl rfl (load_agg aggInt (hb9.ext e13) [.bool sb, .slice Ab nb cb] rfl (Nat.le_of_ble_eq_true rfl) rfl) (by decide) ?_
    refine wl_call rfl rfl (vs := [.agg #[.bool sb, .slice Ab nb cb]]) (by kernel_rfl) (by decide) (g_ref5_Sign (hy.ext hw3) (Nat.le_trans lb (by decide))) ?_
    rintro _ v15 ⟨xr17, rfl, r17, e16⟩
    refine ret_intro ?_
    have hw4 : Ext w v15 := hw3.trans e16
    obtain rfl := r17
    refine wl_cmp rfl rfl rfl true (scmp_eq_t (Int.zero_dvd.1 (hx0 ▸ h))) (by decide) ?_
    refine wl_assign rfl rfl (by decide) ?_
    refine wl_nil ?_
    refine eo_then ?_
    refine cw_ret ?_
    refine eo_thenR ?_
    refine eo_ret [.bool true] rfl ⟨rfl, trivial⟩ ?_
    exact ⟨_, rfl, rfl, hw4⟩
  ·
    -- region 1
    refine cw_region ?_
    refine wl_load rfl rfl (load_agg aggInt (hb4.ext e8) [.bool sa, .slice Aa na ca] rfl (Nat.le_of_ble_eq_true rfl) rfl) (by decide) ?_
    refine wl_call rfl rfl (vs := [.agg #[.bool sa, .slice Aa na ca]]) (by kernel_rfl) (by decide) (g_ref5_Sign (hx.ext hw2) (Nat.le_trans la (by decide))) ?_
    rintro _ v18 ⟨xr20, rfl, r20, e19⟩
    refine ret_intro ?_
    have hw3 : Ext w v18 := hw2.trans e19
    obtain rfl := r20
    refine wl_cmp rfl rfl rfl false (scmp_eq_f hx0) (by decide) ?_
    refine wl_nil ?_
    refine eo_then ?_
    refine cw_false rfl ?_
    refine cw_skip ?_
    refine eo_then ?_
    refine cw_seq ?_
    -- region 3
    refine cw_region ?_
    refine wl_load rfl rfl (load_agg aggInt (hb9.ext e19) [.bool sb, .slice Ab nb cb] rfl (Nat.le_of_ble_eq_true rfl) rfl) (by decide) ?_
    refine wl_load rfl rfl (load_agg aggInt (hb4.ext (e8.trans e19)) [.bool sa, .slice Aa na ca] rfl (Nat.le_of_ble_eq_true rfl) rfl) (by decide) ?_
    have L21 : ln (y.tdiv x) ≤ 17179869183 := Nat.le_trans (ln_tdiv _ _) Ly
    refine wl_call rfl rfl (vs := [.agg #[.bool sb, .slice Ab nb cb], .agg #[.bool sa, .slice Aa na ca]]) (by kernel_rfl) (by decide) (g_ref5_Exact_ok hw3.size (hy.ext hw3) (Nat.le_trans lb (by decide)) (hx.ext hw3) (Nat.le_trans la (by decide)) hx0 (dvd_mod.1 h)) ?_
    rintro _ v22 ⟨xr24, rfl, r24, e23⟩
    refine ret_intro ?_
    have hw4 : Ext w v22 := hw3.trans e23
    obtain ⟨a25_0, a25_1, rfl, r25_0, r25_1⟩ := r24
    obtain ⟨s26, A26, n26, c26, rfl, z26⟩ := r25_0
    obtain rfl := r25_1
    refine wl_move rfl rfl (by decide) ?_
    refine wl_pure rfl rfl (v := .agg #[.bool s26, .slice A26 n26 c26]) (by decide) (by kernel_rfl) ?_
    refine wl_pure rfl rfl (v := .int .i64 0) (by decide) (by kernel_rfl) ?_
    refine wl_alloc rfl (z := .agg #[.bool false, .slice none 0 0]) (vs := [.bool false, .slice none 0 0]) (fun _ => by kernel_rfl) rfl (by decide) fun g27 v28 nb => ?_
    have hb30 := nb.bk
    have ge31 : w.heap.size ≤ g27 := by rw [← nb.at_]; exact hw4.size
    have q32 : g6 < g27 := by rw [← nb.at_]; exact (hb9.ext (e19.trans e23)).lt
    have e29 := nb.ext
    clear nb
    have hw5 : Ext w v28 := hw4.trans e29
    have hb34 := hb30
    refine wl_stored rfl rfl rfl aggInt rfl hb34 (Nat.le_of_ble_eq_true rfl) rfl [.bool s26, .slice A26 n26 c26] rfl fun v33 hb35 u36 hs37 => ?_
    have hw6 : Ext w v33 := u36.ext hw5 ge31
    refine wl_assign rfl rfl (by decide) ?_
    refine wl_nil ?_
    refine eo_then ?_
    refine cw_seq ?_
    -- region 4
    refine cw_region ?_
    refine wl_move rfl rfl (by decide) ?_
    refine wl_pure rfl rfl (v := .bool true) (by decide) (by kernel_rfl) ?_
    refine wl_assign rfl rfl (by decide) ?_
    refine wl_nil ?_
    refine eo_then ?_
    refine cw_ret ?_
    refine eo_ret [.bool true] rfl ⟨rfl, trivial⟩ ?_
    exact ⟨_, rfl, rfl, hw6⟩
set_option maxHeartbeats 4000000 in
theorem g_law6_divides_f {w : World} {sa : Bool} {Aa : Option Addr} {na ca : Nat} {x : Int} {sb : Bool} {Ab : Option Addr} {nb cb : Nat} {y : Int} (hx : Zi w sa Aa na ca x) (la : na ≤ 17179869183) (hy : Zi w sb Ab nb cb y) (lb : nb ≤ 17179869183) (h : ¬ x ∣ y) :
    Calls Try.prog 36 #[.agg #[.bool sa, .slice Aa na ca], .agg #[.bool sb, .slice Ab nb cb]] w (Gv w (Is (.bool false))) := by
  have Lx : ln x ≤ 17179869183 := Nat.le_trans hx.ln la
  have Ly : ln y ≤ 17179869183 := Nat.le_trans hy.ln lb
  refine sx_enter Try.func36 rfl (n := 21) rfl (Nat.le_of_ble_eq_true rfl) (args := [.agg #[.bool sa, .slice Aa na ca], .agg #[.bool sb, .slice Ab nb cb]]) ?_
  refine cw_keep [(0, .agg #[.bool sa, .slice Aa na ca]), (1, .agg #[.bool sb, .slice Ab nb cb])] ⟨rfl, rfl, trivial⟩ ?_
  refine cw_seq ?_
  -- region 0
  refine cw_region ?_
  refine wl_box rfl rfl (vs := [.bool sa, .slice Aa na ca]) rfl (by decide) fun g1 v2 nb => ?_
  have hb4 := nb.bk
  have ge5 : w.heap.size ≤ g1 := by rw [← nb.at_]; exact (Ext.refl w).size
  have e3 := nb.ext
  clear nb
  have hw1 : Ext w v2 := (Ext.refl w).trans e3
  refine wl_box rfl rfl (vs := [.bool sb, .slice Ab nb cb]) rfl (by decide) fun g6 v7 nb => ?_
  have hb9 := nb.bk
  have ge10 : w.heap.size ≤ g6 := by rw [← nb.at_]; exact hw1.size
  have q11 : g1 < g6 := by rw [← nb.at_]; exact hb4.lt
  have e8 := nb.ext
  clear nb
  have hw2 : Ext w v7 := hw1.trans e8
  refine wl_assign rfl rfl (by decide) ?_
  refine wl_nil ?_
  refine eo_then ?_
  refine cw_seq ?_
  refine cw_seq ?_
  by_cases hx0 : x = 0
  ·
    -- region 1
    refine cw_region ?_
    refine wl_load rfl rfl (load_agg aggInt (hb4.ext e8) [.bool sa, .slice Aa na ca] rfl (Nat.le_of_ble_eq_true rfl) rfl) (by decide) ?_
    refine wl_call rfl rfl (vs := [.agg #[.bool sa, .slice Aa na ca]]) (by kernel_rfl) (by decide) (g_ref5_Sign (hx.ext hw2) (Nat.le_trans la (by decide))) ?_
    rintro _ v12 ⟨xr14, rfl, r14, e13⟩
    refine ret_intro ?_
    have hw3 : Ext w v12 := hw2.trans e13
    obtain rfl := r14
    refine wl_cmp rfl rfl rfl true (scmp_eq_t hx0) (by decide) ?_
    refine wl_nil ?_
    refine eo_then ?_
    refine cw_true rfl ?_
    refine cw_seq ?_
    -- region 2
    refine cw_region ?_
    refine wl_load rfl rfl (load_agg aggInt (hb9.ext e13) [.bool sb, .slice Ab nb cb] rfl (Nat.le_of_ble_eq_true rfl) rfl) (by decide) ?_
    refine wl_call rfl rfl (vs := [.agg #[.bool sb, .slice Ab nb cb]]) (by kernel_rfl) (by decide) (g_ref5_Sign (hy.ext hw3) (Nat.le_trans lb (by decide))) ?_
    rintro _ v15 ⟨xr17, rfl, r17, e16⟩
    refine ret_intro ?_
    have hw4 : Ext w v15 := hw3.trans e16
    obtain rfl := r17
    refine wl_cmp rfl rfl rfl false (scmp_eq_f (fun e => h (by rw [hx0, e]; exact Int.dvd_refl 0))) (by decide) ?_
    refine wl_assign rfl rfl (by decide) ?_
    refine wl_nil ?_
    refine eo_then ?_
    refine cw_ret ?_
    refine eo_thenR ?_
    refine eo_ret [.bool false] rfl ⟨rfl, trivial⟩ ?_
    exact ⟨_, rfl, rfl, hw4⟩
  ·
    -- region 1
    refine cw_region ?_
    refine wl_load rfl rfl (load_agg aggInt (hb4.ext e8) [.bool sa, .slice Aa na ca] rfl (Nat.le_of_ble_eq_true rfl) rfl) (by decide) ?_
    refine wl_call rfl rfl (vs := [.agg #[.bool sa, .slice Aa na ca]]) (by kernel_rfl) (by decide) (g_ref5_Sign (hx.ext hw2) (Nat.le_trans la (by decide))) ?_
    rintro _ v18 ⟨xr20, rfl, r20, e19⟩
    refine ret_intro ?_
    have hw3 : Ext w v18 := hw2.trans e19
    obtain rfl := r20
    refine wl_cmp rfl rfl rfl false (scmp_eq_f hx0) (by decide) ?_
    refine wl_nil ?_
    refine eo_then ?_
    refine cw_false rfl ?_
    refine cw_skip ?_
    refine eo_then ?_
    refine cw_seq ?_
    -- region 3
    refine cw_region ?_
    refine wl_load rfl rfl (load_agg aggInt (hb9.ext e19) [.bool sb, .slice Ab nb cb] rfl (Nat.le_of_ble_eq_true rfl) rfl) (by decide) ?_
    refine wl_load rfl rfl (load_agg aggInt (hb4.ext (e8.trans e19)) [.bool sa, .slice Aa na ca] rfl (Nat.le_of_ble_eq_true rfl) rfl) (by decide) ?_
    refine wl_call rfl rfl (vs := [.agg #[.bool sb, .slice Ab nb cb], .agg #[.bool sa, .slice Aa na ca]]) (by kernel_rfl) (by decide) (g_ref5_Exact_not hw3.size (hy.ext hw3) (Nat.le_trans lb (by decide)) (hx.ext hw3) (Nat.le_trans la (by decide)) hx0 (fun e => h (dvd_mod.2 e))) ?_
    rintro _ v21 ⟨xr23, rfl, r23, e22⟩
    refine ret_intro ?_
    have hw4 : Ext w v21 := hw3.trans e22
    obtain ⟨a24_0, a24_1, rfl, r24_0, r24_1⟩ := r23
    obtain ⟨s25, A25, n25, c25, rfl, z25⟩ := r24_0
    obtain rfl := r24_1
    refine wl_move rfl rfl (by decide) ?_
    refine wl_pure rfl rfl (v := .agg #[.bool s25, .slice A25 n25 c25]) (by decide) (by kernel_rfl) ?_
    refine wl_pure rfl rfl (v := .int .i64 8) (by decide) (by kernel_rfl) ?_
    refine wl_alloc rfl (z := .agg #[.bool false, .slice none 0 0]) (vs := [.bool false, .slice none 0 0]) (fun _ => by kernel_rfl) rfl (by decide) fun g26 v27 nb => ?_
    have hb29 := nb.bk
    have ge30 : w.heap.size ≤ g26 := by rw [← nb.at_]; exact hw4.size
    have q31 : g6 < g26 := by rw [← nb.at_]; exact (hb9.ext (e19.trans e22)).lt
    have e28 := nb.ext
    clear nb
    have hw5 : Ext w v27 := hw4.trans e28
    have hb33 := hb29
    refine wl_stored rfl rfl rfl aggInt rfl hb33 (Nat.le_of_ble_eq_true rfl) rfl [.bool s25, .slice A25 n25 c25] rfl fun v32 hb34 u35 hs36 => ?_
    have hw6 : Ext w v32 := u35.ext hw5 ge30
    refine wl_assign rfl rfl (by decide) ?_
    refine wl_nil ?_
    refine eo_then ?_
    refine cw_seq ?_
    -- region 4
    refine cw_region ?_
    refine wl_move rfl rfl (by decide) ?_
    refine wl_pure rfl rfl (v := .bool false) (by decide) (by kernel_rfl) ?_
    refine wl_assign rfl rfl (by decide) ?_
    refine wl_nil ?_
    refine eo_then ?_
    refine cw_ret ?_
    refine eo_ret [.bool false] rfl ⟨rfl, trivial⟩ ?_
    exact ⟨_, rfl, rfl, hw6⟩

set_option maxHeartbeats 4000000 in
theorem g_law6_wakes (w : World)  :
    Calls Try.prog 27 #[] w (Gv w (Is (.bool true))) := by
  refine sx_enter Try.func27 rfl (n := 25) rfl (Nat.le_of_ble_eq_true rfl) (args := []) ?_
  refine cw_keep [] trivial ?_
  refine cw_seq ?_
  -- region 0
  refine cw_region ?_
  refine wl_assign rfl rfl (by decide) ?_
  refine wl_nil ?_
  refine eo_then ?_
  refine cw_seq ?_
  -- region 1
  refine cw_region ?_
  refine wl_call rfl rfl (vs := [.int .u64 12]) (by kernel_rfl) (by decide) ((g_law6_of (Ext.refl w).size (by decide : 12 ≤ 18446744073709551615)).mono (Gv.imp (ZO.zr (by decide : 12 ≤ 18446744073709551615) (by decide : 12 ≠ 0)))) ?_
  rintro _ v1 ⟨xr3, rfl, r3, e2⟩
  refine ret_intro ?_
  have hw1 : Ext w v1 := (Ext.refl w).trans e2
  obtain ⟨s4, A4, n4, c4, rfl, z4⟩ := r3
  refine wl_call rfl rfl (vs := [.int .u64 18]) (by kernel_rfl) (by decide) ((g_law6_of hw1.size (by decide : 18 ≤ 18446744073709551615)).mono (Gv.imp (ZO.zr (by decide : 18 ≤ 18446744073709551615) (by decide : 18 ≠ 0)))) ?_
  rintro _ v5 ⟨xr7, rfl, r7, e6⟩
  refine ret_intro ?_
  have hw2 : Ext w v5 := hw1.trans e6
  obtain ⟨s8, A8, n8, c8, rfl, z8⟩ := r7
  refine wl_call rfl rfl (vs := [.agg #[.bool s4, .slice A4 n4 c4], .agg #[.bool s8, .slice A8 n8 c8]]) (by kernel_rfl) (by decide) (g_bezout_Ext hw2.size (z4.ext e6).zi (z4.le (Nat.le_trans (ln_w64 (by decide : 12 ≤ 18446744073709551615)) (by decide))) z8.zi (z8.le (Nat.le_trans (ln_w64 (by decide : 18 ≤ 18446744073709551615)) (by decide)))) ?_
  rintro _ v9 ⟨u12, v13, p14, xr11, rfl, r11, e10⟩
  have L15 : ln ((Int.gcd ((12 : Nat) : Int) ((18 : Nat) : Int) : Int)) ≤ 1 := Nat.le_trans (ln_gcd _ _) (Nat.max_le.2 ⟨Nat.le_trans (ln_w64 (by decide : 12 ≤ 18446744073709551615)) (by decide), Nat.le_trans (ln_w64 (by decide : 18 ≤ 18446744073709551615)) (by decide)⟩)
  have L16 : ln (u12) ≤ 2 := (p14.ln_u (ln_w64 (by decide : 12 ≤ 18446744073709551615)) (ln_w64 (by decide : 18 ≤ 18446744073709551615)))
  have L17 : ln (v13) ≤ 2 := (p14.ln_v (ln_w64 (by decide : 12 ≤ 18446744073709551615)) (ln_w64 (by decide : 18 ≤ 18446744073709551615)))
  refine ret_intro ?_
  have hw3 : Ext w v9 := hw2.trans e10
  obtain ⟨a18_0, a18_1, a18_2, rfl, r18_0, r18_1, r18_2⟩ := r11
  obtain ⟨s19, A19, n19, c19, rfl, z19⟩ := r18_0
  obtain ⟨s20, A20, n20, c20, rfl, z20⟩ := r18_1
  obtain ⟨s21, A21, n21, c21, rfl, z21⟩ := r18_2
  refine wl_move rfl rfl (by decide) ?_
  refine wl_pure rfl rfl (v := .agg #[.bool s19, .slice A19 n19 c19]) (by decide) (by kernel_rfl) ?_
  refine wl_pure rfl rfl (v := .agg #[.bool s20, .slice A20 n20 c20]) (by decide) (by kernel_rfl) ?_
  refine wl_pure rfl rfl (v := .agg #[.bool s21, .slice A21 n21 c21]) (by decide) (by kernel_rfl) ?_
  refine wl_alloc rfl (z := .agg #[.bool false, .slice none 0 0]) (vs := [.bool false, .slice none 0 0]) (fun _ => by kernel_rfl) rfl (by decide) fun g22 v23 nb => ?_
  have hb25 := nb.bk
  have ge26 : w.heap.size ≤ g22 := by rw [← nb.at_]; exact hw3.size
  have e24 := nb.ext
  clear nb
  have hw4 : Ext w v23 := hw3.trans e24
  refine wl_alloc rfl (z := .agg #[.bool false, .slice none 0 0]) (vs := [.bool false, .slice none 0 0]) (fun _ => by kernel_rfl) rfl (by decide) fun g27 v28 nb => ?_
  have hb30 := nb.bk
  have ge31 : w.heap.size ≤ g27 := by rw [← nb.at_]; exact hw4.size
  have q32 : g22 < g27 := by rw [← nb.at_]; exact hb25.lt
  have e29 := nb.ext
  clear nb
  have hw5 : Ext w v28 := hw4.trans e29
  refine wl_alloc rfl (z := .agg #[.bool false, .slice none 0 0]) (vs := [.bool false, .slice none 0 0]) (fun _ => by kernel_rfl) rfl (by decide) fun g33 v34 nb => ?_
  have hb36 := nb.bk
  have ge37 : w.heap.size ≤ g33 := by rw [← nb.at_]; exact hw5.size
  have q38 : g27 < g33 := by rw [← nb.at_]; exact hb30.lt
  have e35 := nb.ext
  clear nb
  have hw6 : Ext w v34 := hw5.trans e35
  have hb40 := (hb25.ext (e29.trans e35))
  refine wl_stored rfl rfl rfl aggInt rfl hb40 (Nat.le_of_ble_eq_true rfl) rfl [.bool s19, .slice A19 n19 c19] rfl fun v39 hb41 u42 hs43 => ?_
  have hw7 : Ext w v39 := u42.ext hw6 ge26
  have hb45 := ((hb30.ext e35).updN u42 (by omega))
  refine wl_stored rfl rfl rfl aggInt rfl hb45 (Nat.le_of_ble_eq_true rfl) rfl [.bool s20, .slice A20 n20 c20] rfl fun v44 hb46 u47 hs48 => ?_
  have hw8 : Ext w v44 := u47.ext hw7 ge31
  have hb50 := ((hb36.updN u42 (by omega)).updN u47 (by omega))
  refine wl_stored rfl rfl rfl aggInt rfl hb50 (Nat.le_of_ble_eq_true rfl) rfl [.bool s21, .slice A21 n21 c21] rfl fun v49 hb51 u52 hs53 => ?_
  have hw9 : Ext w v49 := u52.ext hw8 ge37
  refine wl_nil ?_
  refine eo_then ?_
  refine cw_seq ?_
  obtain ⟨wk1, wk2, wk3⟩ := wakes_nums p14
  -- region 2, in whatever order
  refine cw_draw mix 14 [] [Is (.agg #[.bool s19, .slice A19 n19 c19]), ZR w.heap.size (((6 : Nat) : Int)), Is (.bool true), Is (.bool true), Is (.agg #[.bool s20, .slice A20 n20 c20]), ZR w.heap.size (((2 : Nat) : Int)), Is (.bool true), Is (.bool true), Is (.bool true), Is (.agg #[.bool s21, .slice A21 n21 c21]), WR w.heap.size (1), ZR w.heap.size (-((1 : Nat) : Int)), Is (.bool true), Is (.bool true)] [[], [], [0, 1], [2], [3], [3], [3, 4, 5], [3, 6], [7], [8], [8], [8, 10], [8, 9, 11], [8, 12]] [[], [], [0, 1], [0, 1, 2], [0, 1, 2, 3], [0, 1, 2, 3], [0, 1, 2, 3, 4, 5], [0, 1, 2, 3, 4, 5, 6], [0, 1, 2, 3, 4, 5, 6, 7], [0, 1, 2, 3, 4, 5, 6, 7, 8], [0, 1, 2, 3, 4, 5, 6, 7, 8], [0, 1, 2, 3, 4, 5, 6, 7, 8, 10], [0, 1, 2, 3, 4, 5, 6, 7, 8, 9, 10, 11], [0, 1, 2, 3, 4, 5, 6, 7, 8, 9, 10, 11, 12], [0, 1, 2, 3, 4, 5, 6, 7, 8, 9, 10, 11, 12, 13]] rfl
    (obs_cons rfl rfl (hob rfl rfl ?_) (obs_cons rfl rfl (hob rfl rfl ?_) (obs_cons rfl rfl (hob rfl rfl ?_) (obs_cons rfl rfl (hob rfl rfl ?_) (obs_cons rfl rfl (hob rfl rfl ?_) (obs_cons rfl rfl (hob rfl rfl ?_) (obs_cons rfl rfl (hob rfl rfl ?_) (obs_cons rfl rfl (hob rfl rfl ?_) (obs_cons rfl rfl (hob rfl rfl ?_) (obs_cons rfl rfl (hob rfl rfl ?_) (obs_cons rfl rfl (hob rfl rfl ?_) (obs_cons rfl rfl (hob rfl rfl ?_) (obs_cons rfl rfl (hob rfl rfl ?_) (obs_cons rfl rfl (hob rfl rfl ?_) obs_nil)))))))))))))) ?_
  · -- 0
    intro v58 e59
    have hw10 : Ext w v58 := hw9.trans e59
    refine deps_nil ?_
    refine wl_load rfl rfl (load_agg aggInt (((hb41.updN u47 (by omega)).updN u52 (by omega)).ext e59) [.bool s19, .slice A19 n19 c19] rfl (Nat.le_of_ble_eq_true rfl) rfl) (by decide) ?_
    exact pi_done rfl (Ext.refl _) rfl
  · -- 1
    intro v60 e61
    have hw10 : Ext w v60 := hw9.trans e61
    refine deps_nil ?_
    refine wl_call rfl rfl (vs := [.int .u64 6]) (by kernel_rfl) (by decide) ((g_law6_of hw10.size (by decide : 6 ≤ 18446744073709551615)).mono (Gv.imp (ZO.zr (by decide : 6 ≤ 18446744073709551615) (by decide : 6 ≠ 0)))) ?_
    rintro _ v62 ⟨xr64, rfl, r64, e63⟩
    refine ret_intro ?_
    have hw11 : Ext w v62 := hw10.trans e63
    obtain ⟨s65, A65, n65, c65, rfl, z65⟩ := r64
    exact pi_done rfl e63 ⟨_, _, _, _, rfl, z65⟩
  · -- 2
    intro v66 e67
    have hw10 : Ext w v66 := hw9.trans e67
    refine deps_cons rfl rfl fun x68 y69 h70 e71 f72 => ?_
    obtain rfl := h70
    refine deps_cons rfl rfl fun x73 y74 h75 e76 f77 => ?_
    obtain ⟨s78, A78, n78, c78, rfl, z78⟩ := h75
    have z78 := z78.ext f77
    refine deps_nil ?_
    refine wl_call rfl rfl (vs := [.agg #[.bool s19, .slice A19 n19 c19], .agg #[.bool s78, .slice A78 n78 c78]]) (by kernel_rfl) (by decide) (g_law6_alike (((((z19.ext (e24.trans (e29.trans e35))).updT hb40 u42).updT hb45 u47).updT hb50 u52).ext e67) (z19.le (Nat.le_trans L15 (by decide))) (z78.cast (by first | exact wk1.symm | exact wk2.symm | exact wk3.symm)) (z78.le (Nat.le_trans (ln_w64 (by decide : 6 ≤ 18446744073709551615)) (by decide)))) ?_
    rintro _ v79 ⟨xr81, rfl, r81, e80⟩
    refine ret_intro ?_
    have hw11 : Ext w v79 := hw10.trans e80
    obtain rfl := r81
    exact pi_done rfl e80 rfl
  · -- 3
    intro v82 e83
    have hw10 : Ext w v82 := hw9.trans e83
    refine deps_cons rfl rfl fun x84 y85 h86 e87 f88 => ?_
    obtain rfl := h86
    refine deps_nil ?_
    refine wl_move rfl rfl (by decide) ?_
    exact pi_done rfl (Ext.refl _) rfl
  · -- 4
    intro v89 e90
    have hw10 : Ext w v89 := hw9.trans e90
    refine deps_cons rfl rfl fun x91 y92 h93 e94 f95 => ?_
    obtain rfl := h93
    refine deps_nil ?_
    refine wl_load rfl rfl (load_agg aggInt ((hb46.updN u52 (by omega)).ext e90) [.bool s20, .slice A20 n20 c20] rfl (Nat.le_of_ble_eq_true rfl) rfl) (by decide) ?_
    exact pi_done rfl (Ext.refl _) rfl
  · -- 5
    intro v96 e97
    have hw10 : Ext w v96 := hw9.trans e97
    refine deps_cons rfl rfl fun x98 y99 h100 e101 f102 => ?_
    obtain rfl := h100
    refine deps_nil ?_
    refine wl_call rfl rfl (vs := [.int .u64 2]) (by kernel_rfl) (by decide) ((g_law6_of hw10.size (by decide : 2 ≤ 18446744073709551615)).mono (Gv.imp (ZO.zr (by decide : 2 ≤ 18446744073709551615) (by decide : 2 ≠ 0)))) ?_
    rintro _ v103 ⟨xr105, rfl, r105, e104⟩
    refine ret_intro ?_
    have hw11 : Ext w v103 := hw10.trans e104
    obtain ⟨s106, A106, n106, c106, rfl, z106⟩ := r105
    exact pi_done rfl e104 ⟨_, _, _, _, rfl, z106⟩
  · -- 6
    intro v107 e108
    have hw10 : Ext w v107 := hw9.trans e108
    refine deps_cons rfl rfl fun x109 y110 h111 e112 f113 => ?_
    obtain rfl := h111
    refine deps_cons rfl rfl fun x114 y115 h116 e117 f118 => ?_
    obtain rfl := h116
    refine deps_cons rfl rfl fun x119 y120 h121 e122 f123 => ?_
    obtain ⟨s124, A124, n124, c124, rfl, z124⟩ := h121
    have z124 := z124.ext f123
    refine deps_nil ?_
    refine wl_call rfl rfl (vs := [.agg #[.bool s20, .slice A20 n20 c20], .agg #[.bool s124, .slice A124 n124 c124]]) (by kernel_rfl) (by decide) (g_law6_alike (((((z20.ext (e24.trans (e29.trans e35))).updT hb40 u42).updT hb45 u47).updT hb50 u52).ext e108) (z20.le (Nat.le_trans L16 (by decide))) (z124.cast (by first | exact wk1.symm | exact wk2.symm | exact wk3.symm)) (z124.le (Nat.le_trans (ln_w64 (by decide : 2 ≤ 18446744073709551615)) (by decide)))) ?_
    rintro _ v125 ⟨xr127, rfl, r127, e126⟩
    refine ret_intro ?_
    have hw11 : Ext w v125 := hw10.trans e126
    obtain rfl := r127
    exact pi_done rfl e126 rfl
  · -- 7
    intro v128 e129
    have hw10 : Ext w v128 := hw9.trans e129
    refine deps_cons rfl rfl fun x130 y131 h132 e133 f134 => ?_
    obtain rfl := h132
    refine deps_cons rfl rfl fun x135 y136 h137 e138 f139 => ?_
    obtain rfl := h137
    refine deps_nil ?_
    refine wl_pure rfl rfl (v := .bool true) (by decide) (by kernel_rfl) ?_
    exact pi_done rfl (Ext.refl _) rfl
  · -- 8
    intro v140 e141
    have hw10 : Ext w v140 := hw9.trans e141
    refine deps_cons rfl rfl fun x142 y143 h144 e145 f146 => ?_
    obtain rfl := h144
    refine deps_nil ?_
    refine wl_move rfl rfl (by decide) ?_
    exact pi_done rfl (Ext.refl _) rfl
  · -- 9
    intro v147 e148
    have hw10 : Ext w v147 := hw9.trans e148
    refine deps_cons rfl rfl fun x149 y150 h151 e152 f153 => ?_
    obtain rfl := h151
    refine deps_nil ?_
    refine wl_load rfl rfl (load_agg aggInt (hb51.ext e148) [.bool s21, .slice A21 n21 c21] rfl (Nat.le_of_ble_eq_true rfl) rfl) (by decide) ?_
    exact pi_done rfl (Ext.refl _) rfl
  · -- 10
    intro v154 e155
    have hw10 : Ext w v154 := hw9.trans e155
    refine deps_cons rfl rfl fun x156 y157 h158 e159 f160 => ?_
    obtain rfl := h158
    refine deps_nil ?_
    refine wl_bslice rfl rfl (by decide) (k := 1) (e := 47) [.int .u64 1] (fun _ => by kernel_rfl) fun g161 v162 nb163 => ?_
    have o164 := O1.mk_ (x := 1) (b := w.heap.size) nb163 hw10.size
    have e165 := nb163.ext
    have hw11 : Ext w v162 := hw10.trans e165
    have o167 := own1_wd o164 (by decide : 1 ≤ 18446744073709551615) (by decide : 1 ≠ 0)
    have j166 := len1 (by decide : 1 ≤ 18446744073709551615) (by decide : 1 ≠ 0)
    exact pi_done rfl e165 ⟨_, _, _, rfl, j166, o167⟩
  · -- 11
    intro v168 e169
    have hw10 : Ext w v168 := hw9.trans e169
    refine deps_cons rfl rfl fun x170 y171 h172 e173 f174 => ?_
    obtain rfl := h172
    refine deps_cons rfl rfl fun x175 y176 h177 e178 f179 => ?_
    obtain ⟨A180, n180, c180, rfl, j180, o180⟩ := h177
    have o180 := o180.ext f179
    refine deps_nil ?_
    refine wl_pure rfl rfl (v := .agg #[.bool true, .slice A180 n180 c180]) (by decide) (by kernel_rfl) ?_
    exact pi_done rfl (Ext.refl _) ⟨_, _, _, _, rfl, (Zr_neg (by decide : 1 ≠ 0) j180 o180)⟩
  · -- 12
    intro v181 e182
    have hw10 : Ext w v181 := hw9.trans e182
    refine deps_cons rfl rfl fun x183 y184 h185 e186 f187 => ?_
    obtain rfl := h185
    refine deps_cons rfl rfl fun x188 y189 h190 e191 f192 => ?_
    obtain rfl := h190
    refine deps_cons rfl rfl fun x193 y194 h195 e196 f197 => ?_
    obtain ⟨s198, A198, n198, c198, rfl, z198⟩ := h195
    have z198 := z198.ext f197
    refine deps_nil ?_
    refine wl_call rfl rfl (vs := [.agg #[.bool s21, .slice A21 n21 c21], .agg #[.bool s198, .slice A198 n198 c198]]) (by kernel_rfl) (by decide) (g_law6_alike (((((z21.ext (e24.trans (e29.trans e35))).updT hb40 u42).updT hb45 u47).updT hb50 u52).ext e182) (z21.le (Nat.le_trans L17 (by decide))) (z198.cast (by first | exact wk1.symm | exact wk2.symm | exact wk3.symm)) (z198.le (Nat.le_trans (show ln (-((1 : Nat) : Int)) ≤ 1 by rw [ln_neg, ln_nat]; exact (Nat.le_of_eq (len1 (by decide : 1 ≤ 18446744073709551615) (by decide : 1 ≠ 0)).symm)) (by decide)))) ?_
    rintro _ v199 ⟨xr201, rfl, r201, e200⟩
    refine ret_intro ?_
    have hw11 : Ext w v199 := hw10.trans e200
    obtain rfl := r201
    exact pi_done rfl e200 rfl
  · -- 13
    intro v202 e203
    have hw10 : Ext w v202 := hw9.trans e203
    refine deps_cons rfl rfl fun x204 y205 h206 e207 f208 => ?_
    obtain rfl := h206
    refine deps_cons rfl rfl fun x209 y210 h211 e212 f213 => ?_
    obtain rfl := h211
    refine deps_nil ?_
    refine wl_pure rfl rfl (v := .bool true) (by decide) (by kernel_rfl) ?_
    exact pi_done rfl (Ext.refl _) rfl
  · -- all
    intro v214 e215
    have hw10 : Ext w v214 := hw9.trans e215
    refine deps_cons rfl rfl fun x216 y217 h218 e219 f220 => ?_
    obtain rfl := h218
    refine deps_cons rfl rfl fun x221 y222 h223 e224 f225 => ?_
    obtain ⟨s226, A226, n226, c226, rfl, z226⟩ := h223
    have z226 := z226.ext f225
    refine deps_cons rfl rfl fun x227 y228 h229 e230 f231 => ?_
    obtain rfl := h229
    refine deps_cons rfl rfl fun x232 y233 h234 e235 f236 => ?_
    obtain rfl := h234
    refine deps_cons rfl rfl fun x237 y238 h239 e240 f241 => ?_
    obtain rfl := h239
    refine deps_cons rfl rfl fun x242 y243 h244 e245 f246 => ?_
    obtain ⟨s247, A247, n247, c247, rfl, z247⟩ := h244
    have z247 := z247.ext f246
    refine deps_cons rfl rfl fun x248 y249 h250 e251 f252 => ?_
    obtain rfl := h250
    refine deps_cons rfl rfl fun x253 y254 h255 e256 f257 => ?_
    obtain rfl := h255
    refine deps_cons rfl rfl fun x258 y259 h260 e261 f262 => ?_
    obtain rfl := h260
    refine deps_cons rfl rfl fun x263 y264 h265 e266 f267 => ?_
    obtain rfl := h265
    refine deps_cons rfl rfl fun x268 y269 h270 e271 f272 => ?_
    obtain ⟨A273, n273, c273, rfl, j273, o273⟩ := h270
    have o273 := o273.ext f272
    refine deps_cons rfl rfl fun x274 y275 h276 e277 f278 => ?_
    obtain ⟨s279, A279, n279, c279, rfl, z279⟩ := h276
    have z279 := z279.ext f278
    refine deps_cons rfl rfl fun x280 y281 h282 e283 f284 => ?_
    obtain rfl := h282
    refine deps_cons rfl rfl fun x285 y286 h287 e288 f289 => ?_
    obtain rfl := h287
    refine deps_nil ?_
    refine wl_assign rfl rfl (by decide) ?_
    refine wl_nil ?_
    refine eo_np ?_
    refine eo_then ?_
    refine cw_ret ?_
    refine eo_ret [.bool true] rfl ⟨rfl, trivial⟩ ?_
    exact ⟨_, rfl, rfl, hw10⟩

end Go.Proofs.Ytmaconeeonkdgaa

/- How arguments of lists of words are opened and shut; what the bound on bulk gives. -/
namespace Go.Proofs.Ytmaconeeonkdgaa
open Go.ChangeShapes Go.WideShapes Go.ChangeAt Go.RowKit

theorem own_knob : ownKnob Try.prog.godebug = none := by kernel_rfl
theorem cells_word : Try.prog.cellsOf 47 = 1 := by kernel_rfl

theorem bulk_one {H : Type} (d : DataW H) : 1 ≤ Rows.uptoBulk d := by
  cases d with
  | lit l => cases l <;> simp [Rows.uptoBulk]
  | nil => simp [Rows.uptoBulk]
  | ptr d => simp [Rows.uptoBulk]
  | slice elems spare => simp [Rows.uptoBulk]
  | agg parts => simp [Rows.uptoBulk]
  | iface t d => simp [Rows.uptoBulk]
  | map entries => simp [Rows.uptoBulk]
  | held h => simp [Rows.uptoBulk]
theorem bulk_len {H : Type} (l : List (DataW H)) : l.length ≤ Rows.uptoBulkAll l := by
  induction l with
  | nil => simp [Rows.uptoBulkAll]
  | cons x r ih => have := bulk_one x; simp only [Rows.uptoBulkAll, List.length_cons]; omega
theorem bulk_slice {H : Type} (elems spare : List (DataW H)) : elems.length + spare.length ≤ Rows.uptoBulk (.slice elems spare) := by
  have h1 := bulk_len elems
  have h2 := bulk_len spare
  simp only [Rows.uptoBulk]
  omega
theorem bulk_bound {H : Type} {l : List (DataW H)} (hk : Rows.uptoSmall H l = true) : Rows.uptoBulkAll l ≤ 1048576 := of_decide_eq_true hk

theorem shape_lt {w : World} {b : Nat} {x : TypeId × Nat} (h : w.shape? b = some x) : b < w.heap.size := by
  refine Nat.lt_of_not_le (fun hle => ?_)
  simp [World.shape?, Array.getElem?_eq_none hle] at h
theorem wf_nat {n : Int} (h : (Lit.int .u64 n).wf = true) : 0 ≤ n ∧ n ≤ 18446744073709551615 := by
  simpa [Lit.wf, IntKind.min, IntKind.max, IntKind.signed, IntKind.bits] using h

theorem wf_int {n : Int} (h : (Lit.int .i64 n).wf = true) : -9223372036854775808 ≤ n ∧ n ≤ 9223372036854775807 := by
  simpa [Lit.wf, IntKind.min, IntKind.max, IntKind.signed, IntKind.bits] using h

set_option maxRecDepth 20000 in
/-- A LIST OF WORDS, OPENED: what it reads as, and that it reads so in every later world -/
theorem open_words {H : Type} {enc : TypeId × Value → H} {W : World} {base : Nat} {v : Value} {d : DataW H} {p : List MemPlace}
    (hval : Value.okWide Try.prog W .any base 25 v) (h : DataW.Trod enc Try.prog W 0 (fun _ => true) true 25 v d p) :
    ∃ A n cap xs, v = .slice A n cap ∧ Rd W A n cap xs ∧ n ≤ Rows.uptoBulk d ∧
      ∀ W', Ext W W' → ∀ sp : Nat → Bool, (∀ q ∈ p, sp q.block = true) → DataW.Trod enc Try.prog W' 0 sp true 25 v d p := by
  obtain ⟨A, n, cap, rfl⟩ := okWide_slice Try.underlying25 hval
  obtain ⟨fuel, hf⟩ := h
  rcases open_ints Try.underlying25 Try.underlying47 cells_word hf with ⟨hcs, hx⟩ | ⟨a, n', cap', zs, hcs, _, hl, hm, hz, hx, hcell, hwf⟩
  · simp [Value.cells] at hcs
    obtain ⟨rfl, rfl, rfl⟩ := hcs
    simp only [Prod.mk.injEq] at hx
    obtain ⟨rfl, rfl⟩ := hx
    exact ⟨none, 0, 0, [], rfl, Rd.nil W, Nat.zero_le _, fun W' _ sp _ => shut_slice_nil Try.underlying25⟩
  · simp [Value.cells] at hcs
    obtain ⟨rfl, rfl, rfl⟩ := hcs
    simp only [Prod.mk.injEq] at hx
    obtain ⟨rfl, rfl⟩ := hx
    simp only [if_true] at hz
    have hblk : 0 < cap → a.block < W.heap.size := fun hc => World.block_lt_of_cell? W (a.add 0) (hcell 0 (by omega)) |> fun h => by rwa [block_of_add] at h
    have hnn : ∀ z ∈ zs, ((z.toNat : Nat) : Int) = z := fun z hz' => Int.toNat_of_nonneg (wf_nat (hwf z hz')).1
    have hlen : (zs.take n).length = n := by rw [List.length_take]; omega
    refine ⟨some a, n, cap, (zs.take n).map Int.toNat, rfl, ⟨⟨by simp; omega, hl, hm, fun i hi => ⟨a, rfl, ?_⟩, fun b hb hc => by cases hb; exact hblk hc⟩, ?_⟩, ?_, ?_⟩
    · rw [hcell i (by omega)]
      have hi2 : i < zs.length := by omega
      have hmem : zs[i] ∈ zs := List.getElem_mem hi2
      have e : (((zs.take n).map Int.toNat).map W64).getD i undef = .int .u64 ((zs[i].toNat : Nat) : Int) := by
        simp [List.getD_eq_getElem?_getD, List.getElem?_map, show i < n by omega, List.getElem?_eq_getElem hi2]
      rw [e, hnn _ hmem]
      simp [List.getD_eq_getElem?_getD, List.getElem?_eq_getElem hi2]
    · intro x hx
      obtain ⟨z, hz1, rfl⟩ := List.mem_map.1 hx
      have := wf_nat (hwf z (List.mem_of_mem_take hz1))
      rw [WB_def]; omega
    · have := bulk_slice (H := H) (lits .u64 (zs.take n)) (lits .u64 (zs.drop n))
      have e : (lits (H := H) .u64 (zs.take n)).length = n := by simp [lits]; omega
      omega
    · intro W' he sp hsp
      have hcell' : ∀ i, i < zs.length → W'.cell? (a.add i) = some (.int .u64 (zs.getD i 0)) := fun i hi => he.cell (hcell i hi)
      by_cases hz0 : zs.length = 0
      · have hc0 : cap = 0 := by omega
        have hl0 : n = 0 := by omega
        subst hc0; subst hl0
        have t0 := shut_ints (enc := enc) (w := W') (base := 0) (spare := sp) (held := true) (a := a) (len := 0) (cap := 0) (zs := zs) 0 Try.underlying25 Try.underlying47 cells_word (Nat.zero_le _) (Nat.le_refl _) hm (by simp [hz0]) hcell' hwf
        exact ⟨2, by simpa [Value.cells] using t0⟩
      · have hspb : sp a.block = true := hsp (.cell a.block a.off) (MemPlace.mem_row.2 ⟨0, by omega, by simp⟩)
        have t0 := shut_ints (enc := enc) (w := W') (base := 0) (spare := sp) (held := true) (a := a) (len := n) (cap := cap) (zs := zs) 0 Try.underlying25 Try.underlying47 cells_word (Nat.zero_le _) hl hm (by simp [hspb, hz]) hcell' hwf
        exact ⟨2, by simpa [Value.cells] using t0⟩

theorem post_of_below {H : Type} {enc : TypeId × Value → H} {P : Program} {f : Func} {s : ChangeSpec} {apart fresh handsOn again : Bool} {W W' : World} {args : Array Value} {v : Value} {ds gs : List (DataW H)} {before pa pv : List MemPlace}
    (hW : DataW.Whole enc P f.params.toList s.vars apart W args.toList ds gs before)
    (hres : ∀ (b : Nat) (sp : Nat → Bool) (hd : Bool), DataW.TrodAll enc P W' b sp hd f.resultTypes.toList (v.resultList f.resultTypes.size) (s.fn H (ds ++ gs)).results [])
    (hargs : ∀ sp : Nat → Bool, (∀ p ∈ before, sp p.block = true) → DataW.TrodAll enc P W' 0 sp true f.params.toList args.toList (s.fn H (ds ++ gs)).args pa)
    (hvars : ∀ sp : Nat → Bool, (∀ p ∈ before, sp p.block = true) → DataW.TrodVars enc P W' sp s.vars (s.fn H (ds ++ gs)).vars pv)
    (hps : before = pa ++ pv) (hb : Below W.heap.size W W')
    (hok : ∀ (j : Nat) (t : TypeId) (r : Value), f.resultTypes[j]? = some t → (v.resultList f.resultTypes.size)[j]? = some r → Value.okWide P W' .any 0 t r) :
    s.post enc P f apart fresh handsOn again W args v W' := by
  have hlt : ∀ p ∈ before, p.block < W.heap.size := fun p hp => hW.lt p hp
  have hold : ∀ p ∈ before, (fun b => decide (b < W.heap.size)) p.block = true := fun p hp => by simpa using hlt p hp
  refine ⟨ds, gs, before, [], pa, pv, hW, hres _ _ _, hargs _ hold, hvars _ hold, World.keptBut_mono (fun p hp => ⟨hp, ?_⟩) (hb.frame (· ∈ before)), fun _ => ?_⟩
  · rw [hps, List.mem_append] at hp
    exact Or.inr hp
  · obtain ⟨_, _, _, _, _, hz, hn⟩ := hW
    refine ⟨hok, _, _, ([] ++ pa) ++ pv, ⟨[] ++ pa, pv, trodAll_append (hargs _ (fun _ _ => rfl)) (hres _ _ _), hvars _ (fun _ _ => rfl), rfl, ?_, ?_⟩, ?_⟩
    · intro b off hp
      have hin : MemPlace.cell b off ∈ before := by rw [hps]; simpa using hp
      rw [hb.frozen (hlt _ hin)]
      exact hz b off hin
    · intro ha
      have := hn ha
      rw [hps] at this
      simpa using this
    · intro p hp _
      rw [hps]
      simpa using hp
end Go.Proofs.Ytmaconeeonkdgaa

/- fractions: lowest terms; frac.Of -/
namespace Go.Proofs.Ytmaconeeonkdgaa
open Go.RowKit

/-- p/q stands for x/y in lowest terms -/
structure Low (p q x y : Int) : Prop where
  pos : 0 < q
  co : Int.gcd p q = 1
  eq : p * y = x * q
  np : p.natAbs ≤ x.natAbs
  nq : q.natAbs ≤ y.natAbs
theorem lows_eq {p q p' q' : Int} (h1 : Int.gcd p q = 1) (h2 : Int.gcd p' q' = 1) (hq : 0 < q) (hq' : 0 < q') (e : p * q' = p' * q) : p = p' ∧ q = q' := by
  have e1 : p.natAbs * q'.natAbs = p'.natAbs * q.natAbs := by rw [← Int.natAbs_mul, ← Int.natAbs_mul, e]
  have c1 : Nat.Coprime q.natAbs p.natAbs := by rw [Nat.coprime_comm]; exact h1
  have c2 : Nat.Coprime q'.natAbs p'.natAbs := by rw [Nat.coprime_comm]; exact h2
  have d1 : q.natAbs ∣ q'.natAbs := c1.dvd_of_dvd_mul_left (e1 ▸ Nat.dvd_mul_left _ _)
  have d2 : q'.natAbs ∣ q.natAbs := c2.dvd_of_dvd_mul_left (e1 ▸ Nat.dvd_mul_left _ _)
  have hqq : q = q' := by
    have := Nat.dvd_antisymm d1 d2
    omega
  subst hqq
  exact ⟨Int.eq_of_mul_eq_mul_right (by omega) e, rfl⟩
theorem Low.uniq {p q x y p' q' x' y' : Int} (h : Low p q x y) (k : Low p' q' x' y') (hy : y ≠ 0) (hy' : y' ≠ 0) (e : x * y' = x' * y) : p = p' ∧ q = q' := by
  refine lows_eq h.co k.co h.pos k.pos ?_
  have h1 : (p * q') * (y * y') = (p' * q) * (y * y') := by
    calc (p * q') * (y * y') = (p * y) * (q' * y') := by grind
      _ = (x * q) * (q' * y') := by rw [h.eq]
      _ = (x * y') * (q * q') := by grind
      _ = (x' * y) * (q * q') := by rw [e]
      _ = (x' * q') * (q * y) := by grind
      _ = (p' * y') * (q * y) := by rw [k.eq]
      _ = (p' * q) * (y * y') := by grind
  exact Int.eq_of_mul_eq_mul_right (Int.mul_ne_zero hy hy') h1
theorem gcd_pos {x y : Int} (hy : y ≠ 0) : (Int.gcd x y : Int) ≠ 0 := by
  have := Int.gcd_pos_of_ne_zero_right x hy
  omega
theorem low_of {x y : Int} (hy : y ≠ 0) : Low (if y < 0 then -(x.tdiv (Int.gcd x y)) else x.tdiv (Int.gcd x y)) (if y < 0 then -(y.tdiv (Int.gcd x y)) else y.tdiv (Int.gcd x y)) x y := by
  have hg := gcd_pos (x := x) hy
  obtain ⟨a, ha⟩ := Int.gcd_dvd_left x y
  obtain ⟨b, hb⟩ := Int.gcd_dvd_right x y
  have hco : Int.gcd a b = 1 := by
    have h1 : Int.gcd ((Int.gcd x y : Int) * a) ((Int.gcd x y : Int) * b) = (Int.gcd x y) * Int.gcd a b := by
      rw [Int.gcd_mul_left, Int.natAbs_natCast]
    rw [← ha, ← hb] at h1
    have h2 : 0 < Int.gcd x y := by omega
    exact Nat.eq_of_mul_eq_mul_left h2 (by rw [← h1, Nat.mul_one])
  generalize hG : (Int.gcd x y : Int) = G at *
  have hGp : 0 < G := by omega
  have e1 : x.tdiv G = a := by rw [ha]; exact Int.mul_tdiv_cancel_left _ hg
  have e2 : y.tdiv G = b := by rw [hb]; exact Int.mul_tdiv_cancel_left _ hg
  rw [e1, e2]
  have na : a.natAbs ≤ x.natAbs := by rw [ha, Int.natAbs_mul]; exact Nat.le_mul_of_pos_left _ (by omega)
  have nb : b.natAbs ≤ y.natAbs := by rw [hb, Int.natAbs_mul]; exact Nat.le_mul_of_pos_left _ (by omega)
  have ee : a * y = x * b := by
    calc a * y = a * (G * b) := by rw [← hb]
      _ = (G * a) * b := by grind
      _ = x * b := by rw [← ha]
  by_cases h : y < 0
  · rw [if_pos h, if_pos h]
    have hb0 : b < 0 := by
      refine Int.lt_of_not_ge (fun hb0 => ?_)
      have := Int.mul_nonneg (Int.le_of_lt hGp) hb0
      omega
    exact ⟨by omega, by rw [Int.gcd_neg, Int.neg_gcd]; exact hco, by rw [Int.neg_mul, Int.mul_neg, ee], by omega, by omega⟩
  · rw [if_neg h, if_neg h]
    have hb0 : 0 < b := by
      refine Int.lt_of_not_ge (fun hb0 => ?_)
      have h1 : G * b ≤ 0 := Int.mul_nonpos_of_nonneg_of_nonpos (Int.le_of_lt hGp) hb0
      omega
    exact ⟨hb0, hco, ee, na, nb⟩

/-- a variable of four cells -/
theorem Bk.four {w : World} {g : Nat} {t : TypeId} {a b c d : Value} (h : Bk w g t [a, b, c, d]) : (w.cell? ⟨g, 0, none⟩ = some a ∧ w.cell? ⟨g, 1, none⟩ = some b ∧ w.cell? ⟨g, 2, none⟩ = some c ∧ w.cell? ⟨g, 3, none⟩ = some d) ∧ (w.frozen? ⟨g, 0, none⟩ = false ∧ w.frozen? ⟨g, 1, none⟩ = false ∧ w.frozen? ⟨g, 2, none⟩ = false ∧ w.frozen? ⟨g, 3, none⟩ = false) :=
  ⟨⟨h.cell (i := 0) (by simp), h.cell (i := 1) (by simp), h.cell (i := 2) (by simp), h.cell (i := 3) (by simp)⟩, h.frozen 0, h.frozen 1, h.frozen 2, h.frozen 3⟩
theorem Bk.four_set {w : World} {g : Nat} {t : TypeId} {a b c d : Value} (h : Bk w g t [a, b, c, d]) (u0 u1 u2 u3 : Value) : Bk ((((w.setCell ⟨g, 0, none⟩ u0).setCell ⟨g, 1, none⟩ u1).setCell ⟨g, 2, none⟩ u2).setCell ⟨g, 3, none⟩ u3) g t [u0, u1, u2, u3] := (((h.set 0 u0).set 1 u1).set 2 u2).set 3 u3
theorem Upd.four {w : World} {g : Nat} (u0 u1 u2 u3 : Value) : Upd g w ((((w.setCell ⟨g, 0, none⟩ u0).setCell ⟨g, 1, none⟩ u1).setCell ⟨g, 2, none⟩ u2).setCell ⟨g, 3, none⟩ u3) := ((((Upd.refl g w).setCell 0 u0).setCell 1 u1).setCell 2 u2).setCell 3 u3

/-- a fraction and an error -/
def RetFE (w : World) (p q : Int) (er : Int) (e : Ending) (w' : World) : Prop :=
  ∃ s A n cap s' B m cap', e = .returned (.tuple #[.agg #[.bool s, .slice A n cap, .bool s', .slice B m cap'], .int .i64 er]) ∧ Zr w' w.heap.size s A n cap p ∧ Zr w' w.heap.size s' B m cap' q ∧ Ext w w'
theorem res_fe {w : World} {g : Nat} {t : TypeId} {a b c d : Value} {fn : Func} {s u : Tmp} (hf : fn.results = #[.cell s 29, .tmp u]) {tmps : Array Value} (hs : tmps.getD s undef = .pointer (some ⟨g, 0, none⟩)) {v : Value} (hu : tmps.getD u undef = v) (h : Bk w g t [a, b, c, d]) :
    (results fn tmps).run Try.prog w = .ok (.tuple #[.agg #[a, b, c, d], v]) w := by
  obtain ⟨⟨h1, h2, h3, h4⟩, _⟩ := h.four
  have hs2 : tmps[s]?.getD undef = .pointer (some ⟨g, 0, none⟩) := by simpa using hs
  have hu2 : tmps[u]?.getD undef = v := by simpa using hu
  simp [results, hf, hs2, hu2, loadVar, loadCells, loadCellsFrom, go_sem, h1, h2, h3, h4]
theorem fin_frac {w w2 : World} {g base : Nat} {s s' : Bool} {A B : Option Addr} {n cap m cap' : Nat} {p q : Int} (hp : Zr w2 base s A n cap p) (hq : Zr w2 base s' B m cap' q) (hg : g < base) (hw : w.heap.size ≤ g) (he : Ext w w2) (er : Int) :
    RetFE w p q er (.returned (.tuple #[.agg #[.bool s, .slice A n cap, .bool s', .slice B m cap'], .int .i64 er])) ((((w2.setCell ⟨g, 0, none⟩ (.bool s)).setCell ⟨g, 1, none⟩ (.slice A n cap)).setCell ⟨g, 2, none⟩ (.bool s')).setCell ⟨g, 3, none⟩ (.slice B m cap')) :=
  ⟨s, A, n, cap, s', B, m, cap', rfl, (hp.upd hg (Upd.four _ _ _ _)).mono (by omega), (hq.upd hg (Upd.four _ _ _ _)).mono (by omega), (Upd.four _ _ _ _).ext he hw⟩
theorem Bk.fr2 {w : World} {t t' : TypeId} {l : Array Value} {vs : List Value} : Bk ((w.alloc (.cells l t')).alloc (.cells vs.toArray t)) (w.heap.size + 1) t vs := by
  have := Bk.new (w.alloc (.cells l t')) t vs
  simpa using this
theorem Bk.fr3 {w : World} {t t' t'' : TypeId} {l l' : Array Value} {vs : List Value} : Bk (((w.alloc (.cells l t')).alloc (.cells l' t'')).alloc (.cells vs.toArray t)) (w.heap.size + 1 + 1) t vs := by
  have := Bk.new ((w.alloc (.cells l t')).alloc (.cells l' t'')) t vs
  simpa using this
/-- three variables laid at the call's beginning -/
theorem boxesL3 (w : World) (t t' t'' : TypeId) (l l' l'' : List Value) : ∃ g g2 g3 wa, w.heap.size + 1 + 1 = g3 ∧ w.heap.size + 1 = g2 ∧ w.heap.size = g ∧ ((w.alloc (.cells l.toArray t)).alloc (.cells l'.toArray t')).alloc (.cells l''.toArray t'') = wa ∧ Bk wa g t l ∧ Bk wa g2 t' l' ∧ Bk wa g3 t'' l'' ∧ Ext w wa ∧ g < g2 ∧ g2 < g3 ∧ g3 < wa.heap.size ∧ g ≠ g2 ∧ g2 ≠ g ∧ g ≠ g3 ∧ g3 ≠ g ∧ g2 ≠ g3 ∧ g3 ≠ g2 :=
  ⟨_, _, _, _, rfl, rfl, rfl, rfl, ((Bk.new w t l).alloc _).alloc _, Bk.fr2.alloc _, Bk.fr3, (((Ext.refl w).alloc _).alloc _).alloc _, by omega, by omega, by simp, by omega, by omega, by omega, by omega, by omega, by omega⟩

theorem frac_Of_bad {w : World} {s t : Bool} {A B : Option Addr} {n cap m cap' : Nat} {y : Int} (hy : Zi w t B m cap' y) (hl' : m ≤ 68719476736) (h0 : y = 0) :
    Calls Try.prog 21 #[.agg #[.bool s, .slice A n cap], .agg #[.bool t, .slice B m cap']] w (RetFE w 0 0 4) := by
  have H0 := Lib.hid h0
  clear h0
  go_enter Try.func21, Try.ntmps21
  go_upto_region 1 with (fail)
  obtain ⟨g, g2, g3, wa, hg3, hg2, hg, hwa, hb1, hb2, hb3, hea, l12, l23, l3, n12, n21, n13, n31, n23, n32⟩ := boxesL3 w 27 27 29 [.bool s, .slice A n cap] [.bool t, .slice B m cap'] [.bool false, .slice none 0 0, .bool false, .slice none 0 0]
  rw [hg3, hg2, hg, hwa]
  have hgw : w.heap.size ≤ g := Nat.le_of_eq hg
  clear hwa hg hg2 hg3
  obtain ⟨h1, h2, h3, h4⟩ := hb2.two
  go_wp2_with fail
  refine (zint_Sign (hy.ext hea) hl').mono ?_
  rintro e w1 ⟨c, hc, hcl, hch, rfl, hx1⟩
  obtain rfl : c = 0 := by rw [hc.out, H0.out]; rfl
  clear hc
  have hd3 := hb3.ext hx1
  have hsz := hx1.size
  obtain ⟨⟨k0, k1, k2, k3⟩, k4, k5, k6, k7⟩ := hd3.four
  go_wp2_with fail
  refine bodyPost_ret (res_fe rfl rfl rfl (hd3.four_set _ _ _ _)) rfl ?_
  exact fin_frac (g := g3) (Zr.zero (base := wa.heap.size)) Zr.zero (by omega) (by omega) (hea.trans hx1) 4
set_option maxHeartbeats 4000000 in
theorem frac_Of {w : World} {s t : Bool} {A B : Option Addr} {n cap m cap' : Nat} {x y : Int} (hx : Zi w s A n cap x) (hl : n ≤ 68719476736) (hy : Zi w t B m cap' y) (hl' : m ≤ 68719476736) (h0 : y ≠ 0) :
    Calls Try.prog 21 #[.agg #[.bool s, .slice A n cap], .agg #[.bool t, .slice B m cap']] w (fun e w' => ∃ p q, Hid (Low p q x y) ∧ RetFE w p q 0 e w') := by
  have H0 := Lib.hid h0
  have hlow := Lib.hid (low_of (x := x) h0)
  have hG0 := Lib.hid (gcd_pos (x := x) h0)
  have hGx := Lib.hid (Int.gcd_dvd_left x y)
  have hGy := Lib.hid (Int.gcd_dvd_right x y)
  have hGl : Hid (ln (Int.gcd x y : Int) ≤ m) := by
    refine Nat.le_trans (ln_mono ?_) hy.ln
    rw [Int.natAbs_natCast]
    exact Nat.le_of_dvd (by omega) (Int.natAbs_dvd_natAbs.2 (Int.gcd_dvd_right x y) |> fun h => by simpa using h)
  clear h0
  go_enter Try.func21, Try.ntmps21
  go_upto_region 1 with (fail)
  obtain ⟨g, g2, g3, wa, hg3, hg2, hg, hwa, hb1, hb2, hb3, hea, l12, l23, l3, n12, n21, n13, n31, n23, n32⟩ := boxesL3 w 27 27 29 [.bool s, .slice A n cap] [.bool t, .slice B m cap'] [.bool false, .slice none 0 0, .bool false, .slice none 0 0]
  rw [hg3, hg2, hg, hwa]
  have hgw : w.heap.size ≤ g := Nat.le_of_eq hg
  clear hwa hg hg2 hg3
  obtain ⟨h1, h2, h3, h4⟩ := hb2.two
  go_wp2_with fail
  refine (zint_Sign (hy.ext hea) hl').mono ?_
  rintro e w1 ⟨c, hc, hcl, hch, rfl, hx1⟩
  have hc1 : c ≠ 0 := fun h => H0.out (scmp_zero.1 (by rw [← hc.out, h]))
  have hc2 : c < 0 ↔ y < 0 := by rw [hc.out]; exact scmp_neg
  have HC2 := Lib.hid hc2
  have bc : (c == 0) = false := by simp; omega
  clear hc1 hc2 hc h1 h2 h3 h4
  have e1 := hea.trans hx1
  obtain ⟨f1, f2, f3, f4⟩ := (hb1.ext hx1).two
  obtain ⟨h1, h2, h3, h4⟩ := (hb2.ext hx1).two
  go_wp2_with fail
  refine (bezout_Gcd (hx.ext e1) hl (hy.ext e1) hl').mono ?_
  rintro e w2 ⟨s2, A2, n2, c2, rfl, z2, hx2⟩
  have b2 : n2 ≤ 68719476736 := Nat.le_trans (z2.le hGl.out) hl'
  have x2 : Ext wa w2 := hx1.trans hx2
  clear f1 f2 f3 f4 h1 h2 h3 h4
  go_upto_region 5 with (fail)
  have hb7 := Bk.new w2 27 [.bool s2, .slice A2 n2 c2]
  obtain ⟨v2, hv2⟩ : ∃ v2, w2.alloc (.cells #[.bool s2, .slice A2 n2 c2] 27) = v2 := ⟨_, rfl⟩
  obtain ⟨g7, hg7⟩ : ∃ g7, w2.heap.size = g7 := ⟨_, rfl⟩
  rw [hg7] at hb7 ⊢
  have hb7' : Bk v2 g7 27 [.bool s2, .slice A2 n2 c2] := by rw [← hv2]; exact hb7
  have xv2 : Ext wa v2 := by rw [← hv2]; exact x2.alloc _
  have z2' : Zr v2 w1.heap.size s2 A2 n2 c2 (Int.gcd x y : Int) := by rw [← hv2]; exact z2.ext ((Ext.refl w2).alloc _)
  rw [hv2]
  clear hb7 hv2 z2 hg7
  obtain ⟨f1, f2, f3, f4⟩ := (hb1.ext xv2).two
  obtain ⟨i1, i2, i3, i4⟩ := hb7'.two
  go_wp2_with fail
  refine (zint_Exact (hx.ext (hea.trans xv2)) hl z2'.zi b2 hG0.out hGx.out).mono ?_
  rintro e w3 ⟨s3, A3, n3, c3, rfl, z3, hx3⟩
  clear f1 f2 f3 f4 i1 i2 i3 i4
  go_upto_region 6 with (fail)
  have hb8 := Bk.new w3 27 [.bool s3, .slice A3 n3 c3]
  obtain ⟨v3, hv3⟩ : ∃ v3, w3.alloc (.cells #[.bool s3, .slice A3 n3 c3] 27) = v3 := ⟨_, rfl⟩
  obtain ⟨g8, hg8⟩ : ∃ g8, w3.heap.size = g8 := ⟨_, rfl⟩
  rw [hg8] at hb8 ⊢
  have hb8' : Bk v3 g8 27 [.bool s3, .slice A3 n3 c3] := by rw [← hv3]; exact hb8
  have xv3 : Ext v2 v3 := by rw [← hv3]; exact hx3.alloc _
  have z3' : Zr v3 v2.heap.size s3 A3 n3 c3 (x.tdiv (Int.gcd x y : Int)) := by rw [← hv3]; exact z3.ext ((Ext.refl w3).alloc _)
  rw [hv3]
  have l8 : v2.heap.size ≤ g8 := by rw [← hg8]; exact hx3.size
  clear hb8 hv3 z3 hg8
  obtain ⟨h1, h2, h3, h4⟩ := (hb2.ext (xv2.trans xv3)).two
  obtain ⟨i1, i2, i3, i4⟩ := (hb7'.ext xv3).two
  go_wp2_with fail
  refine (zint_Exact (hy.ext (hea.trans (xv2.trans xv3))) hl' (z2'.zi.ext xv3) b2 hG0.out hGy.out).mono ?_
  rintro e w4 ⟨s4, A4, n4, c4, rfl, z4, hx4⟩
  clear h1 h2 h3 h4 i1 i2 i3 i4
  go_upto_region 7 with (fail)
  have hb10 := Bk.new w4 27 [.bool s4, .slice A4 n4 c4]
  obtain ⟨v4, hv4⟩ : ∃ v4, w4.alloc (.cells #[.bool s4, .slice A4 n4 c4] 27) = v4 := ⟨_, rfl⟩
  obtain ⟨g10, hg10⟩ : ∃ g10, w4.heap.size = g10 := ⟨_, rfl⟩
  rw [hg10] at hb10 ⊢
  have hb10' : Bk v4 g10 27 [.bool s4, .slice A4 n4 c4] := by rw [← hv4]; exact hb10
  have xv4 : Ext v3 v4 := by rw [← hv4]; exact hx4.alloc _
  have z4' : Zr v4 v3.heap.size s4 A4 n4 c4 (y.tdiv (Int.gcd x y : Int)) := by rw [← hv4]; exact z4.ext ((Ext.refl w4).alloc _)
  have z3'' := z3'.ext xv4
  have hb8'' := hb8'.ext xv4
  rw [hv4]
  have l10 : v3.heap.size ≤ g10 := by rw [← hg10]; exact hx4.size
  have l8' : g8 < v3.heap.size := hb8'.lt
  have lb3 : g3 < v2.heap.size := (hb3.ext xv2).lt
  have n810 : g8 ≠ g10 := by omega
  have n108 : g10 ≠ g8 := by omega
  have hb3' := hb3.ext (xv2.trans (xv3.trans xv4))
  have ev4 : Ext w v4 := hea.trans (xv2.trans (xv3.trans xv4))
  have sv23 := xv3.size
  have sv34 := xv4.size
  clear hb10 hv4 z4 hg10
  obtain ⟨f1, f2, f3, f4⟩ := hb8''.two
  obtain ⟨h1, h2, h3, h4⟩ := hb10'.two
  obtain ⟨⟨k0, k1, k2, k3⟩, k4, k5, k6, k7⟩ := hb3'.four
  by_cases hneg : c < 0
  · have hyn := Lib.hid (HC2.out.1 hneg)
    have hlow2 := hlow.out
    rw [if_pos hyn.out, if_pos hyn.out] at hlow2
    have HLOW := Lib.hid hlow2
    clear hlow2 hlow
    go_upto_region 8 with (fail)
    have b3 : n3 ≤ 68719476736 := Nat.le_trans (z3''.le (ln_mono (by have := HLOW.out.np; rw [Int.natAbs_neg] at this; exact this))) (Nat.le_trans hx.ln hl)
    have b4 : n4 ≤ 68719476736 := Nat.le_trans (z4'.le (ln_mono (by have := HLOW.out.nq; rw [Int.natAbs_neg] at this; exact this))) (Nat.le_trans hy.ln hl')
    have n38 : g3 ≠ g8 := by omega
    have n310 : g3 ≠ g10 := by omega
    have l10v : g10 < v4.heap.size := hb10'.lt
    have l8v : g8 < v4.heap.size := hb8''.lt
    clear k0 k1 k2 k3 k4 k5 k6 k7
    go_region_with (first
      | (go_at_call 61; ((with_reducible refine (zint_Neg (z3''.zi.ext (by repeat (first | exact Ext.refl _ | assumption | apply Ext.drewN | apply Ext.drew | apply Ext.alloc))) b3).mono ?_)); rintro e w5 ⟨s5, A5, n5, c5, rfl, z5, hx5⟩; have he5 : Ext v4 w5 := Ext.trans (by repeat (first | exact Ext.refl _ | assumption | apply Ext.drewN | apply Ext.drew | apply Ext.alloc)) hx5; obtain ⟨f1, f2, f3, f4⟩ := (hb8''.ext he5).two; obtain ⟨h1, h2, h3, h4⟩ := (hb10'.ext he5).two)
      | (go_at_call 61; (with_reducible refine (zint_Neg (z4'.zi.ext (by repeat (first | exact Ext.refl _ | assumption | apply Ext.drewN | apply Ext.drew | apply Ext.alloc))) b4).mono ?_); rintro e w6 ⟨s6, A6, n6, c6, rfl, z6, hx6⟩; have he6 : Ext v4 w6 := Ext.trans (by repeat (first | exact Ext.refl _ | assumption | apply Ext.drewN | apply Ext.drew | apply Ext.alloc)) hx6; obtain ⟨f1, f2, f3, f4⟩ := (hb8''.ext he6).two; obtain ⟨h1, h2, h3, h4⟩ := (hb10'.ext he6).two))
    all_goals
      clear f1 f2 f3 f4 h1 h2 h3 h4
      first
      | (obtain ⟨wb, hwb⟩ : ∃ wb, (((w6.setCell ⟨g8, 0, none⟩ (.bool s5)).setCell ⟨g8, 1, none⟩ (.slice A5 n5 c5)).setCell ⟨g10, 0, none⟩ (.bool s6)).setCell ⟨g10, 1, none⟩ (.slice A6 n6 c6) = wb := ⟨_, rfl⟩
         rw [hwb]
         have q8 : Bk wb g8 27 [.bool s5, .slice A5 n5 c5] := by rw [← hwb]; exact ((hb8''.ext he6).two_set _ _).two_far n810 _ _
         have q10 : Bk wb g10 27 [.bool s6, .slice A6 n6 c6] := by rw [← hwb]; exact ((hb10'.ext he6).two_far n108 _ _).two_set _ _
         have q3 : Bk wb g3 29 [.bool false, .slice none 0 0, .bool false, .slice none 0 0] := by rw [← hwb]; exact ((hb3'.ext he6).two_far n38 _ _).two_far n310 _ _
         have r5 : Zr wb v4.heap.size s5 A5 n5 c5 (-(x.tdiv (Int.gcd x y : Int))) := by rw [← hwb]; exact (((z5.ext hx6).mono (by first | exact Nat.le_refl _ | exact he6.size)).upd l8v (Upd.two _ _)).upd l10v (Upd.two _ _)
         have r6 : Zr wb v4.heap.size s6 A6 n6 c6 (-(y.tdiv (Int.gcd x y : Int))) := by rw [← hwb]; exact (((z6).mono (by first | exact Nat.le_refl _ | exact he5.size)).upd l8v (Upd.two _ _)).upd l10v (Upd.two _ _)
         have eb : Ext w wb := by rw [← hwb]; exact (Upd.two _ _).ext ((Upd.two _ _).ext (ev4.trans he6) (by omega)) (by omega)
         clear hwb)
      | (obtain ⟨wb, hwb⟩ : ∃ wb, (((w5.setCell ⟨g8, 0, none⟩ (.bool s5)).setCell ⟨g8, 1, none⟩ (.slice A5 n5 c5)).setCell ⟨g10, 0, none⟩ (.bool s6)).setCell ⟨g10, 1, none⟩ (.slice A6 n6 c6) = wb := ⟨_, rfl⟩
         rw [hwb]
         have q8 : Bk wb g8 27 [.bool s5, .slice A5 n5 c5] := by rw [← hwb]; exact ((hb8''.ext he5).two_set _ _).two_far n810 _ _
         have q10 : Bk wb g10 27 [.bool s6, .slice A6 n6 c6] := by rw [← hwb]; exact ((hb10'.ext he5).two_far n108 _ _).two_set _ _
         have q3 : Bk wb g3 29 [.bool false, .slice none 0 0, .bool false, .slice none 0 0] := by rw [← hwb]; exact ((hb3'.ext he5).two_far n38 _ _).two_far n310 _ _
         have r5 : Zr wb v4.heap.size s5 A5 n5 c5 (-(x.tdiv (Int.gcd x y : Int))) := by rw [← hwb]; exact (((z5).mono (by first | exact Nat.le_refl _ | exact he6.size)).upd l8v (Upd.two _ _)).upd l10v (Upd.two _ _)
         have r6 : Zr wb v4.heap.size s6 A6 n6 c6 (-(y.tdiv (Int.gcd x y : Int))) := by rw [← hwb]; exact (((z6.ext hx5).mono (by first | exact Nat.le_refl _ | exact he5.size)).upd l8v (Upd.two _ _)).upd l10v (Upd.two _ _)
         have eb : Ext w wb := by rw [← hwb]; exact (Upd.two _ _).ext ((Upd.two _ _).ext (ev4.trans he5) (by omega)) (by omega)
         clear hwb)
      obtain ⟨f1, f2, f3, f4⟩ := q8.two
      obtain ⟨h1, h2, h3, h4⟩ := q10.two
      obtain ⟨⟨k0, k1, k2, k3⟩, k4, k5, k6, k7⟩ := q3.four
      go_wp2_with fail
      refine bodyPost_ret (res_fe rfl rfl rfl (q3.four_set _ _ _ _)) rfl ?_
      exact ⟨_, _, HLOW, fin_frac (g := g3) r5 r6 (by omega) (by omega) eb 0⟩
  · have hyn : ¬ y < 0 := fun h => hneg (HC2.out.2 h)
    have hlow2 := hlow.out
    rw [if_neg hyn, if_neg hyn] at hlow2
    have HLOW := Lib.hid hlow2
    clear hlow2 hlow hyn
    go_wp2_with fail
    refine bodyPost_ret (res_fe rfl rfl rfl (hb3'.four_set _ _ _ _)) rfl ?_
    exact ⟨_, _, HLOW, fin_frac (g := g3) (base := v2.heap.size) z3'' (z4'.mono (by omega)) (by omega) (by omega) ev4 0⟩
end Go.Proofs.Ytmaconeeonkdgaa

/- fractions: sums, products, quotients -/
namespace Go.Proofs.Ytmaconeeonkdgaa
open Go.RowKit

theorem ln_mul_le {x y : Int} {a b : Nat} (hx : ln x ≤ a) (hy : ln y ≤ b) {c : Nat} (h : a + b ≤ c) : ln (x * y) ≤ c := Nat.le_trans (ln_mul hx hy) h
theorem ln_muladd_le {x y z : Int} {a b d : Nat} (hx : ln x ≤ a) (hy : ln y ≤ b) (hz : ln z ≤ d) {c : Nat} (h : max (a + b) d + 1 ≤ c) : ln (x * y + z) ≤ c := Nat.le_trans (ln_add (ln_mul hx hy) hz) h

/-- the fraction of x and y, or its refusal -/
def OfP (w : World) (x y : Int) (e : Ending) (w' : World) : Prop :=
  ∃ p q er, RetFE w p q er e w' ∧ Hid ((y = 0 → p = 0 ∧ q = 0 ∧ er = 4) ∧ (y ≠ 0 → Low p q x y ∧ er = 0))
theorem frac_OfP {w : World} {s t : Bool} {A B : Option Addr} {n cap m cap' : Nat} {x y : Int} (hx : Zi w s A n cap x) (hl : n ≤ 68719476736) (hy : Zi w t B m cap' y) (hl' : m ≤ 68719476736) :
    Calls Try.prog 21 #[.agg #[.bool s, .slice A n cap], .agg #[.bool t, .slice B m cap']] w (OfP w x y) := by
  by_cases h0 : y = 0
  · exact (frac_Of_bad hy hl' h0).mono fun e w' h => ⟨0, 0, 4, h, fun _ => ⟨rfl, rfl, rfl⟩, fun h => absurd h0 h⟩
  · refine (frac_Of hx hl hy hl' h0).mono ?_
    rintro e w' ⟨p, q, hlow, h⟩
    exact ⟨p, q, 0, h, fun h => absurd h h0, fun _ => ⟨hlow.out, rfl⟩⟩




/-- a quotient of fractions, or its refusal -/
def DivP (w : World) (x y u v : Int) (e : Ending) (w' : World) : Prop :=
  ∃ p q er, RetFE w p q er e w' ∧ Hid ((y = 0 ∨ u = 0 ∨ v = 0 → p = 0 ∧ q = 0 ∧ er = 4) ∧ (y ≠ 0 → u ≠ 0 → v ≠ 0 → Low p q (x * v) (y * u) ∧ er = 0))
theorem div_of {x y u v p q er : Int} (hz : y ≠ 0 ∧ v ≠ 0) (h : (y * u = 0 → p = 0 ∧ q = 0 ∧ er = 4) ∧ (y * u ≠ 0 → Low p q (x * v) (y * u) ∧ er = 0)) :
    (y = 0 ∨ u = 0 ∨ v = 0 → p = 0 ∧ q = 0 ∧ er = 4) ∧ (y ≠ 0 → u ≠ 0 → v ≠ 0 → Low p q (x * v) (y * u) ∧ er = 0) := by
  refine ⟨fun h0 => ?_, fun hy hu _ => h.2 (Int.mul_ne_zero hy hu)⟩
  rcases h0 with h0 | h0 | h0
  · exact absurd h0 hz.1
  · exact h.1 (by rw [h0, Int.mul_zero])
  · exact absurd h0 hz.2


end Go.Proofs.Ytmaconeeonkdgaa

/- trellislaw08: the helpers of the laws -/
namespace Go.Proofs.Ytmaconeeonkdgaa
open Go.RowKit

theorem boxesL2 (w : World) (t t' : TypeId) (l l' : List Value) : ∃ g g2 wa, w.heap.size + 1 = g2 ∧ w.heap.size = g ∧ (w.alloc (.cells l.toArray t)).alloc (.cells l'.toArray t') = wa ∧ Bk wa g t l ∧ Bk wa g2 t' l' ∧ Ext w wa ∧ g < g2 ∧ g2 < wa.heap.size ∧ g ≠ g2 ∧ g2 ≠ g :=
  ⟨_, _, _, rfl, rfl, rfl, (Bk.new w t l).alloc _, Bk.fr2, ((Ext.refl w).alloc _).alloc _, by omega, by simp, by omega, by omega⟩
theorem boxesL1 (w : World) (t : TypeId) (l : List Value) : ∃ g wa, w.heap.size = g ∧ w.alloc (.cells l.toArray t) = wa ∧ Bk wa g t l ∧ Ext w wa ∧ g < wa.heap.size :=
  ⟨_, _, rfl, rfl, Bk.new w t l, (Ext.refl w).alloc _, by simp⟩
theorem Zr.eq_iff {w : World} {base base' : Nat} {s t : Bool} {A B : Option Addr} {n cap m cap' : Nat} {x y : Int} (hx : Zr w base s A n cap x) (hy : Zr w base' t B m cap' y) : x = y ↔ (s = t ∧ wd x.natAbs = wd y.natAbs) := by
  constructor
  · intro h; subst h; exact ⟨hx.sgn.trans hy.sgn.symm, rfl⟩
  · rintro ⟨h1, h2⟩
    have h3 := wd_inj h2
    have h4 : decide (x < 0) = decide (y < 0) := by rw [← hx.sgn, ← hy.sgn, h1]
    rw [← sg_self x, ← sg_self y, h3, h4]
theorem law_alike {w : World} {base base' : Nat} {s t : Bool} {A B : Option Addr} {n cap m cap' : Nat} {x y : Int} (hx : Zr w base s A n cap x) (hl : n ≤ 1099511627776) (hy : Zr w base' t B m cap' y) (hl' : m ≤ 1099511627776) {b : Bool} (hb : b = decide (x = y)) :
    Calls Try.prog 18 #[.agg #[.bool s, .slice A n cap], .agg #[.bool t, .slice B m cap']] w (BoolP b w) := by
  have HB : Hid (b = decide (s = t ∧ wd x.natAbs = wd y.natAbs)) := by
    show _ = _
    rw [hb]; congr 1; exact propext (hx.eq_iff hy)
  clear hb
  go_enter Try.func18, Try.ntmps18
  go_upto_region 1 with (fail)
  obtain ⟨g, g2, wa, hg2, hg, hwa, hb1, hb2, hea, l12, l2, n12, n21⟩ := boxesL2 w 27 27 [.bool s, .slice A n cap] [.bool t, .slice B m cap']
  rw [hg2, hg, hwa]
  clear hwa hg hg2
  obtain ⟨f1, f2, f3, f4⟩ := hb1.two
  obtain ⟨h1, h2, h3, h4⟩ := hb2.two
  by_cases hst : s = t
  · have bs : (s == t) = true := by rw [hst]; cases t <;> rfl
    have HST := Lib.hid hst
    clear hst
    go_wp2_with fail
    refine (ref1_Same (hx.rd.ext hea) hl (hy.rd.ext hea) hl').mono ?_
    rintro e w1 ⟨rfl, hx1⟩
    have ed : decide (wd x.natAbs = wd y.natAbs) = b := by
      rw [HB.out]; congr 1; simp [HST.out]
    rw [ed]
    go_wp2_with fail
    go_ret
    exact ⟨rfl, hea.trans hx1⟩
  · have bs : (s == t) = false := by cases s <;> cases t <;> simp_all
    obtain rfl : b = false := by rw [HB.out]; exact decide_eq_false (fun h => hst h.1)
    clear hst HB
    go_wp2_with fail
    go_ret
    exact ⟨rfl, hea⟩
theorem law_like {w : World} {base base' : Nat} {s s' t t' : Bool} {A A' B B' : Option Addr} {n cap n' cap' m dap m' dap' : Nat} {x y u v : Int} (hx : Zr w base s A n cap x) (hl : n ≤ 1099511627776) (hy : Zr w base s' A' n' cap' y) (hl' : n' ≤ 1099511627776)
    (hu : Zr w base' t B m dap u) (hk : m ≤ 1099511627776) (hv : Zr w base' t' B' m' dap' v) (hk' : m' ≤ 1099511627776) (h1 : x = u) (h2 : y = v) :
    Calls Try.prog 26 #[.agg #[.bool s, .slice A n cap, .bool s', .slice A' n' cap'], .agg #[.bool t, .slice B m dap, .bool t', .slice B' m' dap']] w (BoolP true w) := by
  subst h1
  subst h2
  go_enter Try.func26, Try.ntmps26
  go_upto_region 1 with (fail)
  obtain ⟨g, g2, wa, hg2, hg, hwa, hb1, hb2, hea, l12, l2, n12, n21⟩ := boxesL2 w 29 29 [.bool s, .slice A n cap, .bool s', .slice A' n' cap'] [.bool t, .slice B m dap, .bool t', .slice B' m' dap']
  rw [hg2, hg, hwa]
  clear hwa hg hg2
  obtain ⟨⟨a0, a1, a2, a3⟩, a4⟩ := hb1.four
  obtain ⟨⟨b0, b1, b2, b3⟩, b4⟩ := hb2.four
  go_wp2_with fail
  refine (law_alike (hx.ext hea) hl (hu.ext hea) hk (b := true) (by simp)).mono ?_
  rintro e w1 ⟨rfl, hx1⟩
  clear a0 a1 a2 a3 a4 b0 b1 b2 b3 b4
  obtain ⟨⟨a0, a1, a2, a3⟩, a4⟩ := (hb1.ext hx1).four
  obtain ⟨⟨b0, b1, b2, b3⟩, b4⟩ := (hb2.ext hx1).four
  go_wp2_with fail
  refine (law_alike (hy.ext (hea.trans hx1)) hl' (hv.ext (hea.trans hx1)) hk' (b := true) (by simp)).mono ?_
  rintro e w2 ⟨rfl, hx2⟩
  go_wp2_with fail
  go_ret
  exact ⟨rfl, hea.trans (hx1.trans hx2)⟩
theorem law_is {w : World} {s s' : Bool} {A A' : Option Addr} {n cap n' cap' : Nat} {y : Int} (hy : Zi w s' A' n' cap' y) (hl' : n' ≤ 68719476736) {b : Bool} (hb : b = decide (y ≠ 0)) :
    Calls Try.prog 20 #[.agg #[.bool s, .slice A n cap, .bool s', .slice A' n' cap']] w (BoolP b w) := by
  have HB := Lib.hid hb
  clear hb
  go_enter Try.func20, Try.ntmps20
  go_upto_region 1 with (fail)
  obtain ⟨g, wa, hg, hwa, hb1, hea, l2⟩ := boxesL1 w 29 [.bool s, .slice A n cap, .bool s', .slice A' n' cap']
  rw [hg, hwa]
  clear hwa hg
  obtain ⟨⟨a0, a1, a2, a3⟩, a4⟩ := hb1.four
  go_wp2_with fail
  refine (zint_Sign (hy.ext hea) hl').mono ?_
  rintro e w1 ⟨c, hc, hcl, hch, rfl, hx1⟩
  have hc0 : c = 0 ↔ y = 0 := by rw [hc.out]; exact scmp_zero
  by_cases h0 : y = 0
  · obtain rfl : c = 0 := hc0.2 h0
    obtain rfl : b = false := by rw [HB.out, decide_eq_false (fun h => h h0)]
    clear hc hc0 h0 HB
    go_wp2_with fail
    go_ret
    exact ⟨rfl, hea.trans hx1⟩
  · have bc : (c != 0) = true := by simp; exact fun h => h0 (hc0.1 h)
    obtain rfl : b = true := by rw [HB.out, decide_eq_true h0]
    clear hc hc0 h0 HB
    go_wp2_with fail
    go_ret
    exact ⟨rfl, hea.trans hx1⟩
/-- a literal integer of one word -/
theorem Zr.lit (w : World) {s : Bool} {v : Nat} {z : Int} (hv : v ≤ 18446744073709551615) (h0 : v ≠ 0) (hz : z = sg s v) : Zr (w.alloc (.cells #[.int .u64 (v : Int)] 47)) w.heap.size s (some ⟨w.heap.size, 0, none⟩) 1 1 z := by
  have e : z.natAbs = v := by rw [hz, sg_abs]
  have e2 : wd v = [v] := wd_small (by rw [WB_def]; omega) h0
  refine ⟨?_, ?_, ?_⟩
  · rw [hz]
    cases s
    · rw [sg_false]; exact (decide_eq_false (by omega)).symm
    · rw [sg_true]; exact (decide_eq_true (by omega)).symm
  · unfold ln; rw [e, e2]; rfl
  · rw [e, e2]
    exact Own.mk_ (Nat.le_refl _) (Bk.new w 47 [.int .u64 (v : Int)]) (Nat.le_refl _) (by rw [len_maxLen]; omega) rfl rfl
theorem law_whole {w : World} {v : Nat} (hv : v ≤ 18446744073709551615) (h0 : v ≠ 0) :
    Calls Try.prog 52 #[.int .u64 (v : Int)] w (RetZ w (v : Int)) := by
  have bv : ((v : Int) == 0) = false := by simp; omega
  go_enter Try.func52, Try.ntmps52
  go_upto_region 3 with (fail)
  obtain ⟨g, wa, hg, hwa, hb1, hea, l2⟩ := boxesL1 w 27 [.bool false, .slice none 0 0]
  rw [hg, hwa]
  have hgw : w.heap.size ≤ g := Nat.le_of_eq hg
  clear hwa hg
  have hlit : Zr (wa.alloc (.cells #[.int .u64 (v : Int)] 47)) wa.heap.size false (some ⟨wa.heap.size, 0, none⟩) 1 1 (v : Int) := Zr.lit wa hv h0 (sg_false v).symm
  have hb2 := hb1.alloc (.cells #[.int .u64 (v : Int)] 47)
  obtain ⟨wb, hwb⟩ : ∃ wb, wa.alloc (.cells #[.int .u64 (v : Int)] 47) = wb := ⟨_, rfl⟩
  rw [hwb] at hlit hb2
  have heb : Ext w wb := by rw [← hwb]; exact hea.alloc _
  obtain ⟨k1, k2, k3, k4⟩ := hb2.two
  go_wp2_with fail
  refine bodyPost_ret (res_int rfl rfl (hb2.two_set _ _)) rfl ?_
  exact fin_int hb2 hlit (by omega) (by omega) heb
end Go.Proofs.Ytmaconeeonkdgaa

/- trellislaw08: lowest, names, awake -/
namespace Go.Proofs.Ytmaconeeonkdgaa
open Go.RowKit

set_option maxHeartbeats 4000000 in
theorem law_lowest {w : World} {base base' : Nat} {s s' : Bool} {A A' : Option Addr} {n cap n' cap' : Nat} {p q : Int} (hp : Zr w base s A n cap p) (hl : n ≤ 17179869184) (hq : Zr w base' s' A' n' cap' q) (hl' : n' ≤ 17179869184) (hpos : 0 < q) (hco : Int.gcd p q = 1) :
    Calls Try.prog 19 #[.agg #[.bool s, .slice A n cap, .bool s', .slice A' n' cap']] w (BoolP true w) := by
  have HP := Lib.hid hpos
  have HCO := Lib.hid hco
  clear hpos hco
  go_enter Try.func19, Try.ntmps19
  go_upto_region 1 with (fail)
  obtain ⟨g, wa, hg, hwa, hb1, hea, l2⟩ := boxesL1 w 29 [.bool s, .slice A n cap, .bool s', .slice A' n' cap']
  rw [hg, hwa]
  clear hwa hg
  obtain ⟨⟨a0, a1, a2, a3⟩, a4⟩ := hb1.four
  go_wp2_with fail
  refine (bezout_Gcd (hp.zi.ext hea) (by omega) (hq.zi.ext hea) (by omega)).mono ?_
  rintro e w1 ⟨s1, A1, n1, c1, rfl, z1, hx1⟩
  rw [HCO.out] at z1
  have b1 : n1 ≤ 1 := z1.le (by decide +kernel)
  clear a0 a1 a2 a3 a4
  go_upto_region 2 with (fail)
  obtain ⟨g3, wb, hg3, hwb, hb3, heb, l3⟩ := boxesL1 w1 27 [.bool s1, .slice A1 n1 c1]
  rw [hg3, hwb]
  clear hwb hg3
  have hb1 := hb1.ext (hx1.trans heb)
  have z1 := z1.ext heb
  have ewb := hea.trans (hx1.trans heb)
  clear hx1 heb
  obtain ⟨⟨a0, a1, a2, a3⟩, a4⟩ := hb1.four
  obtain ⟨f0, f1, f2, f3⟩ := hb3.two
  go_region_held3 (fun w' => w'.cell? ⟨g, 0, none⟩ = some (.bool s) ∧ w'.cell? ⟨g, 1, none⟩ = some (.slice A n cap) ∧ w'.cell? ⟨g, 2, none⟩ = some (.bool s') ∧ w'.cell? ⟨g, 3, none⟩ = some (.slice A' n' cap') ∧ w'.cell? ⟨g3, 0, none⟩ = some (.bool s1) ∧ w'.cell? ⟨g3, 1, none⟩ = some (.slice A1 n1 c1)) (go_keep)
    (first
    | (go_at_call 53; (with_reducible refine (zint_Sign (hq.zi.ext (ewb.trans (by repeat (first | exact Ext.refl _ | assumption | apply Ext.drewN | apply Ext.drew | apply Ext.alloc)))) (by omega)).mono ?_); rintro e w2 ⟨c, hc, hcl, hch, rfl, hx2⟩; have he2 : Ext wb w2 := Ext.trans (by repeat (first | exact Ext.refl _ | assumption | apply Ext.drewN | apply Ext.drew | apply Ext.alloc)) hx2; have hcp : 0 < c := (by rw [hc.out]; exact scmp_pos.2 HP.out); clear a0 a1 a2 a3 a4 f0 f1 f2 f3; obtain ⟨⟨a0, a1, a2, a3⟩, a4⟩ := (hb1.ext he2).four; obtain ⟨f0, f1, f2, f3⟩ := (hb3.ext he2).two)
    | (go_at_call 15; refine (zint_Of (v := 1) (by omega)).mono ?_; rintro e w3 ⟨s3, A3, n3, c3, rfl, z3, hx3⟩; have he3 : Ext wb w3 := Ext.trans (by repeat (first | exact Ext.refl _ | assumption | apply Ext.drewN | apply Ext.drew | apply Ext.alloc)) hx3; have b3 : n3 ≤ 1 := z3.le (by decide +kernel); clear a0 a1 a2 a3 a4 f0 f1 f2 f3; obtain ⟨⟨a0, a1, a2, a3⟩, a4⟩ := (hb1.ext he3).four; obtain ⟨f0, f1, f2, f3⟩ := (hb3.ext he3).two)
    | (go_at_call 18; (with_reducible refine (law_alike (z1.ext (by repeat (first | exact Ext.refl _ | assumption | apply Ext.drewN | apply Ext.drew | apply Ext.alloc))) (by omega) z3 (by omega) (b := true) (by simp)).mono ?_); rintro e w4 ⟨rfl, hx4⟩; have he4 : Ext wb w4 := Ext.trans (by repeat (first | exact Ext.refl _ | assumption | apply Ext.drewN | apply Ext.drew | apply Ext.alloc)) hx4; clear a0 a1 a2 a3 a4 f0 f1 f2 f3; obtain ⟨⟨a0, a1, a2, a3⟩, a4⟩ := (hb1.ext he4).four; obtain ⟨f0, f1, f2, f3⟩ := (hb3.ext he4).two)
    | (go_at_call 59; (with_reducible refine (zint_Least (hp.zi.ext (ewb.trans (by repeat (first | exact Ext.refl _ | assumption | apply Ext.drewN | apply Ext.drew | apply Ext.alloc)))) (by omega)).mono ?_); rintro e w5 ⟨s5, A5, n5, c5, rfl, z5, hx5⟩; have he5 : Ext wb w5 := Ext.trans (by repeat (first | exact Ext.refl _ | assumption | apply Ext.drewN | apply Ext.drew | apply Ext.alloc)) hx5; have b5 : n5 ≤ 17179869184 := (by rw [z5.len, ← hp.len]; exact hl); clear a0 a1 a2 a3 a4 f0 f1 f2 f3; obtain ⟨⟨a0, a1, a2, a3⟩, a4⟩ := (hb1.ext he5).four; obtain ⟨f0, f1, f2, f3⟩ := (hb3.ext he5).two)
    | (go_at_call 18; (with_reducible refine (law_alike (hp.ext (ewb.trans (by repeat (first | exact Ext.refl _ | assumption | apply Ext.drewN | apply Ext.drew | apply Ext.alloc)))) (by omega) z5 (by omega) (b := true) (by simp)).mono ?_); rintro e w6 ⟨rfl, hx6⟩; have he6 : Ext wb w6 := Ext.trans (by repeat (first | exact Ext.refl _ | assumption | apply Ext.drewN | apply Ext.drew | apply Ext.alloc)) hx6; clear a0 a1 a2 a3 a4 f0 f1 f2 f3; obtain ⟨⟨a0, a1, a2, a3⟩, a4⟩ := (hb1.ext he6).four; obtain ⟨f0, f1, f2, f3⟩ := (hb3.ext he6).two)
    | (go_at_call 59; (with_reducible refine (zint_Least (hq.zi.ext (ewb.trans (by repeat (first | exact Ext.refl _ | assumption | apply Ext.drewN | apply Ext.drew | apply Ext.alloc)))) (by omega)).mono ?_); rintro e w7 ⟨s7, A7, n7, c7, rfl, z7, hx7⟩; have he7 : Ext wb w7 := Ext.trans (by repeat (first | exact Ext.refl _ | assumption | apply Ext.drewN | apply Ext.drew | apply Ext.alloc)) hx7; have b7 : n7 ≤ 17179869184 := (by rw [z7.len, ← hq.len]; exact hl'); clear a0 a1 a2 a3 a4 f0 f1 f2 f3; obtain ⟨⟨a0, a1, a2, a3⟩, a4⟩ := (hb1.ext he7).four; obtain ⟨f0, f1, f2, f3⟩ := (hb3.ext he7).two)
    | (go_at_call 18; (with_reducible refine (law_alike (hq.ext (ewb.trans (by repeat (first | exact Ext.refl _ | assumption | apply Ext.drewN | apply Ext.drew | apply Ext.alloc)))) (by omega) z7 (by omega) (b := true) (by simp)).mono ?_); rintro e w8 ⟨rfl, hx8⟩; have he8 : Ext wb w8 := Ext.trans (by repeat (first | exact Ext.refl _ | assumption | apply Ext.drewN | apply Ext.drew | apply Ext.alloc)) hx8; clear a0 a1 a2 a3 a4 f0 f1 f2 f3; obtain ⟨⟨a0, a1, a2, a3⟩, a4⟩ := (hb1.ext he8).four; obtain ⟨f0, f1, f2, f3⟩ := (hb3.ext he8).two))
  go_wp2_with fail
  go_ret
  exact ⟨rfl, ewb.trans (by repeat (first | exact Ext.refl _ | assumption | apply Ext.drewN | apply Ext.drew | apply Ext.alloc))⟩

set_option maxHeartbeats 4000000 in
theorem law_names {w : World} {base base' : Nat} {s s' t t' : Bool} {A A' B B' : Option Addr} {n cap n' cap' m dap m' dap' : Nat} {p q x y : Int} (hp : Zr w base s A n cap p) (hl : n ≤ 17179869184) (hq : Zr w base' s' A' n' cap' q) (hl' : n' ≤ 17179869184) (hx : Zi w t B m dap x) (hk : m ≤ 17179869184) (hy : Zi w t' B' m' dap' y) (hk' : m' ≤ 17179869184) (hlow : Low p q x y) :
    Calls Try.prog 14 #[.agg #[.bool s, .slice A n cap, .bool s', .slice A' n' cap'], .agg #[.bool t, .slice B m dap], .agg #[.bool t', .slice B' m' dap']] w (BoolP true w) := by
  have HLOW := Lib.hid hlow
  have LX := Lib.hid (Nat.le_trans hx.ln hk)
  have LY := Lib.hid (Nat.le_trans hy.ln hk')
  have LP := Lib.hid (Nat.le_trans hp.zi.ln hl)
  have LQ := Lib.hid (Nat.le_trans hq.zi.ln hl')
  have HE : Hid (p * y = x * q) := hlow.eq
  clear hlow
  go_enter Try.func14, Try.ntmps14
  go_upto_region 1 with (fail)
  obtain ⟨g, g2, g3, wb, hg3, hg2, hg, hwb, hb1, hb2, hb3, ewb, l12, l23, l3, n12, n21, n13, n31, n23, n32⟩ := boxesL3 w 29 27 27 [.bool s, .slice A n cap, .bool s', .slice A' n' cap'] [.bool t, .slice B m dap] [.bool t', .slice B' m' dap']
  rw [hg3, hg2, hg, hwb]
  clear hwb hg hg2 hg3
  obtain ⟨⟨a0, a1, a2, a3⟩, a4⟩ := hb1.four
  obtain ⟨f0, f1, f2, f3⟩ := hb2.two
  obtain ⟨h0, h1, h2, h3⟩ := hb3.two
  go_region_held3 (fun w' => w'.cell? ⟨g, 0, none⟩ = some (.bool s) ∧ w'.cell? ⟨g, 1, none⟩ = some (.slice A n cap) ∧ w'.cell? ⟨g, 2, none⟩ = some (.bool s') ∧ w'.cell? ⟨g, 3, none⟩ = some (.slice A' n' cap') ∧ w'.cell? ⟨g2, 0, none⟩ = some (.bool t) ∧ w'.cell? ⟨g2, 1, none⟩ = some (.slice B m dap) ∧ w'.cell? ⟨g3, 0, none⟩ = some (.bool t') ∧ w'.cell? ⟨g3, 1, none⟩ = some (.slice B' m' dap')) (go_keep)
    (first
    | (go_at_call 19; (with_reducible refine (law_lowest (hp.ext (ewb.trans (by repeat (first | exact Ext.refl _ | assumption | apply Ext.drewN | apply Ext.drew | apply Ext.alloc)))) hl (hq.ext (ewb.trans (by repeat (first | exact Ext.refl _ | assumption | apply Ext.drewN | apply Ext.drew | apply Ext.alloc)))) hl' HLOW.out.pos HLOW.out.co).mono ?_); rintro e w2 ⟨rfl, hx2⟩; have he2 : Ext wb w2 := Ext.trans (by repeat (first | exact Ext.refl _ | assumption | apply Ext.drewN | apply Ext.drew | apply Ext.alloc)) hx2; clear a0 a1 a2 a3 a4 f0 f1 f2 f3 h0 h1 h2 h3; obtain ⟨⟨a0, a1, a2, a3⟩, a4⟩ := (hb1.ext he2).four; obtain ⟨f0, f1, f2, f3⟩ := (hb2.ext he2).two; obtain ⟨h0, h1, h2, h3⟩ := (hb3.ext he2).two)
    | (go_at_call 17; (with_reducible refine (zint_Mul (hp.zi.ext (ewb.trans (by repeat (first | exact Ext.refl _ | assumption | apply Ext.drewN | apply Ext.drew | apply Ext.alloc)))) (by omega) (hy.ext (ewb.trans (by repeat (first | exact Ext.refl _ | assumption | apply Ext.drewN | apply Ext.drew | apply Ext.alloc)))) (by omega)).mono ?_); rintro e w5 ⟨s5, A5, n5, c5, rfl, z5, hx5⟩; have he5 : Ext wb w5 := Ext.trans (by repeat (first | exact Ext.refl _ | assumption | apply Ext.drewN | apply Ext.drew | apply Ext.alloc)) hx5; have b5 : n5 ≤ 1099511627776 := (Nat.le_trans (z5.le (ln_mul LP.out LY.out)) (by omega)); (try have z6 := z6.ext hx5); clear a0 a1 a2 a3 a4 f0 f1 f2 f3 h0 h1 h2 h3; obtain ⟨⟨a0, a1, a2, a3⟩, a4⟩ := (hb1.ext he5).four; obtain ⟨f0, f1, f2, f3⟩ := (hb2.ext he5).two; obtain ⟨h0, h1, h2, h3⟩ := (hb3.ext he5).two)
    | (go_at_call 17; (with_reducible refine (zint_Mul (hx.ext (ewb.trans (by repeat (first | exact Ext.refl _ | assumption | apply Ext.drewN | apply Ext.drew | apply Ext.alloc)))) (by omega) (hq.zi.ext (ewb.trans (by repeat (first | exact Ext.refl _ | assumption | apply Ext.drewN | apply Ext.drew | apply Ext.alloc)))) (by omega)).mono ?_); rintro e w6 ⟨s6, A6, n6, c6, rfl, z6, hx6⟩; have he6 : Ext wb w6 := Ext.trans (by repeat (first | exact Ext.refl _ | assumption | apply Ext.drewN | apply Ext.drew | apply Ext.alloc)) hx6; have b6 : n6 ≤ 1099511627776 := (Nat.le_trans (z6.le (ln_mul LX.out LQ.out)) (by omega)); (try have z5 := z5.ext hx6); clear a0 a1 a2 a3 a4 f0 f1 f2 f3 h0 h1 h2 h3; obtain ⟨⟨a0, a1, a2, a3⟩, a4⟩ := (hb1.ext he6).four; obtain ⟨f0, f1, f2, f3⟩ := (hb2.ext he6).two; obtain ⟨h0, h1, h2, h3⟩ := (hb3.ext he6).two)
    | (go_at_call 18; (with_reducible refine (law_alike z5 b5 z6 b6 (b := true) (decide_eq_true HE.out).symm).mono ?_); rintro e w7 ⟨rfl, hx7⟩; have he7 : Ext wb w7 := Ext.trans (by repeat (first | exact Ext.refl _ | assumption | apply Ext.drewN | apply Ext.drew | apply Ext.alloc)) hx7; clear a0 a1 a2 a3 a4 f0 f1 f2 f3 h0 h1 h2 h3; obtain ⟨⟨a0, a1, a2, a3⟩, a4⟩ := (hb1.ext he7).four; obtain ⟨f0, f1, f2, f3⟩ := (hb2.ext he7).two; obtain ⟨h0, h1, h2, h3⟩ := (hb3.ext he7).two))
  all_goals
    go_wp2_with fail
    go_ret
    exact ⟨rfl, ewb.trans (by repeat (first | exact Ext.refl _ | assumption | apply Ext.drewN | apply Ext.drew | apply Ext.alloc))⟩

theorem Zi.six (w : World) : Zi (w.alloc (.cells #[.int .u64 6, .int .u64 0] 47)) true (some ⟨w.heap.size, 0, none⟩) 2 2 (-6) := by
  refine ⟨[6, 0], ?_, by decide⟩
  have h : Bk (w.alloc (.cells #[.int .u64 6, .int .u64 0] 47)) w.heap.size 47 ([6, 0].map W64) := Bk.new w 47 [.int .u64 6, .int .u64 0]
  exact h.rd (o := 0) (n := 2) (cap := 2) (by intro x hx; simp at hx; rcases hx with rfl | rfl <;> decide) (Nat.le_refl _) (by simp) (by rw [len_maxLen]; omega)
set_option maxHeartbeats 4000000 in
theorem law_awake (w : World) : Calls Try.prog 11 #[] w (BoolP true w) := by
  go_enter Try.func11, Try.ntmps11
  go_wp2_with fail
  refine (law_whole (v := 4) (by omega) (by omega)).mono ?_
  rintro e w1 ⟨s1, A1, n1, c1, rfl, z1, hx1⟩
  have b1 : n1 ≤ 1 := z1.le (by decide +kernel)
  go_wp2_with fail
  have h6 := Zi.six w1
  obtain ⟨wc, hwc⟩ : ∃ wc, w1.alloc (.cells #[.int .u64 6, .int .u64 0] 47) = wc := ⟨_, rfl⟩
  have hec : Ext w1 wc := by rw [← hwc]; exact (Ext.refl w1).alloc _
  rw [hwc] at h6 ⊢
  refine (frac_Of (z1.zi.ext hec) (by omega) h6 (by omega) (by decide)).mono ?_
  rintro e w2 ⟨p, q, hlow, s8, A8, n8, c8, s9, A9, n9, c9, rfl, z8, z9, hx2⟩
  obtain ⟨hp, hq⟩ : p = -2 ∧ q = 3 := lows_eq hlow.out.co (by decide) hlow.out.pos (by decide) (by have := hlow.out.eq; omega)
  subst hp
  subst hq
  have b8 : n8 ≤ 1 := z8.le (by decide +kernel)
  have b9 : n9 ≤ 1 := z9.le (by decide +kernel)
  have e2 : Ext w w2 := hx1.trans (hec.trans hx2)
  clear hwc hlow
  go_upto_region 2 with (fail)
  obtain ⟨g, wb, hg, hwb, hb1, heb, l2⟩ := boxesL1 w2 29 [.bool s8, .slice A8 n8 c8, .bool s9, .slice A9 n9 c9]
  rw [hg, hwb]
  clear hwb hg
  have z8 := z8.ext heb
  have z9 := z9.ext heb
  have ewb := e2.trans heb
  obtain ⟨⟨a0, a1, a2, a3⟩, a4⟩ := hb1.four
  have hlit : Zr ((wb.alloc (.cells #[.int .u64 2] 47)).drew) wb.heap.size true (some ⟨wb.heap.size, 0, none⟩) 1 1 (-2) := (Zr.lit wb (s := true) (v := 2) (z := -2) (by omega) (by omega) (by decide)).ext ((Ext.refl _).drew)
  go_region_held3 (fun w' => w'.cell? ⟨g, 0, none⟩ = some (.bool s8) ∧ w'.cell? ⟨g, 1, none⟩ = some (.slice A8 n8 c8) ∧ w'.cell? ⟨g, 2, none⟩ = some (.bool s9) ∧ w'.cell? ⟨g, 3, none⟩ = some (.slice A9 n9 c9)) (go_keep)
    (first
    | (go_at_call 18; (with_reducible refine (law_alike (z8.ext (by repeat (first | exact Ext.refl _ | assumption | apply Ext.drewN | apply Ext.drew | apply Ext.alloc))) (by omega) hlit (by omega) (b := true) (by decide)).mono ?_); rintro e w4 ⟨rfl, hx4⟩; have he4 : Ext wb w4 := Ext.trans (by repeat (first | exact Ext.refl _ | assumption | apply Ext.drewN | apply Ext.drew | apply Ext.alloc)) hx4; clear a0 a1 a2 a3 a4; obtain ⟨⟨a0, a1, a2, a3⟩, a4⟩ := (hb1.ext he4).four)
    | (go_at_call 52; refine (law_whole (v := 3) (by omega) (by omega)).mono ?_; rintro e w5 ⟨s5, A5, n5, c5, rfl, z5, hx5⟩; have he5 : Ext wb w5 := Ext.trans (by repeat (first | exact Ext.refl _ | assumption | apply Ext.drewN | apply Ext.drew | apply Ext.alloc)) hx5; have b5 : n5 ≤ 1 := z5.le (by decide +kernel); clear a0 a1 a2 a3 a4; obtain ⟨⟨a0, a1, a2, a3⟩, a4⟩ := (hb1.ext he5).four)
    | (go_at_call 18; (with_reducible refine (law_alike (z9.ext (by repeat (first | exact Ext.refl _ | assumption | apply Ext.drewN | apply Ext.drew | apply Ext.alloc))) (by omega) z5 (by omega) (b := true) (by simp)).mono ?_); rintro e w6 ⟨rfl, hx6⟩; have he6 : Ext wb w6 := Ext.trans (by repeat (first | exact Ext.refl _ | assumption | apply Ext.drewN | apply Ext.drew | apply Ext.alloc)) hx6; clear a0 a1 a2 a3 a4; obtain ⟨⟨a0, a1, a2, a3⟩, a4⟩ := (hb1.ext he6).four))
  go_wp2_with fail
  go_ret
  exact ⟨rfl, ewb.trans (by repeat (first | exact Ext.refl _ | assumption | apply Ext.drewN | apply Ext.drew | apply Ext.alloc))⟩
end Go.Proofs.Ytmaconeeonkdgaa

/- continued fractions: numerator and denominator, neighbours. No program in sight. -/
namespace Go.Proofs.Ytmaconeeonkdgaa
/-- numerator and denominator of a continued fraction, from its end -/
def nd : List Int → Int × Int
  | [] => (1, 0)
  | x :: r => (x * (nd r).1 + (nd r).2, (nd r).1)
theorem nd_den (x : Int) (r : List Int) : (nd (x :: r)).2 = (nd r).1 := rfl
theorem nd_num (x : Int) (r : List Int) : (nd (x :: r)).1 = x * (nd r).1 + (nd r).2 := rfl
theorem nd_gcd (l : List Int) : Int.gcd (nd l).1 (nd l).2 = 1 := by
  induction l with
  | nil => rfl
  | cons x r ih =>
    rw [nd_num, nd_den, Int.gcd_comm]
    have : Int.gcd (nd r).1 (x * (nd r).1 + (nd r).2) = Int.gcd (nd r).1 (nd r).2 := by simp
    rw [this]; exact ih
/-- where all lie above 0, so do both -/
theorem nd_pos (l : List Int) (h : ∀ x ∈ l, 0 < x) : 0 < (nd l).1 ∧ 0 ≤ (nd l).2 := by
  induction l with
  | nil => exact ⟨by decide, by decide⟩
  | cons x r ih =>
    obtain ⟨h1, h2⟩ := ih (fun y hy => h y (by simp [hy]))
    rw [nd_num, nd_den]
    have := Int.mul_pos (h x (by simp)) h1
    exact ⟨by omega, by omega⟩
/-- neighbours -/
theorem nd_cross (l : List Int) (y : Int) (h : l ≠ []) : (nd (l ++ [y])).1 * (nd l).2 - (nd l).1 * (nd (l ++ [y])).2 = if l.length % 2 = 1 then 1 else -1 := by
  induction l with
  | nil => exact absurd rfl h
  | cons x r ih =>
    cases r with
    | nil =>
      simp [nd]
      omega
    | cons z s =>
      have this := ih (by simp)
      generalize z :: s = m at this ⊢
      have a1 : (nd (x :: m ++ [y])).1 = x * (nd (m ++ [y])).1 + (nd (m ++ [y])).2 := rfl
      have a2 : (nd (x :: m ++ [y])).2 = (nd (m ++ [y])).1 := rfl
      have a3 : (nd (x :: m)).1 = x * (nd m).1 + (nd m).2 := rfl
      have a4 : (nd (x :: m)).2 = (nd m).1 := rfl
      rw [a1, a2, a3, a4, List.length_cons]
      generalize (nd (m ++ [y])).1 = P at *
      generalize (nd (m ++ [y])).2 = Q at *
      generalize (nd m).1 = R at *
      generalize (nd m).2 = T at *
      have hp : (m.length + 1) % 2 = 1 ↔ ¬ m.length % 2 = 1 := by omega
      by_cases hc : m.length % 2 = 1
      · rw [if_pos hc] at this
        rw [if_neg (fun h => (hp.1 h) hc)]
        clear a1 a2 a3 a4 hp hc ih
        grind
      · rw [if_neg hc] at this
        rw [if_pos (hp.2 hc)]
        clear a1 a2 a3 a4 hp hc ih
        grind
theorem nd_den_pos (x : Int) (r : List Int) (h : ∀ y ∈ r, 0 < y) : 0 < (nd (x :: r)).2 := by
  rw [nd_den]; exact (nd_pos r h).1
end Go.Proofs.Ytmaconeeonkdgaa

/- lists of integers that are handed in; trellislaw08.fit -/
namespace Go.Proofs.Ytmaconeeonkdgaa
open Go.RowKit

/-- a slice of integers: what they are, and how many words each has -/
structure Zl (w : World) (A : Option Addr) (n cap : Nat) (zs : List Int) (ms : List Nat) : Prop where
  len : zs.length = n
  mlen : ms.length = n
  le : n ≤ cap
  max : cap ≤ maxLen
  get : ∀ i, i < n → ∃ a s B c, A = some a ∧ w.cell? (a.add (i * 2)) = some (.bool s) ∧ w.cell? (a.add (i * 2 + 1)) = some (.slice B (ms.getD i 0) c) ∧ Zi w s B (ms.getD i 0) c (zs.getD i 0)
theorem Zl.ext {w w' : World} {A : Option Addr} {n cap : Nat} {zs : List Int} {ms : List Nat} (h : Zl w A n cap zs ms) (e : Ext w w') : Zl w' A n cap zs ms :=
  ⟨h.len, h.mlen, h.le, h.max, fun i hi => by
    obtain ⟨a, s, B, c, h1, h2, h3, h4⟩ := h.get i hi
    exact ⟨a, s, B, c, h1, e.cell h2, e.cell h3, h4.ext e⟩⟩
theorem Zl.take {w : World} {A : Option Addr} {n cap k : Nat} {zs : List Int} {ms : List Nat} (h : Zl w A n cap zs ms) (hk : k ≤ n) : Zl w A k cap (zs.take k) (ms.take k) :=
  ⟨by rw [List.length_take, h.len]; omega, by rw [List.length_take, h.mlen]; omega, Nat.le_trans hk h.le, h.max, fun i hi => by
    obtain ⟨a, s, B, c, h1, h2, h3, h4⟩ := h.get i (by omega)
    have e1 : (ms.take k).getD i 0 = ms.getD i 0 := by simp [List.getD_eq_getElem?_getD, List.getElem?_take, hi]
    have e2 : (zs.take k).getD i 0 = zs.getD i 0 := by simp [List.getD_eq_getElem?_getD, List.getElem?_take, hi]
    rw [e1, e2]
    exact ⟨a, s, B, c, h1, h2, h3, h4⟩⟩
theorem getD_le_sum : ∀ (ms : List Nat) (i : Nat), ms.getD i 0 ≤ ms.sum
  | [], i => by simp
  | m :: r, 0 => by simp
  | m :: r, i + 1 => by
    have := getD_le_sum r i
    simp only [List.getD_cons_succ, List.sum_cons]
    omega
/-- a list that a continued fraction may be: all behind the first lie above 0 -/
def Fit (zs : List Int) : Prop := zs ≠ [] ∧ ∀ i, 1 ≤ i → i < zs.length → 0 < zs.getD i 0
set_option maxHeartbeats 1000000 in
theorem law_fit {w : World} {A : Option Addr} {n cap : Nat} {zs : List Int} {ms : List Nat} (h : Zl w A n cap zs ms) (hl : n ≤ 1048576) (hs : ms.sum ≤ 1048576) {b : Bool} (hb : b = true ↔ Fit zs) :
    Calls Try.prog 12 #[.slice A n cap] w (BoolP b w) := by
  have HB := Lib.hid hb
  have hlen := Lib.hid h.len
  clear hb
  go_enter Try.func12, Try.ntmps12
  go_upto_region 2 with (fail)
  go_loopw [3] (fun u wr => ∃ i : Nat, 1 ≤ i ∧ (n = 0 ∨ i ≤ n) ∧ u = .int .i64 (i : Int) ∧ Hid (∀ j, 1 ≤ j → j < i → j < n → 0 < zs.getD j 0) ∧ Ext w wr) (fun u wr => n + 1 - (intOf u).toNat)
  case atStart => exact ⟨1, Nat.le_refl _, by omega, rfl, (fun j h1 h2 _ => by omega), Ext.refl _⟩
  case round =>
    obtain ⟨i, hi1, hin, rfl, hall, hr⟩ := hrel
    by_cases hlt : i < n
    · obtain ⟨a, s, B, c, rfl, hc0, hc1, hz⟩ := (h.ext hr).get i hlt
      obtain ⟨m, hm⟩ : ∃ m, ms.getD i 0 = m := ⟨_, rfl⟩
      have hmb := getD_le_sum ms i
      rw [hm] at hc1 hz hmb
      clear hm
      have hq1 : wr.cell? ⟨(a.add (i * 2)).block, (a.add (i * 2)).off + 1, none⟩ = some (.slice B m c) := by
        have e : (a.add (i * 2)).add 1 = ⟨(a.add (i * 2)).block, (a.add (i * 2)).off + 1, none⟩ := rfl
        rw [← e, add_of_add]; exact hc1
      go_upto_region 4 with (fail)
      go_wp2_with fail
      refine (zint_Sign hz (by omega)).mono ?_
      rintro e w2 ⟨d, hd, hdl, hdh, rfl, hx2⟩
      by_cases hd1 : d < 1
      · have hzn : ¬ 0 < zs.getD i 0 := fun hp => by
          have h1 := scmp_pos.2 hp
          rw [← hd.out] at h1
          omega
        have hbf : b = false := by
          cases b with
          | false => rfl
          | true => exact absurd ((HB.out.1 rfl).2 i hi1 (by rw [hlen.out]; exact hlt)) hzn
        subst hbf
        clear hzn HB
        go_wp2_with fail
        go_ret
        exact ⟨rfl, hr.trans hx2⟩
      · have hzp : 0 < zs.getD i 0 := scmp_pos.1 (by rw [← hd.out]; omega)
        have HZ := Lib.hid hzp
        clear hzp hd
        go_wp2_with fail
        go_roundw
        case rel =>
          refine ⟨i + 1, by omega, by omega, rfl, ?_, hr.trans hx2⟩
          intro j h1 h2 h3
          by_cases hj : j = i
          · rw [hj]; exact HZ.out
          · exact hall.out j h1 (by omega) h3
        case measure => simp [intOf]; omega
    · by_cases hn0 : n = 0
      · have hbf : b = false := by
          cases b with
          | false => rfl
          | true => exact absurd (List.eq_nil_of_length_eq_zero (by rw [hlen.out, hn0])) (HB.out.1 rfl).1
        subst hbf
        subst hn0
        clear HB
        go_wp2_with fail
        go_ret
        exact ⟨rfl, hr⟩
      · have hbt : b = true := HB.out.2 ⟨fun e => hn0 (by rw [← hlen.out, e]; rfl), fun j h1 h2 => hall.out j h1 (by rw [hlen.out] at h2; omega) (by rw [hlen.out] at h2; exact h2)⟩
        subst hbt
        have hnp : 0 < n := by omega
        have hni : 0 < (n : Int) := by omega
        clear HB
        go_wp2_with fail
        go_ret
        exact ⟨rfl, hr⟩
end Go.Proofs.Ytmaconeeonkdgaa
