/- Parts Ref3e, Ref1, Law3, Law3p, joined. -/
import Derived.Test.YthggegdkpalgbaaD2

namespace Go.Proofs.Ythggegdkpalgbaa
open Go.RowKit
/-- what a division answers: rest, error; Exact's -/
def rm3 (X Y : Nat) : Nat := if Y = 0 then 0 else X % Y
def er3 (Y : Nat) : Int := if Y = 0 then 4 else 0
def xt3 (X Y : Nat) : Nat := if X % Y = 0 then X / Y else 0
def xe3 (X Y : Nat) : Int := if Y = 0 then 4 else if X % Y = 0 then 0 else 8
theorem rm3_le {X Y : Nat} : rm3 X Y ≤ X := by
  unfold rm3
  split
  · omega
  · exact Nat.mod_le _ _
theorem xt3_le {X Y : Nat} : xt3 X Y ≤ X := by
  unfold xt3
  split
  · exact Nat.div_le_self _ _
  · omega
theorem len_rm3 {X Y N : Nat} (h : (wd X).length ≤ N) : (wd (rm3 X Y)).length ≤ N := Nat.le_trans (len_wd_mono rm3_le) h
theorem len_d3 {X Y N : Nat} (h : (wd X).length ≤ N) : (wd (X / Y)).length ≤ N := Nat.le_trans (len_wd_mono (Nat.div_le_self _ _)) h
theorem len_xt3 {X Y N : Nat} (h : (wd X).length ≤ N) : (wd (xt3 X Y)).length ≤ N := Nat.le_trans (len_wd_mono xt3_le) h
theorem rm3_64 {X v : Nat} (hv : v ≤ 18446744073709551615) : rm3 X v ≤ 18446744073709551615 := by
  unfold rm3
  split
  · omega
  · have := Nat.mod_lt X (show v > 0 by omega); omega
theorem wr_nil3 {b : Nat} {w : World} : WR b 0 (.slice none 0 0) w := ⟨none, 0, 0, rfl, rfl, Own.nil _ _ _ _⟩
section
variable {w : World} {A B : Option Addr} {n cap n' cap' X Y b : Nat} (hb : b ≤ w.heap.size)
include hb
theorem j3_rDivMod (hx : Wi w A n cap X) (hl : n ≤ 68719476735) (hy : Wi w B n' cap' Y) (hl' : n' ≤ 68719476735) : Calls Try.prog 57 #[.slice A n cap, .slice B n' cap'] w (Gv w (T3 (WR b (X / Y)) (WR b (rm3 X Y)) (Is (.int .i64 (er3 Y))))) := by
  obtain ⟨xs, h1, rfl⟩ := hx
  obtain ⟨ys, h2, rfl⟩ := hy
  by_cases h0 : nv ys = 0
  · refine (ref3_DivMod_bad (xs := xs) (A := A) (n := n) (cap := cap) h2 (by omega) h0).mono ?_
    rintro e w' ⟨v, rfl, rfl, hx⟩
    refine ⟨_, rfl, ⟨_, _, _, rfl, ?_, ?_, ?_⟩, hx⟩
    · rw [h0, Nat.div_zero]; exact wr_nil3
    · unfold rm3; rw [if_pos h0]; exact wr_nil3
    · unfold er3; rw [if_pos h0]; rfl
  · refine (ref3_DivMod_ok h1 (by omega) h2 (by omega) h0).mono (Gv.imp ?_)
    unfold rm3 er3
    rw [if_neg h0, if_neg h0]
    exact T3.imp (WR.imp hb) (WR.imp hb) Is.imp
theorem j3_DivMod (hx : Wi w A n cap X) (hl : n ≤ 68719476735) (hy : Wi w B n' cap' Y) (hl' : n' ≤ 68719476735) : Calls Try.prog 63 #[.slice A n cap, .slice B n' cap'] w (Gv w (T3 (WR b (X / Y)) (WR b (rm3 X Y)) (Is (.int .i64 (er3 Y))))) := by
  obtain ⟨xs, h1, rfl⟩ := hx
  obtain ⟨ys, h2, rfl⟩ := hy
  by_cases h0 : nv ys = 0
  · refine (divnat_DivMod_bad (A := A) (n := n) (cap := cap) h2 (by omega) h0).mono ?_
    rintro e w' ⟨rfl, hx⟩
    refine ⟨_, rfl, ⟨_, _, _, rfl, ?_, ?_, ?_⟩, hx⟩
    · rw [h0, Nat.div_zero]; exact wr_nil3
    · unfold rm3; rw [if_pos h0]; exact wr_nil3
    · unfold er3; rw [if_pos h0]; rfl
  · refine (divnat_DivMod h1 (by omega) h2 (by omega) h0).mono ?_
    rintro e w' ⟨A, n, c, B, m, d, rfl, h1, _, h3, h4, _, h6, hx⟩
    refine ⟨_, rfl, ⟨_, _, _, rfl, ⟨_, _, _, rfl, h1.out, h3.mono hb⟩, ?_, ?_⟩, hx⟩
    · unfold rm3; rw [if_neg h0]; exact ⟨_, _, _, rfl, h4.out, h6.mono hb⟩
    · unfold er3; rw [if_neg h0]; rfl
theorem j3_Word {v : Nat} (hx : Wi w A n cap X) (hl : n ≤ 68719476735) (hv : v ≤ 18446744073709551615) : Calls Try.prog 30 #[.slice A n cap, .int .u64 ((v : Nat) : Int)] w (Gv w (T3 (WR b (X / v)) (Is (.int .u64 ((rm3 X v : Nat) : Int))) (Is (.int .i64 (er3 v))))) := by
  obtain ⟨xs, h1, rfl⟩ := hx
  by_cases h0 : v = 0
  · subst h0
    refine (divnat_Word_bad (A := A) (n := n) (cap := cap)).mono ?_
    rintro e w' ⟨rfl, rfl⟩
    refine ⟨_, rfl, ⟨_, _, _, rfl, ?_, rfl, rfl⟩, Ext.refl _⟩
    rw [Nat.div_zero]; exact wr_nil3
  · refine (divnat_Word h1 (by omega) h0 hv).mono ?_
    rintro e w' ⟨A, n, c, r', rfl, h1, _, h3, _, h5, hx⟩
    refine ⟨_, rfl, ⟨_, _, _, rfl, ⟨_, _, _, rfl, h3.out, h5.mono hb⟩, ?_, ?_⟩, hx⟩
    · unfold rm3; rw [if_neg h0, h1.out]; rfl
    · unfold er3; rw [if_neg h0]; rfl
theorem j3_Exact (hx : Wi w A n cap X) (hl : n ≤ 68719476735) (hy : Wi w B n' cap' Y) (hl' : n' ≤ 68719476735) : Calls Try.prog 64 #[.slice A n cap, .slice B n' cap'] w (Gv w (T2 (WR b (xt3 X Y)) (Is (.int .i64 (xe3 X Y))))) := by
  by_cases h0 : Y = 0
  · refine (g_divnat_Exact_bad (i := X) (A := A) (n := n) (cap := cap) hy (by omega) h0).mono ?_
    rintro e w' ⟨v, rfl, rfl, hx⟩
    refine ⟨_, rfl, ⟨_, _, rfl, ?_, ?_⟩, hx⟩
    · unfold xt3; rw [h0, Nat.div_zero]; split <;> exact wr_nil3
    · unfold xe3; rw [if_pos h0]; rfl
  · by_cases h1 : X % Y = 0
    · refine (g_divnat_Exact hb hx (by omega) hy (by omega) h0 h1).mono (Gv.imp ?_)
      unfold xt3 xe3
      rw [if_pos h1, if_neg h0, if_pos h1]
      exact T2.imp (WR.imp (Nat.le_refl _)) Is.imp
    · refine (g_divnat_Exact_not hx (by omega) hy (by omega) h0 h1).mono ?_
      rintro e w' ⟨v, rfl, rfl, hx⟩
      refine ⟨_, rfl, ⟨_, _, rfl, ?_, ?_⟩, hx⟩
      · unfold xt3; rw [if_neg h1]; exact wr_nil3
      · unfold xe3; rw [if_neg h0, if_neg h1]; rfl
end
set_option maxHeartbeats 4000000 in
theorem j3_rWord {w : World} {b : Nat} (hb : b ≤ w.heap.size) {A : Option Addr} {n cap X : Nat} (hx : Wi w A n cap X) (hl : n ≤ 68719476735) {v : Nat} (hv : v ≤ 18446744073709551615) :
    Calls Try.prog 56 #[.slice A n cap, .int .u64 ((v : Nat) : Int)] w (Gv w (T3 (WR b (X / v)) (Is (.int .u64 ((rm3 X v : Nat) : Int))) (Is (.int .i64 (er3 v))))) := by
  refine sx_enter Try.func56 rfl (n := 28) rfl (Nat.le_of_ble_eq_true rfl) (args := [.slice A n cap, .int .u64 ((v : Nat) : Int)]) ?_
  refine cw_keep [(0, .slice A n cap), (1, .int .u64 ((v : Nat) : Int))] ⟨rfl, rfl, trivial⟩ ?_
  refine cw_seq ?_
  refine cw_region ?_
  refine wl_assign rfl rfl (by decide) ?_
  refine wl_assign rfl rfl (by decide) ?_
  refine wl_assign rfl rfl (by decide) ?_
  refine wl_nil ?_
  refine eo_then ?_
  refine cw_seq ?_
  refine cw_region ?_
  refine wl_move rfl rfl (by decide) ?_
  refine wl_move rfl rfl (by decide) ?_
  refine wl_bslice rfl rfl (by decide) (k := 1) (e := 23) [.int .u64 ((v : Nat) : Int)] (fun _ => by kernel_rfl) fun g1 v2 nb3 => ?_
  have o4 := O1.mk_ (x := v) (b := w.heap.size) nb3 (Ext.refl w).size
  have e5 := nb3.ext
  have hw1 : Ext w v2 := (Ext.refl w).trans e5
  refine wl_call rfl rfl (vs := [.slice A n cap, .slice (some ⟨g1, 0, none⟩) 1 1]) (by kernel_rfl) (by decide) (j3_rDivMod hw1.size (hx.ext hw1) (Nat.le_trans hl (by decide)) (own1_wi o4 hv) (by decide)) ?_
  rintro _ v8 ⟨xr10, rfl, r10, e9⟩
  refine ret_intro ?_
  have hw2 : Ext w v8 := hw1.trans e9
  obtain ⟨a11_0, a11_1, a11_2, rfl, r11_0, r11_1, r11_2⟩ := r10
  obtain ⟨A12, n12, c12, rfl, j12, o12⟩ := r11_0
  obtain ⟨A13, n13, c13, rfl, j13, o13⟩ := r11_1
  obtain rfl := r11_2
  refine wl_move rfl rfl (by decide) ?_
  refine wl_pure rfl rfl (v := .slice A12 n12 c12) (by decide) (by kernel_rfl) ?_
  refine wl_pure rfl rfl (v := .slice A13 n13 c13) (by decide) (by kernel_rfl) ?_
  refine wl_pure rfl rfl (v := .int .i64 (er3 v)) (by decide) (by kernel_rfl) ?_
  refine wl_assign rfl rfl (by decide) ?_
  refine wl_assign rfl rfl (by decide) ?_
  refine wl_assign rfl rfl (by decide) ?_
  refine wl_nil ?_
  refine eo_then ?_
  refine cw_seq ?_
  refine cw_seq ?_
  by_cases hz : n13 = 0
  ·
    have hr0 : rm3 X v = 0 := len_wd_zero.1 (by rw [← j13, hz])
    refine cw_region ?_
    refine wl_move rfl rfl (by decide) ?_
    refine wl_pure rfl rfl (v := .int .i64 ((n13 : Nat) : Int)) (by decide) (by kernel_rfl) ?_
    refine wl_cmp rfl rfl rfl true (cb_eq_t (a := n13) (b := 0) rfl rfl (by omega)) (by decide) ?_
    refine wl_nil ?_
    refine eo_then ?_
    refine cw_true rfl ?_
    refine cw_seq ?_
    refine cw_region ?_
    refine wl_move rfl rfl (by decide) ?_
    refine wl_move rfl rfl (by decide) ?_
    refine wl_assign rfl rfl (by decide) ?_
    refine wl_assign rfl rfl (by decide) ?_
    refine wl_assign rfl rfl (by decide) ?_
    refine wl_nil ?_
    refine eo_then ?_
    refine cw_ret ?_
    refine eo_thenR ?_
    refine eo_ret [.slice A12 n12 c12, .int .u64 0, .int .i64 (er3 v)] rfl ⟨rfl, rfl, rfl, trivial⟩ ?_
    exact ⟨_, rfl, ⟨_, _, _, rfl, ⟨_, _, _, rfl, j12, o12.mono hb⟩, (by rw [hr0]; rfl), rfl⟩, hw2⟩
  ·
    have hrn : rm3 X v ≠ 0 := fun e => hz (by rw [j13, e]; rfl)
    have hv0 : v ≠ 0 := fun e => hrn (by unfold rm3; rw [if_pos e])
    have hwd : wd (rm3 X v) = [rm3 X v] := wd_small (by have := rm3_64 (X := X) hv; rw [WB_def]; omega) hrn
    have hrd := (o13).rd (Wf_wd _)
    have hg : (wd (rm3 X v)).getD 0 0 = rm3 X v := by rw [hwd]; rfl
    refine cw_region ?_
    refine wl_move rfl rfl (by decide) ?_
    refine wl_pure rfl rfl (v := .int .i64 ((n13 : Nat) : Int)) (by decide) (by kernel_rfl) ?_
    refine wl_cmp rfl rfl rfl false (cb_eq_f (a := n13) (b := 0) rfl rfl (by omega)) (by decide) ?_
    refine wl_nil ?_
    refine eo_then ?_
    refine cw_false rfl ?_
    refine cw_skip ?_
    refine eo_then ?_
    refine cw_seq ?_
    refine cw_keep [(7, .slice A12 n12 c12), (8, .slice A13 n13 c13), (9, .int .i64 (er3 v))] ⟨rfl, rfl, rfl, trivial⟩ ?_
    obtain ⟨v14, hv, e15⟩ : ∃ v, v = v8.drew ∧ Ext v8 v := ⟨_, rfl, (Ext.refl _).drew⟩
    have hw3 : Ext w v14 := hw2.trans e15
    obtain ⟨p16, hp16, hc16, hv16⟩ := ((hrd.ext e15)).at (i := 0) (by omega)
    refine cw_det mix (w := v14) [.slice A12 n12 c12, .slice A13 n13 c13, .pointer (some p16), .int .u64 (((wd (rm3 X v)).getD 0 0 : Nat) : Int), .int .i64 (er3 v), .slice A12 n12 c12, .int .u64 (((wd (rm3 X v)).getD 0 0 : Nat) : Int), .int .i64 (er3 v)] [v14] [] [[], [], [1], [2], [], [0], [3], [4]] [[], [], [1], [1, 2], [], [0], [0, 1, 2, 3, 5], [0, 1, 2, 3, 4, 5, 6]] [(0, 0), (1, 0), (2, 0), (3, 0), (4, 0), (5, 0), (6, 0), (7, 0)] rfl hv ?_ ?_
    ·
      refine dobs_val _ rfl rfl rfl rfl rfl (rd_move rfl) ?_
      refine dobs_val _ rfl rfl rfl rfl rfl (rd_move rfl) ?_
      refine dobs_val _ rfl rfl rfl rfl rfl (rd_idx rfl rfl un_u64 sz_u64 0 rfl (by omega) p16 hp16) ?_
      refine dobs_val _ rfl rfl rfl rfl rfl (rd_load rfl (load_cell1 ag_u64 hc16)) ?_
      refine dobs_val _ rfl rfl rfl rfl rfl (rd_move rfl) ?_
      refine dobs_val _ rfl rfl rfl rfl rfl (rd_assign rfl) ?_
      refine dobs_val _ rfl rfl rfl rfl rfl (rd_assign rfl) ?_
      refine dobs_val _ rfl rfl rfl rfl rfl (rd_assign rfl) ?_
      exact dobs_nil
    clear hv
    refine eo_keep [(4, .slice A12 n12 c12), (5, .int .u64 (((wd (rm3 X v)).getD 0 0 : Nat) : Int)), (6, .int .i64 (er3 v))] ⟨rfl, rfl, rfl, trivial⟩ ?_
    refine eo_then ?_
    refine cw_ret ?_
    refine eo_ret [.slice A12 n12 c12, .int .u64 (((wd (rm3 X v)).getD 0 0 : Nat) : Int), .int .i64 (er3 v)] rfl ⟨rfl, rfl, rfl, trivial⟩ ?_
    exact ⟨_, rfl, ⟨_, _, _, rfl, ⟨_, _, _, rfl, j12, (o12.ext e15).mono hb⟩, (by rw [hg]; rfl), rfl⟩, hw3⟩
set_option maxHeartbeats 4000000 in
theorem j3_rExact {w : World} {b : Nat} (hb : b ≤ w.heap.size) {A : Option Addr} {n cap X : Nat} (hx : Wi w A n cap X) (hl : n ≤ 68719476735) {B : Option Addr} {n' cap' Y : Nat} (hy : Wi w B n' cap' Y) (hl' : n' ≤ 68719476735) :
    Calls Try.prog 58 #[.slice A n cap, .slice B n' cap'] w (Gv w (T2 (WR b (xt3 X Y)) (Is (.int .i64 (xe3 X Y))))) := by
  refine sx_enter Try.func58 rfl (n := 23) rfl (Nat.le_of_ble_eq_true rfl) (args := [.slice A n cap, .slice B n' cap']) ?_
  refine cw_keep [(0, .slice A n cap), (1, .slice B n' cap')] ⟨rfl, rfl, trivial⟩ ?_
  refine cw_seq ?_
  refine cw_region ?_
  refine wl_assign rfl rfl (by decide) ?_
  refine wl_assign rfl rfl (by decide) ?_
  refine wl_nil ?_
  refine eo_then ?_
  refine cw_seq ?_
  refine cw_region ?_
  refine wl_move rfl rfl (by decide) ?_
  refine wl_move rfl rfl (by decide) ?_
  refine wl_call rfl rfl (vs := [.slice A n cap, .slice B n' cap']) (by kernel_rfl) (by decide) (j3_rDivMod (Ext.refl w).size hx (Nat.le_trans hl (by decide)) hy (Nat.le_trans hl' (by decide))) ?_
  rintro _ v1 ⟨xr3, rfl, r3, e2⟩
  refine ret_intro ?_
  have hw1 : Ext w v1 := (Ext.refl w).trans e2
  obtain ⟨a4_0, a4_1, a4_2, rfl, r4_0, r4_1, r4_2⟩ := r3
  obtain ⟨A5, n5, c5, rfl, j5, o5⟩ := r4_0
  obtain ⟨A6, n6, c6, rfl, j6, o6⟩ := r4_1
  obtain rfl := r4_2
  refine wl_move rfl rfl (by decide) ?_
  refine wl_pure rfl rfl (v := .slice A5 n5 c5) (by decide) (by kernel_rfl) ?_
  refine wl_pure rfl rfl (v := .slice A6 n6 c6) (by decide) (by kernel_rfl) ?_
  refine wl_pure rfl rfl (v := .int .i64 (er3 Y)) (by decide) (by kernel_rfl) ?_
  refine wl_assign rfl rfl (by decide) ?_
  refine wl_assign rfl rfl (by decide) ?_
  refine wl_assign rfl rfl (by decide) ?_
  refine wl_nil ?_
  refine eo_then ?_
  refine cw_seq ?_
  refine cw_seq ?_
  by_cases h0 : Y = 0
  ·
    refine cw_region ?_
    refine wl_move rfl rfl (by decide) ?_
    refine wl_cmp rfl rfl rfl true (ne_t (by unfold er3; rw [if_pos h0]; decide)) (by decide) ?_
    refine wl_nil ?_
    refine eo_then ?_
    refine cw_true rfl ?_
    refine cw_seq ?_
    refine cw_region ?_
    refine wl_move rfl rfl (by decide) ?_
    refine wl_assign rfl rfl (by decide) ?_
    refine wl_assign rfl rfl (by decide) ?_
    refine wl_nil ?_
    refine eo_then ?_
    refine cw_ret ?_
    refine eo_thenR ?_
    refine eo_ret [.slice none 0 0, .int .i64 (er3 Y)] rfl ⟨rfl, rfl, trivial⟩ ?_
    exact ⟨_, rfl, ⟨_, _, rfl, (by unfold xt3; rw [h0, Nat.div_zero]; split <;> exact wr_nil3), (by unfold xe3 er3; rw [if_pos h0, if_pos h0]; rfl)⟩, hw1⟩
  ·
    have he : rm3 X Y = X % Y := by unfold rm3; rw [if_neg h0]
    by_cases h1 : X % Y = 0
    ·
      have hz : n6 = 0 := by rw [j6, he, h1]; rfl
      refine cw_region ?_
      refine wl_move rfl rfl (by decide) ?_
      refine wl_cmp rfl rfl rfl false (ne_f (by unfold er3; rw [if_neg h0])) (by decide) ?_
      refine wl_nil ?_
      refine eo_then ?_
      refine cw_false rfl ?_
      refine cw_skip ?_
      refine eo_then ?_
      refine cw_seq ?_
      refine cw_seq ?_
      refine cw_region ?_
      refine wl_move rfl rfl (by decide) ?_
      refine wl_pure rfl rfl (v := .int .i64 ((n6 : Nat) : Int)) (by decide) (by kernel_rfl) ?_
      refine wl_cmp rfl rfl rfl false (cb_gt_f (a := n6) (b := 0) rfl rfl (by omega)) (by decide) ?_
      refine wl_nil ?_
      refine eo_then ?_
      refine cw_false rfl ?_
      refine cw_skip ?_
      refine eo_then ?_
      refine cw_seq ?_
      refine cw_region ?_
      refine wl_move rfl rfl (by decide) ?_
      refine wl_assign rfl rfl (by decide) ?_
      refine wl_assign rfl rfl (by decide) ?_
      refine wl_nil ?_
      refine eo_then ?_
      refine cw_ret ?_
      refine eo_ret [.slice A5 n5 c5, .int .i64 0] rfl ⟨rfl, rfl, trivial⟩ ?_
      exact ⟨_, rfl, ⟨_, _, rfl, (by unfold xt3; rw [if_pos h1]; exact ⟨_, _, _, rfl, j5, o5.mono hb⟩), (by unfold xe3; rw [if_neg h0, if_pos h1]; rfl)⟩, hw1⟩
    ·
      have hz : n6 ≠ 0 := fun e => h1 (by rw [← he]; exact len_wd_zero.1 (by rw [← j6, e]))
      refine cw_region ?_
      refine wl_move rfl rfl (by decide) ?_
      refine wl_cmp rfl rfl rfl false (ne_f (by unfold er3; rw [if_neg h0])) (by decide) ?_
      refine wl_nil ?_
      refine eo_then ?_
      refine cw_false rfl ?_
      refine cw_skip ?_
      refine eo_then ?_
      refine cw_seq ?_
      refine cw_seq ?_
      refine cw_region ?_
      refine wl_move rfl rfl (by decide) ?_
      refine wl_pure rfl rfl (v := .int .i64 ((n6 : Nat) : Int)) (by decide) (by kernel_rfl) ?_
      refine wl_cmp rfl rfl rfl true (cb_gt_t (a := n6) (b := 0) rfl rfl (by omega)) (by decide) ?_
      refine wl_nil ?_
      refine eo_then ?_
      refine cw_true rfl ?_
      refine cw_seq ?_
      refine cw_region ?_
      refine wl_assign rfl rfl (by decide) ?_
      refine wl_assign rfl rfl (by decide) ?_
      refine wl_nil ?_
      refine eo_then ?_
      refine cw_ret ?_
      refine eo_thenR ?_
      refine eo_ret [.slice none 0 0, .int .i64 8] rfl ⟨rfl, rfl, trivial⟩ ?_
      exact ⟨_, rfl, ⟨_, _, rfl, (by unfold xt3; rw [if_neg h1]; exact wr_nil3), (by unfold xe3; rw [if_neg h0, if_neg h1]; rfl)⟩, hw1⟩
end Go.Proofs.Ythggegdkpalgbaa

namespace Go.Proofs.Ythggegdkpalgbaa
open Go.RowKit
abbrev I6 (x : Nat) : Value := .int .i64 (x : Int)
/-- a slice of digits, each below b, as ints -/
structure Ri (b : Nat) (w : World) (A : Option Addr) (n cap : Nat) (ds : List Nat) : Prop where
  rv : Rv w 1 A n cap (ds.map I6)
  wf : Wfb b ds
theorem Ri.ext {b : Nat} {w w' : World} {A : Option Addr} {n cap : Nat} {xs : List Nat} (h : Ri b w A n cap xs) (e : Ext w w') : Ri b w' A n cap xs := ⟨h.rv.ext e, h.wf⟩
theorem Ri.len {b : Nat} {w : World} {A : Option Addr} {n cap : Nat} {xs : List Nat} (h : Ri b w A n cap xs) : xs.length = n := by simpa using h.rv.len
theorem Ri.get {b : Nat} (hb : 0 < b) {w : World} {A : Option Addr} {n cap : Nat} {xs : List Nat} (h : Ri b w A n cap xs) {i : Nat} (hi : i < n) :
    ∃ a x, A = some a ∧ Hid (xs.getD i 0 = x) ∧ x < b ∧ w.cell? (a.add i) = some (.int .i64 (x : Int)) := by
  obtain ⟨a, ha, hc⟩ := h.rv.get i (by omega)
  have hl : i < xs.length := by rw [h.len]; exact hi
  refine ⟨a, _, ha, rfl, Wfb_getD hb h.wf i, ?_⟩
  rw [hc]
  simp [List.getD_eq_getElem?_getD, List.getElem?_map, List.getElem?_eq_getElem hl]
theorem Bk.digit {b : Nat} (hb : 0 < b) {w : World} {g : Nat} {t : TypeId} {xs : List Nat} (h : Bk w g t (xs.map I6)) (hw : Wfb b xs) {i : Nat} (hi : i < xs.length) :
    ∃ x, Hid (xs.getD i 0 = x) ∧ x < b ∧ w.cell? ⟨g, i, none⟩ = some (.int .i64 (x : Int)) := by
  refine ⟨_, rfl, Wfb_getD hb hw i, ?_⟩
  rw [h.cell (by simpa using hi)]
  simp [List.getD_eq_getElem?_getD, List.getElem?_map, List.getElem?_eq_getElem hi]
theorem Rv.take {w : World} {s : Nat} {A : Option Addr} {n cap : Nat} {vs : List Value} (h : Rv w s A n cap vs) {k m : Nat} (hk : k ≤ n) (hm : k ≤ m) (hc : m ≤ cap) : Rv w s A k m (vs.take (k * s)) := by
  have := h.cut (l := 0) (Nat.zero_le _) hk hm hc
  simp only [Nat.sub_zero, Nat.zero_mul, List.drop_zero] at this
  have e : (if m = 0 then A else A.map (·.add 0)) = A := by
    have h0 : ∀ a : Addr, a.add 0 = a := fun a => by simp [Addr.add]
    split
    · rfl
    · cases A <;> simp [h0]
  rwa [e] at this
theorem Own.take {w : World} {base : Nat} {t : TypeId} {s : Nat} {A : Option Addr} {n cap : Nat} {vs : List Value} (h : Own w base t s A n cap vs) {k : Nat} (hk : k ≤ n) : Own w base t s A k cap (vs.take (k * s)) := by
  rcases h with ⟨rfl, rfl, rfl, rfl⟩ | ⟨g, cs, rfl, hb, hbk, hn, hm, hl, rfl⟩
  · exact Or.inl ⟨rfl, by omega, rfl, by simp⟩
  · refine Or.inr ⟨g, cs, rfl, hb, hbk, by omega, hm, hl, ?_⟩
    rw [List.take_take, Nat.min_eq_left (Nat.mul_le_mul_right s hk)]
end Go.Proofs.Ythggegdkpalgbaa

namespace Go.Proofs.Ythggegdkpalgbaa
open Go.RowKit
theorem law_wakes (w : World) : Calls Try.prog 8 #[] w (BoolP true w) := by
  go_enter Try.func8, Try.ntmps8
  go_wp2_with fail
  have hone := Rd.one w (x := 7) (by omega)
  refine (divnat_Word hone (by omega) (v := 2) (by omega) (by omega)).mono ?_
  rintro e w2 ⟨A2, n2, c2, r, rfl, hr, hrb, hn2, hr2, ho2, hx2⟩
  have e3 : wd (nv [7] / 2) = [3] := by decide +kernel
  have e1 : nv [7] % 2 = 1 := by decide +kernel
  rw [e3] at hn2 hr2 ho2
  rw [e1] at hr
  obtain rfl : n2 = 1 := hn2.out
  obtain ⟨a, x, rfl, hxk, hxb, hcx⟩ := hr2.get (i := 0) (by omega)
  have hx3 : x = 3 := by rw [← hxk.out]; rfl
  have hr1 : r = 1 := hr.out
  subst hx3
  subst hr1
  have hcx0 : w2.cell? a = some (.int .u64 3) := by simpa [Addr.add] using hcx
  clear hcx hr hrb hn2 ho2 hr2 hxk hxb
  go_wp2_with fail
  go_ret
  exact ⟨rfl, ((Ext.refl w).alloc _).trans hx2⟩
end Go.Proofs.Ythggegdkpalgbaa

namespace Go.Proofs.Ythggegdkpalgbaa
open Go.RowKit
theorem aggOp3 : AggT Try.prog 27 5 := ⟨fun _ => by kernel_rfl, fun _ => by kernel_rfl⟩
theorem aggAns3 : AggT Try.prog 64 5 := ⟨fun _ => by kernel_rfl, fun _ => by kernel_rfl⟩
/-- what a call of layer 3 answers -/
structure Ans3 where
  Q : Nat
  R : Nat
  W : Nat
  N : Int
  E : Int
def AnsR3 (b : Nat) (t : Ans3) (v : Value) (w : World) : Prop := ∃ q r, v = .agg #[q, r, .int .u64 ((t.W : Nat) : Int), .int .i64 t.N, .int .i64 t.E] ∧ WR b t.Q q w ∧ WR b t.R r w ∧ (wd t.Q).length ≤ 68719476735 ∧ (wd t.R).length ≤ 68719476735
theorem g_same3 {w : World} {b b' : Nat} {A B : Option Addr} {n c m d k : Nat} (hx : Own w b 23 1 A n c ((wd k).map W64)) (hl : n ≤ 1099511627776) (hy : Own w b' 23 1 B m d ((wd k).map W64)) (hl' : m ≤ 1099511627776) :
    Calls Try.prog 69 #[.slice A n c, .slice B m d] w (Gv w (Is (.bool true))) := by
  have h := ref1_Same (hx.rd (Wf_wd _)) hl (hy.rd (Wf_wd _)) hl'
  rw [decide_eq_true rfl] at h
  exact h.mono gbool
noncomputable def spec3 (k : Int) (X Y v : Nat) : Ans3 :=
  if k = 1 then ⟨X / v, 0, rm3 X v, 0, er3 v⟩ else if k = 2 then ⟨X / Y, rm3 X Y, 0, 0, er3 Y⟩ else ⟨xt3 X Y, 0, 0, 0, xe3 X Y⟩
theorem Wi_nil (w : World) : Wi w none 0 0 0 := ⟨[], (Own.nil w 0 23 1).rd (fun _ h => absurd h (by simp)), rfl⟩
theorem bool_of3 {w : World} {b : Bool} : ∀ e w', Gv w (Is (.bool b)) e w' → BoolP b w e w' := by
  rintro e w' ⟨v, rfl, rfl, hx⟩
  exact ⟨rfl, hx⟩
set_option maxHeartbeats 4000000 in
theorem g_plays3_1 {w : World} {b : Nat} (hb : b ≤ w.heap.size) {A : Option Addr} {n cap X : Nat} (hx : Wi w A n cap X) (hl : n ≤ 1048576) {B : Option Addr} {n' cap' Y : Nat} (hy : Wi w B n' cap' Y) (hl' : n' ≤ 1048576) {v : Nat} {kk : Int} (hv : v ≤ 18446744073709551615) :
    Calls Try.prog 32 #[.agg #[.int .i64 1, .slice A n cap, .slice B n' cap', .int .u64 ((v : Nat) : Int), .int .i64 kk]] w (Gv w (AnsR3 b (spec3 1 X Y v))) := by
  have hXl : (wd X).length ≤ 68719476735 := Nat.le_trans hx.len (Nat.le_trans hl (by decide))
  have hYl : (wd Y).length ≤ 68719476735 := Nat.le_trans hy.len (Nat.le_trans hl' (by decide))
  refine sx_enter Try.func32 rfl (n := 91) rfl (Nat.le_of_ble_eq_true rfl) (args := [.agg #[.int .i64 1, .slice A n cap, .slice B n' cap', .int .u64 ((v : Nat) : Int), .int .i64 kk]]) ?_
  refine cw_keep [(0, .agg #[.int .i64 1, .slice A n cap, .slice B n' cap', .int .u64 ((v : Nat) : Int), .int .i64 kk])] ⟨rfl, trivial⟩ ?_
  refine cw_seq ?_
  refine cw_region ?_
  refine wl_box rfl rfl (vs := [.int .i64 1, .slice A n cap, .slice B n' cap', .int .u64 ((v : Nat) : Int), .int .i64 kk]) rfl (by decide) fun g1 v2 nb => ?_
  have hb4 := nb.bk
  have ge5 : w.heap.size ≤ g1 := by rw [← nb.at_]; exact (Ext.refl w).size
  have e3 := nb.ext
  clear nb
  have hw1 : Ext w v2 := (Ext.refl w).trans e3
  refine wl_alloc rfl (z := .agg #[.slice none 0 0, .slice none 0 0, .int .u64 0, .int .i64 0, .int .i64 0]) (vs := [.slice none 0 0, .slice none 0 0, .int .u64 0, .int .i64 0, .int .i64 0]) (fun _ => by kernel_rfl) rfl (by decide) fun g6 v7 nb => ?_
  have hb9 := nb.bk
  have ge10 : w.heap.size ≤ g6 := by rw [← nb.at_]; exact hw1.size
  have q11 : g1 < g6 := by rw [← nb.at_]; exact hb4.lt
  have e8 := nb.ext
  clear nb
  have hw2 : Ext w v7 := hw1.trans e8
  refine wl_nil ?_
  refine eo_then ?_
  refine cw_seq ?_
  refine cw_region ?_
  refine wl_alloc rfl (z := .agg #[.slice none 0 0, .slice none 0 0, .int .u64 0, .int .i64 0, .int .i64 0]) (vs := [.slice none 0 0, .slice none 0 0, .int .u64 0, .int .i64 0, .int .i64 0]) (fun _ => by kernel_rfl) rfl (by decide) fun g12 v13 nb => ?_
  have hb15 := nb.bk
  have ge16 : w.heap.size ≤ g12 := by rw [← nb.at_]; exact hw2.size
  have q17 : g6 < g12 := by rw [← nb.at_]; exact hb9.lt
  have e14 := nb.ext
  clear nb
  have hw3 : Ext w v13 := hw2.trans e14
  refine wl_nil ?_
  refine eo_then ?_
  refine cw_seq ?_
  refine cw_seq ?_
  refine cw_region ?_
  refine wl_pure rfl rfl (v := .pointer (some ⟨g1, 0, none⟩)) (by decide) (by kernel_rfl) ?_
  refine wl_load rfl rfl (load_cell (fun _ => by kernel_rfl) (hb4.ext (e8.trans e14)) rfl) (by decide) ?_
  refine wl_nil ?_
  refine eo_then ?_
  refine cw_block ?_
  refine cw_seq ?_
  refine cw_region ?_
  refine wl_cmp rfl rfl rfl true (by decide) (by decide) ?_
  refine wl_assign rfl rfl (by decide) ?_
  refine wl_nil ?_
  refine eo_then ?_
  refine cw_true rfl ?_
  refine cw_region ?_
  refine wl_pure rfl rfl (v := .pointer (some ⟨g1, 1, none⟩)) (by decide) (by kernel_rfl) ?_
  refine wl_load rfl rfl (load_cell (fun _ => by kernel_rfl) (hb4.ext (e8.trans e14)) rfl) (by decide) ?_
  refine wl_pure rfl rfl (v := .pointer (some ⟨g1, 3, none⟩)) (by decide) (by kernel_rfl) ?_
  refine wl_load rfl rfl (load_cell (fun _ => by kernel_rfl) (hb4.ext (e8.trans e14)) rfl) (by decide) ?_
  refine wl_call rfl rfl (vs := [.slice A n cap, .int .u64 ((v : Nat) : Int)]) (by kernel_rfl) (by decide) (j3_Word hw3.size (hx.ext hw3) (Nat.le_trans hl (by decide)) hv) ?_
  rintro _ v18 ⟨xr20, rfl, r20, e19⟩
  refine ret_intro ?_
  have hw4 : Ext w v18 := hw3.trans e19
  obtain ⟨a21_0, a21_1, a21_2, rfl, r21_0, r21_1, r21_2⟩ := r20
  obtain ⟨A22, n22, c22, rfl, j22, o22⟩ := r21_0
  obtain rfl := r21_1
  obtain rfl := r21_2
  refine wl_move rfl rfl (by decide) ?_
  refine wl_pure rfl rfl (v := .slice A22 n22 c22) (by decide) (by kernel_rfl) ?_
  refine wl_pure rfl rfl (v := .int .u64 ((rm3 X v : Nat) : Int)) (by decide) (by kernel_rfl) ?_
  refine wl_pure rfl rfl (v := .int .i64 (er3 v)) (by decide) (by kernel_rfl) ?_
  refine wl_pure rfl rfl (v := .pointer (some ⟨g12, 0, none⟩)) (by decide) (by kernel_rfl) ?_
  have hb24 := (hb15.ext e19)
  refine wl_stored1 rfl rfl rfl (fun _ => by kernel_rfl) rfl hb24 (Nat.le_of_ble_eq_true rfl) rfl [.slice A22 n22 c22, .slice none 0 0, .int .u64 0, .int .i64 0, .int .i64 0] rfl fun v23 hb25 u26 hs27 => ?_
  have hw5 : Ext w v23 := u26.ext hw4 ge16
  refine wl_pure rfl rfl (v := .pointer (some ⟨g12, 2, none⟩)) (by decide) (by kernel_rfl) ?_
  have hb29 := hb25
  refine wl_stored1 rfl rfl rfl (fun _ => by kernel_rfl) rfl hb29 (Nat.le_of_ble_eq_true rfl) rfl [.slice A22 n22 c22, .slice none 0 0, .int .u64 ((rm3 X v : Nat) : Int), .int .i64 0, .int .i64 0] rfl fun v28 hb30 u31 hs32 => ?_
  have hw6 : Ext w v28 := u31.ext hw5 ge16
  refine wl_pure rfl rfl (v := .pointer (some ⟨g12, 4, none⟩)) (by decide) (by kernel_rfl) ?_
  have hb34 := hb30
  refine wl_stored1 rfl rfl rfl (fun _ => by kernel_rfl) rfl hb34 (Nat.le_of_ble_eq_true rfl) rfl [.slice A22 n22 c22, .slice none 0 0, .int .u64 ((rm3 X v : Nat) : Int), .int .i64 0, .int .i64 (er3 v)] rfl fun v33 hb35 u36 hs37 => ?_
  have hw7 : Ext w v33 := u36.ext hw6 ge16
  refine wl_nil ?_
  refine eo_block_normal ?_
  refine eo_then ?_
  refine cw_seq ?_
  refine cw_region ?_
  refine wl_load rfl rfl (load_agg aggAns3 hb35 [.slice A22 n22 c22, .slice none 0 0, .int .u64 ((rm3 X v : Nat) : Int), .int .i64 0, .int .i64 (er3 v)] rfl (Nat.le_of_ble_eq_true rfl) rfl) (by decide) ?_
  have hb39 := ((((hb9.ext (e14.trans e19)).updN u26 (by omega)).updN u31 (by omega)).updN u36 (by omega))
  refine wl_stored rfl rfl rfl aggAns3 rfl hb39 (Nat.le_of_ble_eq_true rfl) rfl [.slice A22 n22 c22, .slice none 0 0, .int .u64 ((rm3 X v : Nat) : Int), .int .i64 0, .int .i64 (er3 v)] rfl fun v38 hb40 u41 hs42 => ?_
  have hw8 : Ext w v38 := u41.ext hw7 ge10
  refine wl_nil ?_
  refine eo_then ?_
  refine cw_ret ?_
  refine eo_ret [.agg #[.slice A22 n22 c22, .slice none 0 0, .int .u64 ((rm3 X v : Nat) : Int), .int .i64 0, .int .i64 (er3 v)]] rfl ⟨⟨_, rfl, load_agg aggAns3 hb40 [.slice A22 n22 c22, .slice none 0 0, .int .u64 ((rm3 X v : Nat) : Int), .int .i64 0, .int .i64 (er3 v)] rfl (Nat.le_of_ble_eq_true rfl) rfl⟩, trivial⟩ ?_
  have hs : spec3 1 X Y v = (⟨X / v, 0, rm3 X v, 0, er3 v⟩ : Ans3) := rfl
  rw [hs]
  exact ⟨_, rfl, ⟨_, _, rfl, ⟨_, _, _, rfl, j22, ((((o22.updT hb24 (by decide) u26).updT hb29 (by decide) u31).updT hb34 (by decide) u36).updT hb39 (by decide) u41).mono hb⟩, wr_nil3, (len_d3 hXl), (show (wd 0).length ≤ 68719476735 by decide)⟩, hw8⟩
set_option maxHeartbeats 4000000 in
theorem g_plays3_2 {w : World} {b : Nat} (hb : b ≤ w.heap.size) {A : Option Addr} {n cap X : Nat} (hx : Wi w A n cap X) (hl : n ≤ 1048576) {B : Option Addr} {n' cap' Y : Nat} (hy : Wi w B n' cap' Y) (hl' : n' ≤ 1048576) {v : Nat} {kk : Int} (hv : v ≤ 18446744073709551615) :
    Calls Try.prog 32 #[.agg #[.int .i64 2, .slice A n cap, .slice B n' cap', .int .u64 ((v : Nat) : Int), .int .i64 kk]] w (Gv w (AnsR3 b (spec3 2 X Y v))) := by
  have hXl : (wd X).length ≤ 68719476735 := Nat.le_trans hx.len (Nat.le_trans hl (by decide))
  have hYl : (wd Y).length ≤ 68719476735 := Nat.le_trans hy.len (Nat.le_trans hl' (by decide))
  refine sx_enter Try.func32 rfl (n := 91) rfl (Nat.le_of_ble_eq_true rfl) (args := [.agg #[.int .i64 2, .slice A n cap, .slice B n' cap', .int .u64 ((v : Nat) : Int), .int .i64 kk]]) ?_
  refine cw_keep [(0, .agg #[.int .i64 2, .slice A n cap, .slice B n' cap', .int .u64 ((v : Nat) : Int), .int .i64 kk])] ⟨rfl, trivial⟩ ?_
  refine cw_seq ?_
  refine cw_region ?_
  refine wl_box rfl rfl (vs := [.int .i64 2, .slice A n cap, .slice B n' cap', .int .u64 ((v : Nat) : Int), .int .i64 kk]) rfl (by decide) fun g1 v2 nb => ?_
  have hb4 := nb.bk
  have ge5 : w.heap.size ≤ g1 := by rw [← nb.at_]; exact (Ext.refl w).size
  have e3 := nb.ext
  clear nb
  have hw1 : Ext w v2 := (Ext.refl w).trans e3
  refine wl_alloc rfl (z := .agg #[.slice none 0 0, .slice none 0 0, .int .u64 0, .int .i64 0, .int .i64 0]) (vs := [.slice none 0 0, .slice none 0 0, .int .u64 0, .int .i64 0, .int .i64 0]) (fun _ => by kernel_rfl) rfl (by decide) fun g6 v7 nb => ?_
  have hb9 := nb.bk
  have ge10 : w.heap.size ≤ g6 := by rw [← nb.at_]; exact hw1.size
  have q11 : g1 < g6 := by rw [← nb.at_]; exact hb4.lt
  have e8 := nb.ext
  clear nb
  have hw2 : Ext w v7 := hw1.trans e8
  refine wl_nil ?_
  refine eo_then ?_
  refine cw_seq ?_
  refine cw_region ?_
  refine wl_alloc rfl (z := .agg #[.slice none 0 0, .slice none 0 0, .int .u64 0, .int .i64 0, .int .i64 0]) (vs := [.slice none 0 0, .slice none 0 0, .int .u64 0, .int .i64 0, .int .i64 0]) (fun _ => by kernel_rfl) rfl (by decide) fun g12 v13 nb => ?_
  have hb15 := nb.bk
  have ge16 : w.heap.size ≤ g12 := by rw [← nb.at_]; exact hw2.size
  have q17 : g6 < g12 := by rw [← nb.at_]; exact hb9.lt
  have e14 := nb.ext
  clear nb
  have hw3 : Ext w v13 := hw2.trans e14
  refine wl_nil ?_
  refine eo_then ?_
  refine cw_seq ?_
  refine cw_seq ?_
  refine cw_region ?_
  refine wl_pure rfl rfl (v := .pointer (some ⟨g1, 0, none⟩)) (by decide) (by kernel_rfl) ?_
  refine wl_load rfl rfl (load_cell (fun _ => by kernel_rfl) (hb4.ext (e8.trans e14)) rfl) (by decide) ?_
  refine wl_nil ?_
  refine eo_then ?_
  refine cw_block ?_
  refine cw_seq ?_
  refine cw_region ?_
  refine wl_cmp rfl rfl rfl false (by decide) (by decide) ?_
  refine wl_assign rfl rfl (by decide) ?_
  refine wl_nil ?_
  refine eo_then ?_
  refine cw_false rfl ?_
  refine cw_seq ?_
  refine cw_region ?_
  refine wl_cmp rfl rfl rfl true (by decide) (by decide) ?_
  refine wl_assign rfl rfl (by decide) ?_
  refine wl_nil ?_
  refine eo_then ?_
  refine cw_true rfl ?_
  refine cw_region ?_
  refine wl_pure rfl rfl (v := .pointer (some ⟨g1, 1, none⟩)) (by decide) (by kernel_rfl) ?_
  refine wl_load rfl rfl (load_cell (fun _ => by kernel_rfl) (hb4.ext (e8.trans e14)) rfl) (by decide) ?_
  refine wl_pure rfl rfl (v := .pointer (some ⟨g1, 2, none⟩)) (by decide) (by kernel_rfl) ?_
  refine wl_load rfl rfl (load_cell (fun _ => by kernel_rfl) (hb4.ext (e8.trans e14)) rfl) (by decide) ?_
  refine wl_call rfl rfl (vs := [.slice A n cap, .slice B n' cap']) (by kernel_rfl) (by decide) (j3_DivMod hw3.size (hx.ext hw3) (Nat.le_trans hl (by decide)) (hy.ext hw3) (Nat.le_trans hl' (by decide))) ?_
  rintro _ v18 ⟨xr20, rfl, r20, e19⟩
  refine ret_intro ?_
  have hw4 : Ext w v18 := hw3.trans e19
  obtain ⟨a21_0, a21_1, a21_2, rfl, r21_0, r21_1, r21_2⟩ := r20
  obtain ⟨A22, n22, c22, rfl, j22, o22⟩ := r21_0
  obtain ⟨A23, n23, c23, rfl, j23, o23⟩ := r21_1
  obtain rfl := r21_2
  refine wl_move rfl rfl (by decide) ?_
  refine wl_pure rfl rfl (v := .slice A22 n22 c22) (by decide) (by kernel_rfl) ?_
  refine wl_pure rfl rfl (v := .slice A23 n23 c23) (by decide) (by kernel_rfl) ?_
  refine wl_pure rfl rfl (v := .int .i64 (er3 Y)) (by decide) (by kernel_rfl) ?_
  refine wl_pure rfl rfl (v := .pointer (some ⟨g12, 0, none⟩)) (by decide) (by kernel_rfl) ?_
  have hb25 := (hb15.ext e19)
  refine wl_stored1 rfl rfl rfl (fun _ => by kernel_rfl) rfl hb25 (Nat.le_of_ble_eq_true rfl) rfl [.slice A22 n22 c22, .slice none 0 0, .int .u64 0, .int .i64 0, .int .i64 0] rfl fun v24 hb26 u27 hs28 => ?_
  have hw5 : Ext w v24 := u27.ext hw4 ge16
  refine wl_pure rfl rfl (v := .pointer (some ⟨g12, 1, none⟩)) (by decide) (by kernel_rfl) ?_
  have hb30 := hb26
  refine wl_stored1 rfl rfl rfl (fun _ => by kernel_rfl) rfl hb30 (Nat.le_of_ble_eq_true rfl) rfl [.slice A22 n22 c22, .slice A23 n23 c23, .int .u64 0, .int .i64 0, .int .i64 0] rfl fun v29 hb31 u32 hs33 => ?_
  have hw6 : Ext w v29 := u32.ext hw5 ge16
  refine wl_pure rfl rfl (v := .pointer (some ⟨g12, 4, none⟩)) (by decide) (by kernel_rfl) ?_
  have hb35 := hb31
  refine wl_stored1 rfl rfl rfl (fun _ => by kernel_rfl) rfl hb35 (Nat.le_of_ble_eq_true rfl) rfl [.slice A22 n22 c22, .slice A23 n23 c23, .int .u64 0, .int .i64 0, .int .i64 (er3 Y)] rfl fun v34 hb36 u37 hs38 => ?_
  have hw7 : Ext w v34 := u37.ext hw6 ge16
  refine wl_nil ?_
  refine eo_block_normal ?_
  refine eo_then ?_
  refine cw_seq ?_
  refine cw_region ?_
  refine wl_load rfl rfl (load_agg aggAns3 hb36 [.slice A22 n22 c22, .slice A23 n23 c23, .int .u64 0, .int .i64 0, .int .i64 (er3 Y)] rfl (Nat.le_of_ble_eq_true rfl) rfl) (by decide) ?_
  have hb40 := ((((hb9.ext (e14.trans e19)).updN u27 (by omega)).updN u32 (by omega)).updN u37 (by omega))
  refine wl_stored rfl rfl rfl aggAns3 rfl hb40 (Nat.le_of_ble_eq_true rfl) rfl [.slice A22 n22 c22, .slice A23 n23 c23, .int .u64 0, .int .i64 0, .int .i64 (er3 Y)] rfl fun v39 hb41 u42 hs43 => ?_
  have hw8 : Ext w v39 := u42.ext hw7 ge10
  refine wl_nil ?_
  refine eo_then ?_
  refine cw_ret ?_
  refine eo_ret [.agg #[.slice A22 n22 c22, .slice A23 n23 c23, .int .u64 0, .int .i64 0, .int .i64 (er3 Y)]] rfl ⟨⟨_, rfl, load_agg aggAns3 hb41 [.slice A22 n22 c22, .slice A23 n23 c23, .int .u64 0, .int .i64 0, .int .i64 (er3 Y)] rfl (Nat.le_of_ble_eq_true rfl) rfl⟩, trivial⟩ ?_
  have hs : spec3 2 X Y v = (⟨X / Y, rm3 X Y, 0, 0, er3 Y⟩ : Ans3) := rfl
  rw [hs]
  exact ⟨_, rfl, ⟨_, _, rfl, ⟨_, _, _, rfl, j22, ((((o22.updT hb25 (by decide) u27).updT hb30 (by decide) u32).updT hb35 (by decide) u37).updT hb40 (by decide) u42).mono hb⟩, ⟨_, _, _, rfl, j23, ((((o23.updT hb25 (by decide) u27).updT hb30 (by decide) u32).updT hb35 (by decide) u37).updT hb40 (by decide) u42).mono hb⟩, (len_d3 hXl), (len_rm3 hXl)⟩, hw8⟩
set_option maxHeartbeats 4000000 in
theorem g_plays3_3 {w : World} {b : Nat} (hb : b ≤ w.heap.size) {A : Option Addr} {n cap X : Nat} (hx : Wi w A n cap X) (hl : n ≤ 1048576) {B : Option Addr} {n' cap' Y : Nat} (hy : Wi w B n' cap' Y) (hl' : n' ≤ 1048576) {v : Nat} {kk : Int} (hv : v ≤ 18446744073709551615) :
    Calls Try.prog 32 #[.agg #[.int .i64 3, .slice A n cap, .slice B n' cap', .int .u64 ((v : Nat) : Int), .int .i64 kk]] w (Gv w (AnsR3 b (spec3 3 X Y v))) := by
  have hXl : (wd X).length ≤ 68719476735 := Nat.le_trans hx.len (Nat.le_trans hl (by decide))
  have hYl : (wd Y).length ≤ 68719476735 := Nat.le_trans hy.len (Nat.le_trans hl' (by decide))
  refine sx_enter Try.func32 rfl (n := 91) rfl (Nat.le_of_ble_eq_true rfl) (args := [.agg #[.int .i64 3, .slice A n cap, .slice B n' cap', .int .u64 ((v : Nat) : Int), .int .i64 kk]]) ?_
  refine cw_keep [(0, .agg #[.int .i64 3, .slice A n cap, .slice B n' cap', .int .u64 ((v : Nat) : Int), .int .i64 kk])] ⟨rfl, trivial⟩ ?_
  refine cw_seq ?_
  refine cw_region ?_
  refine wl_box rfl rfl (vs := [.int .i64 3, .slice A n cap, .slice B n' cap', .int .u64 ((v : Nat) : Int), .int .i64 kk]) rfl (by decide) fun g1 v2 nb => ?_
  have hb4 := nb.bk
  have ge5 : w.heap.size ≤ g1 := by rw [← nb.at_]; exact (Ext.refl w).size
  have e3 := nb.ext
  clear nb
  have hw1 : Ext w v2 := (Ext.refl w).trans e3
  refine wl_alloc rfl (z := .agg #[.slice none 0 0, .slice none 0 0, .int .u64 0, .int .i64 0, .int .i64 0]) (vs := [.slice none 0 0, .slice none 0 0, .int .u64 0, .int .i64 0, .int .i64 0]) (fun _ => by kernel_rfl) rfl (by decide) fun g6 v7 nb => ?_
  have hb9 := nb.bk
  have ge10 : w.heap.size ≤ g6 := by rw [← nb.at_]; exact hw1.size
  have q11 : g1 < g6 := by rw [← nb.at_]; exact hb4.lt
  have e8 := nb.ext
  clear nb
  have hw2 : Ext w v7 := hw1.trans e8
  refine wl_nil ?_
  refine eo_then ?_
  refine cw_seq ?_
  refine cw_region ?_
  refine wl_alloc rfl (z := .agg #[.slice none 0 0, .slice none 0 0, .int .u64 0, .int .i64 0, .int .i64 0]) (vs := [.slice none 0 0, .slice none 0 0, .int .u64 0, .int .i64 0, .int .i64 0]) (fun _ => by kernel_rfl) rfl (by decide) fun g12 v13 nb => ?_
  have hb15 := nb.bk
  have ge16 : w.heap.size ≤ g12 := by rw [← nb.at_]; exact hw2.size
  have q17 : g6 < g12 := by rw [← nb.at_]; exact hb9.lt
  have e14 := nb.ext
  clear nb
  have hw3 : Ext w v13 := hw2.trans e14
  refine wl_nil ?_
  refine eo_then ?_
  refine cw_seq ?_
  refine cw_seq ?_
  refine cw_region ?_
  refine wl_pure rfl rfl (v := .pointer (some ⟨g1, 0, none⟩)) (by decide) (by kernel_rfl) ?_
  refine wl_load rfl rfl (load_cell (fun _ => by kernel_rfl) (hb4.ext (e8.trans e14)) rfl) (by decide) ?_
  refine wl_nil ?_
  refine eo_then ?_
  refine cw_block ?_
  refine cw_seq ?_
  refine cw_region ?_
  refine wl_cmp rfl rfl rfl false (by decide) (by decide) ?_
  refine wl_assign rfl rfl (by decide) ?_
  refine wl_nil ?_
  refine eo_then ?_
  refine cw_false rfl ?_
  refine cw_seq ?_
  refine cw_region ?_
  refine wl_cmp rfl rfl rfl false (by decide) (by decide) ?_
  refine wl_assign rfl rfl (by decide) ?_
  refine wl_nil ?_
  refine eo_then ?_
  refine cw_false rfl ?_
  refine cw_seq ?_
  refine cw_region ?_
  refine wl_cmp rfl rfl rfl true (by decide) (by decide) ?_
  refine wl_assign rfl rfl (by decide) ?_
  refine wl_nil ?_
  refine eo_then ?_
  refine cw_true rfl ?_
  refine cw_region ?_
  refine wl_pure rfl rfl (v := .pointer (some ⟨g1, 1, none⟩)) (by decide) (by kernel_rfl) ?_
  refine wl_load rfl rfl (load_cell (fun _ => by kernel_rfl) (hb4.ext (e8.trans e14)) rfl) (by decide) ?_
  refine wl_pure rfl rfl (v := .pointer (some ⟨g1, 2, none⟩)) (by decide) (by kernel_rfl) ?_
  refine wl_load rfl rfl (load_cell (fun _ => by kernel_rfl) (hb4.ext (e8.trans e14)) rfl) (by decide) ?_
  refine wl_call rfl rfl (vs := [.slice A n cap, .slice B n' cap']) (by kernel_rfl) (by decide) (j3_Exact hw3.size (hx.ext hw3) (Nat.le_trans hl (by decide)) (hy.ext hw3) (Nat.le_trans hl' (by decide))) ?_
  rintro _ v18 ⟨xr20, rfl, r20, e19⟩
  refine ret_intro ?_
  have hw4 : Ext w v18 := hw3.trans e19
  obtain ⟨a21_0, a21_1, rfl, r21_0, r21_1⟩ := r20
  obtain ⟨A22, n22, c22, rfl, j22, o22⟩ := r21_0
  obtain rfl := r21_1
  refine wl_move rfl rfl (by decide) ?_
  refine wl_pure rfl rfl (v := .slice A22 n22 c22) (by decide) (by kernel_rfl) ?_
  refine wl_pure rfl rfl (v := .int .i64 (xe3 X Y)) (by decide) (by kernel_rfl) ?_
  refine wl_pure rfl rfl (v := .pointer (some ⟨g12, 0, none⟩)) (by decide) (by kernel_rfl) ?_
  have hb24 := (hb15.ext e19)
  refine wl_stored1 rfl rfl rfl (fun _ => by kernel_rfl) rfl hb24 (Nat.le_of_ble_eq_true rfl) rfl [.slice A22 n22 c22, .slice none 0 0, .int .u64 0, .int .i64 0, .int .i64 0] rfl fun v23 hb25 u26 hs27 => ?_
  have hw5 : Ext w v23 := u26.ext hw4 ge16
  refine wl_pure rfl rfl (v := .pointer (some ⟨g12, 4, none⟩)) (by decide) (by kernel_rfl) ?_
  have hb29 := hb25
  refine wl_stored1 rfl rfl rfl (fun _ => by kernel_rfl) rfl hb29 (Nat.le_of_ble_eq_true rfl) rfl [.slice A22 n22 c22, .slice none 0 0, .int .u64 0, .int .i64 0, .int .i64 (xe3 X Y)] rfl fun v28 hb30 u31 hs32 => ?_
  have hw6 : Ext w v28 := u31.ext hw5 ge16
  refine wl_nil ?_
  refine eo_block_normal ?_
  refine eo_then ?_
  refine cw_seq ?_
  refine cw_region ?_
  refine wl_load rfl rfl (load_agg aggAns3 hb30 [.slice A22 n22 c22, .slice none 0 0, .int .u64 0, .int .i64 0, .int .i64 (xe3 X Y)] rfl (Nat.le_of_ble_eq_true rfl) rfl) (by decide) ?_
  have hb34 := (((hb9.ext (e14.trans e19)).updN u26 (by omega)).updN u31 (by omega))
  refine wl_stored rfl rfl rfl aggAns3 rfl hb34 (Nat.le_of_ble_eq_true rfl) rfl [.slice A22 n22 c22, .slice none 0 0, .int .u64 0, .int .i64 0, .int .i64 (xe3 X Y)] rfl fun v33 hb35 u36 hs37 => ?_
  have hw7 : Ext w v33 := u36.ext hw6 ge10
  refine wl_nil ?_
  refine eo_then ?_
  refine cw_ret ?_
  refine eo_ret [.agg #[.slice A22 n22 c22, .slice none 0 0, .int .u64 0, .int .i64 0, .int .i64 (xe3 X Y)]] rfl ⟨⟨_, rfl, load_agg aggAns3 hb35 [.slice A22 n22 c22, .slice none 0 0, .int .u64 0, .int .i64 0, .int .i64 (xe3 X Y)] rfl (Nat.le_of_ble_eq_true rfl) rfl⟩, trivial⟩ ?_
  have hs : spec3 3 X Y v = (⟨xt3 X Y, 0, 0, 0, xe3 X Y⟩ : Ans3) := rfl
  rw [hs]
  exact ⟨_, rfl, ⟨_, _, rfl, ⟨_, _, _, rfl, j22, (((o22.updT hb24 (by decide) u26).updT hb29 (by decide) u31).updT hb34 (by decide) u36).mono hb⟩, wr_nil3, (len_xt3 hXl), (show (wd 0).length ≤ 68719476735 by decide)⟩, hw7⟩
theorem g_plays3 {w : World} {b : Nat} (hb : b ≤ w.heap.size) {A : Option Addr} {n cap X : Nat} (hx : Wi w A n cap X) (hl : n ≤ 1048576) {B : Option Addr} {n' cap' Y : Nat} (hy : Wi w B n' cap' Y) (hl' : n' ≤ 1048576) {v : Nat} {kk : Int} (hv : v ≤ 18446744073709551615) {k : Int} (hk : k = 1 ∨ k = 2 ∨ k = 3) :
    Calls Try.prog 32 #[.agg #[.int .i64 k, .slice A n cap, .slice B n' cap', .int .u64 ((v : Nat) : Int), .int .i64 kk]] w (Gv w (AnsR3 b (spec3 k X Y v))) := by
  rcases hk with rfl | rfl | rfl
  · exact g_plays3_1 hb hx hl hy hl' hv
  · exact g_plays3_2 hb hx hl hy hl' hv
  · exact g_plays3_3 hb hx hl hy hl' hv
set_option maxHeartbeats 4000000 in
theorem g_wants3_1 {w : World} {b : Nat} (hb : b ≤ w.heap.size) {A : Option Addr} {n cap X : Nat} (hx : Wi w A n cap X) (hl : n ≤ 1048576) {B : Option Addr} {n' cap' Y : Nat} (hy : Wi w B n' cap' Y) (hl' : n' ≤ 1048576) {v : Nat} {kk : Int} (hv : v ≤ 18446744073709551615) :
    Calls Try.prog 31 #[.agg #[.int .i64 1, .slice A n cap, .slice B n' cap', .int .u64 ((v : Nat) : Int), .int .i64 kk]] w (Gv w (AnsR3 b (spec3 1 X Y v))) := by
  have hXl : (wd X).length ≤ 68719476735 := Nat.le_trans hx.len (Nat.le_trans hl (by decide))
  have hYl : (wd Y).length ≤ 68719476735 := Nat.le_trans hy.len (Nat.le_trans hl' (by decide))
  refine sx_enter Try.func31 rfl (n := 91) rfl (Nat.le_of_ble_eq_true rfl) (args := [.agg #[.int .i64 1, .slice A n cap, .slice B n' cap', .int .u64 ((v : Nat) : Int), .int .i64 kk]]) ?_
  refine cw_keep [(0, .agg #[.int .i64 1, .slice A n cap, .slice B n' cap', .int .u64 ((v : Nat) : Int), .int .i64 kk])] ⟨rfl, trivial⟩ ?_
  refine cw_seq ?_
  refine cw_region ?_
  refine wl_box rfl rfl (vs := [.int .i64 1, .slice A n cap, .slice B n' cap', .int .u64 ((v : Nat) : Int), .int .i64 kk]) rfl (by decide) fun g1 v2 nb => ?_
  have hb4 := nb.bk
  have ge5 : w.heap.size ≤ g1 := by rw [← nb.at_]; exact (Ext.refl w).size
  have e3 := nb.ext
  clear nb
  have hw1 : Ext w v2 := (Ext.refl w).trans e3
  refine wl_alloc rfl (z := .agg #[.slice none 0 0, .slice none 0 0, .int .u64 0, .int .i64 0, .int .i64 0]) (vs := [.slice none 0 0, .slice none 0 0, .int .u64 0, .int .i64 0, .int .i64 0]) (fun _ => by kernel_rfl) rfl (by decide) fun g6 v7 nb => ?_
  have hb9 := nb.bk
  have ge10 : w.heap.size ≤ g6 := by rw [← nb.at_]; exact hw1.size
  have q11 : g1 < g6 := by rw [← nb.at_]; exact hb4.lt
  have e8 := nb.ext
  clear nb
  have hw2 : Ext w v7 := hw1.trans e8
  refine wl_nil ?_
  refine eo_then ?_
  refine cw_seq ?_
  refine cw_region ?_
  refine wl_alloc rfl (z := .agg #[.slice none 0 0, .slice none 0 0, .int .u64 0, .int .i64 0, .int .i64 0]) (vs := [.slice none 0 0, .slice none 0 0, .int .u64 0, .int .i64 0, .int .i64 0]) (fun _ => by kernel_rfl) rfl (by decide) fun g12 v13 nb => ?_
  have hb15 := nb.bk
  have ge16 : w.heap.size ≤ g12 := by rw [← nb.at_]; exact hw2.size
  have q17 : g6 < g12 := by rw [← nb.at_]; exact hb9.lt
  have e14 := nb.ext
  clear nb
  have hw3 : Ext w v13 := hw2.trans e14
  refine wl_nil ?_
  refine eo_then ?_
  refine cw_seq ?_
  refine cw_seq ?_
  refine cw_region ?_
  refine wl_pure rfl rfl (v := .pointer (some ⟨g1, 0, none⟩)) (by decide) (by kernel_rfl) ?_
  refine wl_load rfl rfl (load_cell (fun _ => by kernel_rfl) (hb4.ext (e8.trans e14)) rfl) (by decide) ?_
  refine wl_nil ?_
  refine eo_then ?_
  refine cw_block ?_
  refine cw_seq ?_
  refine cw_region ?_
  refine wl_cmp rfl rfl rfl true (by decide) (by decide) ?_
  refine wl_assign rfl rfl (by decide) ?_
  refine wl_nil ?_
  refine eo_then ?_
  refine cw_true rfl ?_
  refine cw_region ?_
  refine wl_pure rfl rfl (v := .pointer (some ⟨g1, 1, none⟩)) (by decide) (by kernel_rfl) ?_
  refine wl_load rfl rfl (load_cell (fun _ => by kernel_rfl) (hb4.ext (e8.trans e14)) rfl) (by decide) ?_
  refine wl_pure rfl rfl (v := .pointer (some ⟨g1, 3, none⟩)) (by decide) (by kernel_rfl) ?_
  refine wl_load rfl rfl (load_cell (fun _ => by kernel_rfl) (hb4.ext (e8.trans e14)) rfl) (by decide) ?_
  refine wl_call rfl rfl (vs := [.slice A n cap, .int .u64 ((v : Nat) : Int)]) (by kernel_rfl) (by decide) (j3_rWord hw3.size (hx.ext hw3) (Nat.le_trans hl (by decide)) hv) ?_
  rintro _ v18 ⟨xr20, rfl, r20, e19⟩
  refine ret_intro ?_
  have hw4 : Ext w v18 := hw3.trans e19
  obtain ⟨a21_0, a21_1, a21_2, rfl, r21_0, r21_1, r21_2⟩ := r20
  obtain ⟨A22, n22, c22, rfl, j22, o22⟩ := r21_0
  obtain rfl := r21_1
  obtain rfl := r21_2
  refine wl_move rfl rfl (by decide) ?_
  refine wl_pure rfl rfl (v := .slice A22 n22 c22) (by decide) (by kernel_rfl) ?_
  refine wl_pure rfl rfl (v := .int .u64 ((rm3 X v : Nat) : Int)) (by decide) (by kernel_rfl) ?_
  refine wl_pure rfl rfl (v := .int .i64 (er3 v)) (by decide) (by kernel_rfl) ?_
  refine wl_pure rfl rfl (v := .pointer (some ⟨g12, 0, none⟩)) (by decide) (by kernel_rfl) ?_
  have hb24 := (hb15.ext e19)
  refine wl_stored1 rfl rfl rfl (fun _ => by kernel_rfl) rfl hb24 (Nat.le_of_ble_eq_true rfl) rfl [.slice A22 n22 c22, .slice none 0 0, .int .u64 0, .int .i64 0, .int .i64 0] rfl fun v23 hb25 u26 hs27 => ?_
  have hw5 : Ext w v23 := u26.ext hw4 ge16
  refine wl_pure rfl rfl (v := .pointer (some ⟨g12, 2, none⟩)) (by decide) (by kernel_rfl) ?_
  have hb29 := hb25
  refine wl_stored1 rfl rfl rfl (fun _ => by kernel_rfl) rfl hb29 (Nat.le_of_ble_eq_true rfl) rfl [.slice A22 n22 c22, .slice none 0 0, .int .u64 ((rm3 X v : Nat) : Int), .int .i64 0, .int .i64 0] rfl fun v28 hb30 u31 hs32 => ?_
  have hw6 : Ext w v28 := u31.ext hw5 ge16
  refine wl_pure rfl rfl (v := .pointer (some ⟨g12, 4, none⟩)) (by decide) (by kernel_rfl) ?_
  have hb34 := hb30
  refine wl_stored1 rfl rfl rfl (fun _ => by kernel_rfl) rfl hb34 (Nat.le_of_ble_eq_true rfl) rfl [.slice A22 n22 c22, .slice none 0 0, .int .u64 ((rm3 X v : Nat) : Int), .int .i64 0, .int .i64 (er3 v)] rfl fun v33 hb35 u36 hs37 => ?_
  have hw7 : Ext w v33 := u36.ext hw6 ge16
  refine wl_nil ?_
  refine eo_block_normal ?_
  refine eo_then ?_
  refine cw_seq ?_
  refine cw_region ?_
  refine wl_load rfl rfl (load_agg aggAns3 hb35 [.slice A22 n22 c22, .slice none 0 0, .int .u64 ((rm3 X v : Nat) : Int), .int .i64 0, .int .i64 (er3 v)] rfl (Nat.le_of_ble_eq_true rfl) rfl) (by decide) ?_
  have hb39 := ((((hb9.ext (e14.trans e19)).updN u26 (by omega)).updN u31 (by omega)).updN u36 (by omega))
  refine wl_stored rfl rfl rfl aggAns3 rfl hb39 (Nat.le_of_ble_eq_true rfl) rfl [.slice A22 n22 c22, .slice none 0 0, .int .u64 ((rm3 X v : Nat) : Int), .int .i64 0, .int .i64 (er3 v)] rfl fun v38 hb40 u41 hs42 => ?_
  have hw8 : Ext w v38 := u41.ext hw7 ge10
  refine wl_nil ?_
  refine eo_then ?_
  refine cw_ret ?_
  refine eo_ret [.agg #[.slice A22 n22 c22, .slice none 0 0, .int .u64 ((rm3 X v : Nat) : Int), .int .i64 0, .int .i64 (er3 v)]] rfl ⟨⟨_, rfl, load_agg aggAns3 hb40 [.slice A22 n22 c22, .slice none 0 0, .int .u64 ((rm3 X v : Nat) : Int), .int .i64 0, .int .i64 (er3 v)] rfl (Nat.le_of_ble_eq_true rfl) rfl⟩, trivial⟩ ?_
  have hs : spec3 1 X Y v = (⟨X / v, 0, rm3 X v, 0, er3 v⟩ : Ans3) := rfl
  rw [hs]
  exact ⟨_, rfl, ⟨_, _, rfl, ⟨_, _, _, rfl, j22, ((((o22.updT hb24 (by decide) u26).updT hb29 (by decide) u31).updT hb34 (by decide) u36).updT hb39 (by decide) u41).mono hb⟩, wr_nil3, (len_d3 hXl), (show (wd 0).length ≤ 68719476735 by decide)⟩, hw8⟩
set_option maxHeartbeats 4000000 in
theorem g_wants3_2 {w : World} {b : Nat} (hb : b ≤ w.heap.size) {A : Option Addr} {n cap X : Nat} (hx : Wi w A n cap X) (hl : n ≤ 1048576) {B : Option Addr} {n' cap' Y : Nat} (hy : Wi w B n' cap' Y) (hl' : n' ≤ 1048576) {v : Nat} {kk : Int} (hv : v ≤ 18446744073709551615) :
    Calls Try.prog 31 #[.agg #[.int .i64 2, .slice A n cap, .slice B n' cap', .int .u64 ((v : Nat) : Int), .int .i64 kk]] w (Gv w (AnsR3 b (spec3 2 X Y v))) := by
  have hXl : (wd X).length ≤ 68719476735 := Nat.le_trans hx.len (Nat.le_trans hl (by decide))
  have hYl : (wd Y).length ≤ 68719476735 := Nat.le_trans hy.len (Nat.le_trans hl' (by decide))
  refine sx_enter Try.func31 rfl (n := 91) rfl (Nat.le_of_ble_eq_true rfl) (args := [.agg #[.int .i64 2, .slice A n cap, .slice B n' cap', .int .u64 ((v : Nat) : Int), .int .i64 kk]]) ?_
  refine cw_keep [(0, .agg #[.int .i64 2, .slice A n cap, .slice B n' cap', .int .u64 ((v : Nat) : Int), .int .i64 kk])] ⟨rfl, trivial⟩ ?_
  refine cw_seq ?_
  refine cw_region ?_
  refine wl_box rfl rfl (vs := [.int .i64 2, .slice A n cap, .slice B n' cap', .int .u64 ((v : Nat) : Int), .int .i64 kk]) rfl (by decide) fun g1 v2 nb => ?_
  have hb4 := nb.bk
  have ge5 : w.heap.size ≤ g1 := by rw [← nb.at_]; exact (Ext.refl w).size
  have e3 := nb.ext
  clear nb
  have hw1 : Ext w v2 := (Ext.refl w).trans e3
  refine wl_alloc rfl (z := .agg #[.slice none 0 0, .slice none 0 0, .int .u64 0, .int .i64 0, .int .i64 0]) (vs := [.slice none 0 0, .slice none 0 0, .int .u64 0, .int .i64 0, .int .i64 0]) (fun _ => by kernel_rfl) rfl (by decide) fun g6 v7 nb => ?_
  have hb9 := nb.bk
  have ge10 : w.heap.size ≤ g6 := by rw [← nb.at_]; exact hw1.size
  have q11 : g1 < g6 := by rw [← nb.at_]; exact hb4.lt
  have e8 := nb.ext
  clear nb
  have hw2 : Ext w v7 := hw1.trans e8
  refine wl_nil ?_
  refine eo_then ?_
  refine cw_seq ?_
  refine cw_region ?_
  refine wl_alloc rfl (z := .agg #[.slice none 0 0, .slice none 0 0, .int .u64 0, .int .i64 0, .int .i64 0]) (vs := [.slice none 0 0, .slice none 0 0, .int .u64 0, .int .i64 0, .int .i64 0]) (fun _ => by kernel_rfl) rfl (by decide) fun g12 v13 nb => ?_
  have hb15 := nb.bk
  have ge16 : w.heap.size ≤ g12 := by rw [← nb.at_]; exact hw2.size
  have q17 : g6 < g12 := by rw [← nb.at_]; exact hb9.lt
  have e14 := nb.ext
  clear nb
  have hw3 : Ext w v13 := hw2.trans e14
  refine wl_nil ?_
  refine eo_then ?_
  refine cw_seq ?_
  refine cw_seq ?_
  refine cw_region ?_
  refine wl_pure rfl rfl (v := .pointer (some ⟨g1, 0, none⟩)) (by decide) (by kernel_rfl) ?_
  refine wl_load rfl rfl (load_cell (fun _ => by kernel_rfl) (hb4.ext (e8.trans e14)) rfl) (by decide) ?_
  refine wl_nil ?_
  refine eo_then ?_
  refine cw_block ?_
  refine cw_seq ?_
  refine cw_region ?_
  refine wl_cmp rfl rfl rfl false (by decide) (by decide) ?_
  refine wl_assign rfl rfl (by decide) ?_
  refine wl_nil ?_
  refine eo_then ?_
  refine cw_false rfl ?_
  refine cw_seq ?_
  refine cw_region ?_
  refine wl_cmp rfl rfl rfl true (by decide) (by decide) ?_
  refine wl_assign rfl rfl (by decide) ?_
  refine wl_nil ?_
  refine eo_then ?_
  refine cw_true rfl ?_
  refine cw_region ?_
  refine wl_pure rfl rfl (v := .pointer (some ⟨g1, 1, none⟩)) (by decide) (by kernel_rfl) ?_
  refine wl_load rfl rfl (load_cell (fun _ => by kernel_rfl) (hb4.ext (e8.trans e14)) rfl) (by decide) ?_
  refine wl_pure rfl rfl (v := .pointer (some ⟨g1, 2, none⟩)) (by decide) (by kernel_rfl) ?_
  refine wl_load rfl rfl (load_cell (fun _ => by kernel_rfl) (hb4.ext (e8.trans e14)) rfl) (by decide) ?_
  refine wl_call rfl rfl (vs := [.slice A n cap, .slice B n' cap']) (by kernel_rfl) (by decide) (j3_rDivMod hw3.size (hx.ext hw3) (Nat.le_trans hl (by decide)) (hy.ext hw3) (Nat.le_trans hl' (by decide))) ?_
  rintro _ v18 ⟨xr20, rfl, r20, e19⟩
  refine ret_intro ?_
  have hw4 : Ext w v18 := hw3.trans e19
  obtain ⟨a21_0, a21_1, a21_2, rfl, r21_0, r21_1, r21_2⟩ := r20
  obtain ⟨A22, n22, c22, rfl, j22, o22⟩ := r21_0
  obtain ⟨A23, n23, c23, rfl, j23, o23⟩ := r21_1
  obtain rfl := r21_2
  refine wl_move rfl rfl (by decide) ?_
  refine wl_pure rfl rfl (v := .slice A22 n22 c22) (by decide) (by kernel_rfl) ?_
  refine wl_pure rfl rfl (v := .slice A23 n23 c23) (by decide) (by kernel_rfl) ?_
  refine wl_pure rfl rfl (v := .int .i64 (er3 Y)) (by decide) (by kernel_rfl) ?_
  refine wl_pure rfl rfl (v := .pointer (some ⟨g12, 0, none⟩)) (by decide) (by kernel_rfl) ?_
  have hb25 := (hb15.ext e19)
  refine wl_stored1 rfl rfl rfl (fun _ => by kernel_rfl) rfl hb25 (Nat.le_of_ble_eq_true rfl) rfl [.slice A22 n22 c22, .slice none 0 0, .int .u64 0, .int .i64 0, .int .i64 0] rfl fun v24 hb26 u27 hs28 => ?_
  have hw5 : Ext w v24 := u27.ext hw4 ge16
  refine wl_pure rfl rfl (v := .pointer (some ⟨g12, 1, none⟩)) (by decide) (by kernel_rfl) ?_
  have hb30 := hb26
  refine wl_stored1 rfl rfl rfl (fun _ => by kernel_rfl) rfl hb30 (Nat.le_of_ble_eq_true rfl) rfl [.slice A22 n22 c22, .slice A23 n23 c23, .int .u64 0, .int .i64 0, .int .i64 0] rfl fun v29 hb31 u32 hs33 => ?_
  have hw6 : Ext w v29 := u32.ext hw5 ge16
  refine wl_pure rfl rfl (v := .pointer (some ⟨g12, 4, none⟩)) (by decide) (by kernel_rfl) ?_
  have hb35 := hb31
  refine wl_stored1 rfl rfl rfl (fun _ => by kernel_rfl) rfl hb35 (Nat.le_of_ble_eq_true rfl) rfl [.slice A22 n22 c22, .slice A23 n23 c23, .int .u64 0, .int .i64 0, .int .i64 (er3 Y)] rfl fun v34 hb36 u37 hs38 => ?_
  have hw7 : Ext w v34 := u37.ext hw6 ge16
  refine wl_nil ?_
  refine eo_block_normal ?_
  refine eo_then ?_
  refine cw_seq ?_
  refine cw_region ?_
  refine wl_load rfl rfl (load_agg aggAns3 hb36 [.slice A22 n22 c22, .slice A23 n23 c23, .int .u64 0, .int .i64 0, .int .i64 (er3 Y)] rfl (Nat.le_of_ble_eq_true rfl) rfl) (by decide) ?_
  have hb40 := ((((hb9.ext (e14.trans e19)).updN u27 (by omega)).updN u32 (by omega)).updN u37 (by omega))
  refine wl_stored rfl rfl rfl aggAns3 rfl hb40 (Nat.le_of_ble_eq_true rfl) rfl [.slice A22 n22 c22, .slice A23 n23 c23, .int .u64 0, .int .i64 0, .int .i64 (er3 Y)] rfl fun v39 hb41 u42 hs43 => ?_
  have hw8 : Ext w v39 := u42.ext hw7 ge10
  refine wl_nil ?_
  refine eo_then ?_
  refine cw_ret ?_
  refine eo_ret [.agg #[.slice A22 n22 c22, .slice A23 n23 c23, .int .u64 0, .int .i64 0, .int .i64 (er3 Y)]] rfl ⟨⟨_, rfl, load_agg aggAns3 hb41 [.slice A22 n22 c22, .slice A23 n23 c23, .int .u64 0, .int .i64 0, .int .i64 (er3 Y)] rfl (Nat.le_of_ble_eq_true rfl) rfl⟩, trivial⟩ ?_
  have hs : spec3 2 X Y v = (⟨X / Y, rm3 X Y, 0, 0, er3 Y⟩ : Ans3) := rfl
  rw [hs]
  exact ⟨_, rfl, ⟨_, _, rfl, ⟨_, _, _, rfl, j22, ((((o22.updT hb25 (by decide) u27).updT hb30 (by decide) u32).updT hb35 (by decide) u37).updT hb40 (by decide) u42).mono hb⟩, ⟨_, _, _, rfl, j23, ((((o23.updT hb25 (by decide) u27).updT hb30 (by decide) u32).updT hb35 (by decide) u37).updT hb40 (by decide) u42).mono hb⟩, (len_d3 hXl), (len_rm3 hXl)⟩, hw8⟩
set_option maxHeartbeats 4000000 in
theorem g_wants3_3 {w : World} {b : Nat} (hb : b ≤ w.heap.size) {A : Option Addr} {n cap X : Nat} (hx : Wi w A n cap X) (hl : n ≤ 1048576) {B : Option Addr} {n' cap' Y : Nat} (hy : Wi w B n' cap' Y) (hl' : n' ≤ 1048576) {v : Nat} {kk : Int} (hv : v ≤ 18446744073709551615) :
    Calls Try.prog 31 #[.agg #[.int .i64 3, .slice A n cap, .slice B n' cap', .int .u64 ((v : Nat) : Int), .int .i64 kk]] w (Gv w (AnsR3 b (spec3 3 X Y v))) := by
  have hXl : (wd X).length ≤ 68719476735 := Nat.le_trans hx.len (Nat.le_trans hl (by decide))
  have hYl : (wd Y).length ≤ 68719476735 := Nat.le_trans hy.len (Nat.le_trans hl' (by decide))
  refine sx_enter Try.func31 rfl (n := 91) rfl (Nat.le_of_ble_eq_true rfl) (args := [.agg #[.int .i64 3, .slice A n cap, .slice B n' cap', .int .u64 ((v : Nat) : Int), .int .i64 kk]]) ?_
  refine cw_keep [(0, .agg #[.int .i64 3, .slice A n cap, .slice B n' cap', .int .u64 ((v : Nat) : Int), .int .i64 kk])] ⟨rfl, trivial⟩ ?_
  refine cw_seq ?_
  refine cw_region ?_
  refine wl_box rfl rfl (vs := [.int .i64 3, .slice A n cap, .slice B n' cap', .int .u64 ((v : Nat) : Int), .int .i64 kk]) rfl (by decide) fun g1 v2 nb => ?_
  have hb4 := nb.bk
  have ge5 : w.heap.size ≤ g1 := by rw [← nb.at_]; exact (Ext.refl w).size
  have e3 := nb.ext
  clear nb
  have hw1 : Ext w v2 := (Ext.refl w).trans e3
  refine wl_alloc rfl (z := .agg #[.slice none 0 0, .slice none 0 0, .int .u64 0, .int .i64 0, .int .i64 0]) (vs := [.slice none 0 0, .slice none 0 0, .int .u64 0, .int .i64 0, .int .i64 0]) (fun _ => by kernel_rfl) rfl (by decide) fun g6 v7 nb => ?_
  have hb9 := nb.bk
  have ge10 : w.heap.size ≤ g6 := by rw [← nb.at_]; exact hw1.size
  have q11 : g1 < g6 := by rw [← nb.at_]; exact hb4.lt
  have e8 := nb.ext
  clear nb
  have hw2 : Ext w v7 := hw1.trans e8
  refine wl_nil ?_
  refine eo_then ?_
  refine cw_seq ?_
  refine cw_region ?_
  refine wl_alloc rfl (z := .agg #[.slice none 0 0, .slice none 0 0, .int .u64 0, .int .i64 0, .int .i64 0]) (vs := [.slice none 0 0, .slice none 0 0, .int .u64 0, .int .i64 0, .int .i64 0]) (fun _ => by kernel_rfl) rfl (by decide) fun g12 v13 nb => ?_
  have hb15 := nb.bk
  have ge16 : w.heap.size ≤ g12 := by rw [← nb.at_]; exact hw2.size
  have q17 : g6 < g12 := by rw [← nb.at_]; exact hb9.lt
  have e14 := nb.ext
  clear nb
  have hw3 : Ext w v13 := hw2.trans e14
  refine wl_nil ?_
  refine eo_then ?_
  refine cw_seq ?_
  refine cw_seq ?_
  refine cw_region ?_
  refine wl_pure rfl rfl (v := .pointer (some ⟨g1, 0, none⟩)) (by decide) (by kernel_rfl) ?_
  refine wl_load rfl rfl (load_cell (fun _ => by kernel_rfl) (hb4.ext (e8.trans e14)) rfl) (by decide) ?_
  refine wl_nil ?_
  refine eo_then ?_
  refine cw_block ?_
  refine cw_seq ?_
  refine cw_region ?_
  refine wl_cmp rfl rfl rfl false (by decide) (by decide) ?_
  refine wl_assign rfl rfl (by decide) ?_
  refine wl_nil ?_
  refine eo_then ?_
  refine cw_false rfl ?_
  refine cw_seq ?_
  refine cw_region ?_
  refine wl_cmp rfl rfl rfl false (by decide) (by decide) ?_
  refine wl_assign rfl rfl (by decide) ?_
  refine wl_nil ?_
  refine eo_then ?_
  refine cw_false rfl ?_
  refine cw_seq ?_
  refine cw_region ?_
  refine wl_cmp rfl rfl rfl true (by decide) (by decide) ?_
  refine wl_assign rfl rfl (by decide) ?_
  refine wl_nil ?_
  refine eo_then ?_
  refine cw_true rfl ?_
  refine cw_region ?_
  refine wl_pure rfl rfl (v := .pointer (some ⟨g1, 1, none⟩)) (by decide) (by kernel_rfl) ?_
  refine wl_load rfl rfl (load_cell (fun _ => by kernel_rfl) (hb4.ext (e8.trans e14)) rfl) (by decide) ?_
  refine wl_pure rfl rfl (v := .pointer (some ⟨g1, 2, none⟩)) (by decide) (by kernel_rfl) ?_
  refine wl_load rfl rfl (load_cell (fun _ => by kernel_rfl) (hb4.ext (e8.trans e14)) rfl) (by decide) ?_
  refine wl_call rfl rfl (vs := [.slice A n cap, .slice B n' cap']) (by kernel_rfl) (by decide) (j3_rExact hw3.size (hx.ext hw3) (Nat.le_trans hl (by decide)) (hy.ext hw3) (Nat.le_trans hl' (by decide))) ?_
  rintro _ v18 ⟨xr20, rfl, r20, e19⟩
  refine ret_intro ?_
  have hw4 : Ext w v18 := hw3.trans e19
  obtain ⟨a21_0, a21_1, rfl, r21_0, r21_1⟩ := r20
  obtain ⟨A22, n22, c22, rfl, j22, o22⟩ := r21_0
  obtain rfl := r21_1
  refine wl_move rfl rfl (by decide) ?_
  refine wl_pure rfl rfl (v := .slice A22 n22 c22) (by decide) (by kernel_rfl) ?_
  refine wl_pure rfl rfl (v := .int .i64 (xe3 X Y)) (by decide) (by kernel_rfl) ?_
  refine wl_pure rfl rfl (v := .pointer (some ⟨g12, 0, none⟩)) (by decide) (by kernel_rfl) ?_
  have hb24 := (hb15.ext e19)
  refine wl_stored1 rfl rfl rfl (fun _ => by kernel_rfl) rfl hb24 (Nat.le_of_ble_eq_true rfl) rfl [.slice A22 n22 c22, .slice none 0 0, .int .u64 0, .int .i64 0, .int .i64 0] rfl fun v23 hb25 u26 hs27 => ?_
  have hw5 : Ext w v23 := u26.ext hw4 ge16
  refine wl_pure rfl rfl (v := .pointer (some ⟨g12, 4, none⟩)) (by decide) (by kernel_rfl) ?_
  have hb29 := hb25
  refine wl_stored1 rfl rfl rfl (fun _ => by kernel_rfl) rfl hb29 (Nat.le_of_ble_eq_true rfl) rfl [.slice A22 n22 c22, .slice none 0 0, .int .u64 0, .int .i64 0, .int .i64 (xe3 X Y)] rfl fun v28 hb30 u31 hs32 => ?_
  have hw6 : Ext w v28 := u31.ext hw5 ge16
  refine wl_nil ?_
  refine eo_block_normal ?_
  refine eo_then ?_
  refine cw_seq ?_
  refine cw_region ?_
  refine wl_load rfl rfl (load_agg aggAns3 hb30 [.slice A22 n22 c22, .slice none 0 0, .int .u64 0, .int .i64 0, .int .i64 (xe3 X Y)] rfl (Nat.le_of_ble_eq_true rfl) rfl) (by decide) ?_
  have hb34 := (((hb9.ext (e14.trans e19)).updN u26 (by omega)).updN u31 (by omega))
  refine wl_stored rfl rfl rfl aggAns3 rfl hb34 (Nat.le_of_ble_eq_true rfl) rfl [.slice A22 n22 c22, .slice none 0 0, .int .u64 0, .int .i64 0, .int .i64 (xe3 X Y)] rfl fun v33 hb35 u36 hs37 => ?_
  have hw7 : Ext w v33 := u36.ext hw6 ge10
  refine wl_nil ?_
  refine eo_then ?_
  refine cw_ret ?_
  refine eo_ret [.agg #[.slice A22 n22 c22, .slice none 0 0, .int .u64 0, .int .i64 0, .int .i64 (xe3 X Y)]] rfl ⟨⟨_, rfl, load_agg aggAns3 hb35 [.slice A22 n22 c22, .slice none 0 0, .int .u64 0, .int .i64 0, .int .i64 (xe3 X Y)] rfl (Nat.le_of_ble_eq_true rfl) rfl⟩, trivial⟩ ?_
  have hs : spec3 3 X Y v = (⟨xt3 X Y, 0, 0, 0, xe3 X Y⟩ : Ans3) := rfl
  rw [hs]
  exact ⟨_, rfl, ⟨_, _, rfl, ⟨_, _, _, rfl, j22, (((o22.updT hb24 (by decide) u26).updT hb29 (by decide) u31).updT hb34 (by decide) u36).mono hb⟩, wr_nil3, (len_xt3 hXl), (show (wd 0).length ≤ 68719476735 by decide)⟩, hw7⟩
theorem g_wants3 {w : World} {b : Nat} (hb : b ≤ w.heap.size) {A : Option Addr} {n cap X : Nat} (hx : Wi w A n cap X) (hl : n ≤ 1048576) {B : Option Addr} {n' cap' Y : Nat} (hy : Wi w B n' cap' Y) (hl' : n' ≤ 1048576) {v : Nat} {kk : Int} (hv : v ≤ 18446744073709551615) {k : Int} (hk : k = 1 ∨ k = 2 ∨ k = 3) :
    Calls Try.prog 31 #[.agg #[.int .i64 k, .slice A n cap, .slice B n' cap', .int .u64 ((v : Nat) : Int), .int .i64 kk]] w (Gv w (AnsR3 b (spec3 k X Y v))) := by
  rcases hk with rfl | rfl | rfl
  · exact g_wants3_1 hb hx hl hy hl' hv
  · exact g_wants3_2 hb hx hl hy hl' hv
  · exact g_wants3_3 hb hx hl hy hl' hv
set_option maxHeartbeats 4000000 in
theorem g_same3AI {w : World} {t : Ans3} {b1 b2 : Nat} {Ax Bx : Option Addr} {nx cx mx dx : Nat} {Ay By : Option Addr} {ny cy my dy : Nat} (jx : nx = (wd t.Q).length) (ox : Own w b1 23 1 Ax nx cx ((wd t.Q).map W64)) (ix : mx = (wd t.R).length) (qx : Own w b1 23 1 Bx mx dx ((wd t.R).map W64)) (jy : ny = (wd t.Q).length) (oy : Own w b2 23 1 Ay ny cy ((wd t.Q).map W64)) (iy : my = (wd t.R).length) (qy : Own w b2 23 1 By my dy ((wd t.R).map W64)) (lx : (wd t.Q).length ≤ 68719476735) (ly : (wd t.R).length ≤ 68719476735) :
    Calls Try.prog 33 #[.agg #[.slice Ax nx cx, .slice Bx mx dx, .int .u64 ((t.W : Nat) : Int), .int .i64 t.N, .int .i64 t.E], .agg #[.slice Ay ny cy, .slice By my dy, .int .u64 ((t.W : Nat) : Int), .int .i64 t.N, .int .i64 t.E]] w (Gv w (Is (.bool true))) := by
  refine sx_enter Try.func33 rfl (n := 42) rfl (Nat.le_of_ble_eq_true rfl) (args := [.agg #[.slice Ax nx cx, .slice Bx mx dx, .int .u64 ((t.W : Nat) : Int), .int .i64 t.N, .int .i64 t.E], .agg #[.slice Ay ny cy, .slice By my dy, .int .u64 ((t.W : Nat) : Int), .int .i64 t.N, .int .i64 t.E]]) ?_
  refine cw_keep [(0, .agg #[.slice Ax nx cx, .slice Bx mx dx, .int .u64 ((t.W : Nat) : Int), .int .i64 t.N, .int .i64 t.E]), (1, .agg #[.slice Ay ny cy, .slice By my dy, .int .u64 ((t.W : Nat) : Int), .int .i64 t.N, .int .i64 t.E])] ⟨rfl, rfl, trivial⟩ ?_
  refine cw_seq ?_
  refine cw_region ?_
  refine wl_box rfl rfl (vs := [.slice Ax nx cx, .slice Bx mx dx, .int .u64 ((t.W : Nat) : Int), .int .i64 t.N, .int .i64 t.E]) rfl (by decide) fun g1 v2 nb => ?_
  have hb4 := nb.bk
  have ge5 : w.heap.size ≤ g1 := by rw [← nb.at_]; exact (Ext.refl w).size
  have e3 := nb.ext
  clear nb
  have hw1 : Ext w v2 := (Ext.refl w).trans e3
  refine wl_box rfl rfl (vs := [.slice Ay ny cy, .slice By my dy, .int .u64 ((t.W : Nat) : Int), .int .i64 t.N, .int .i64 t.E]) rfl (by decide) fun g6 v7 nb => ?_
  have hb9 := nb.bk
  have ge10 : w.heap.size ≤ g6 := by rw [← nb.at_]; exact hw1.size
  have q11 : g1 < g6 := by rw [← nb.at_]; exact hb4.lt
  have e8 := nb.ext
  clear nb
  have hw2 : Ext w v7 := hw1.trans e8
  refine wl_assign rfl rfl (by decide) ?_
  refine wl_nil ?_
  refine eo_then ?_
  refine cw_seq ?_
  refine cw_region ?_
  refine wl_pure rfl rfl (v := .pointer (some ⟨g1, 0, none⟩)) (by decide) (by kernel_rfl) ?_
  refine wl_load rfl rfl (load_cell (fun _ => by kernel_rfl) (hb4.ext e8) rfl) (by decide) ?_
  refine wl_pure rfl rfl (v := .pointer (some ⟨g6, 0, none⟩)) (by decide) (by kernel_rfl) ?_
  refine wl_load rfl rfl (load_cell (fun _ => by kernel_rfl) hb9 rfl) (by decide) ?_
  refine wl_call rfl rfl (vs := [.slice Ax nx cx, .slice Ay ny cy]) (by kernel_rfl) (by decide) (g_same3 (ox.ext (e3.trans e8)) (by rw [jx]; omega) (oy.ext (e3.trans e8)) (by rw [jy]; omega)) ?_
  rintro _ v12 ⟨xr14, rfl, r14, e13⟩
  refine ret_intro ?_
  have hw3 : Ext w v12 := hw2.trans e13
  obtain rfl := r14
  refine wl_assign rfl rfl (by decide) ?_
  refine wl_nil ?_
  refine eo_then ?_
  refine cw_seq ?_
  refine cw_region ?_
  refine wl_pure rfl rfl (v := .pointer (some ⟨g1, 1, none⟩)) (by decide) (by kernel_rfl) ?_
  refine wl_load rfl rfl (load_cell (fun _ => by kernel_rfl) (hb4.ext (e8.trans e13)) rfl) (by decide) ?_
  refine wl_pure rfl rfl (v := .pointer (some ⟨g6, 1, none⟩)) (by decide) (by kernel_rfl) ?_
  refine wl_load rfl rfl (load_cell (fun _ => by kernel_rfl) (hb9.ext e13) rfl) (by decide) ?_
  refine wl_call rfl rfl (vs := [.slice Bx mx dx, .slice By my dy]) (by kernel_rfl) (by decide) (g_same3 (qx.ext (e3.trans (e8.trans e13))) (by rw [ix]; omega) (qy.ext (e3.trans (e8.trans e13))) (by rw [iy]; omega)) ?_
  rintro _ v15 ⟨xr17, rfl, r17, e16⟩
  refine ret_intro ?_
  have hw4 : Ext w v15 := hw3.trans e16
  obtain rfl := r17
  refine wl_assign rfl rfl (by decide) ?_
  refine wl_nil ?_
  refine eo_then ?_
  refine cw_seq ?_
  refine cw_region ?_
  refine wl_move rfl rfl (by decide) ?_
  refine wl_move rfl rfl (by decide) ?_
  refine wl_move rfl rfl (by decide) ?_
  refine wl_pure rfl rfl (v := .bool true) (by decide) (by kernel_rfl) ?_
  refine wl_move rfl rfl (by decide) ?_
  refine wl_pure rfl rfl (v := .pointer (some ⟨g1, 2, none⟩)) (by decide) (by kernel_rfl) ?_
  refine wl_load rfl rfl (load_cell (fun _ => by kernel_rfl) (hb4.ext (e8.trans (e13.trans e16))) rfl) (by decide) ?_
  refine wl_pure rfl rfl (v := .pointer (some ⟨g6, 2, none⟩)) (by decide) (by kernel_rfl) ?_
  refine wl_load rfl rfl (load_cell (fun _ => by kernel_rfl) (hb9.ext (e13.trans e16)) rfl) (by decide) ?_
  refine wl_cmp rfl rfl rfl true (cb_eq_t (a := t.W) (b := t.W) rfl rfl (by omega)) (by decide) ?_
  refine wl_pure rfl rfl (v := .bool true) (by decide) (by kernel_rfl) ?_
  refine wl_move rfl rfl (by decide) ?_
  refine wl_pure rfl rfl (v := .pointer (some ⟨g1, 3, none⟩)) (by decide) (by kernel_rfl) ?_
  refine wl_load rfl rfl (load_cell (fun _ => by kernel_rfl) (hb4.ext (e8.trans (e13.trans e16))) rfl) (by decide) ?_
  refine wl_pure rfl rfl (v := .pointer (some ⟨g6, 3, none⟩)) (by decide) (by kernel_rfl) ?_
  refine wl_load rfl rfl (load_cell (fun _ => by kernel_rfl) (hb9.ext (e13.trans e16)) rfl) (by decide) ?_
  refine wl_cmp rfl rfl rfl true (eq_t rfl) (by decide) ?_
  refine wl_pure rfl rfl (v := .bool true) (by decide) (by kernel_rfl) ?_
  refine wl_move rfl rfl (by decide) ?_
  refine wl_pure rfl rfl (v := .pointer (some ⟨g1, 4, none⟩)) (by decide) (by kernel_rfl) ?_
  refine wl_load rfl rfl (load_cell (fun _ => by kernel_rfl) (hb4.ext (e8.trans (e13.trans e16))) rfl) (by decide) ?_
  refine wl_pure rfl rfl (v := .pointer (some ⟨g6, 4, none⟩)) (by decide) (by kernel_rfl) ?_
  refine wl_load rfl rfl (load_cell (fun _ => by kernel_rfl) (hb9.ext (e13.trans e16)) rfl) (by decide) ?_
  refine wl_cmp rfl rfl rfl true (eq_t rfl) (by decide) ?_
  refine wl_pure rfl rfl (v := .bool true) (by decide) (by kernel_rfl) ?_
  refine wl_assign rfl rfl (by decide) ?_
  refine wl_nil ?_
  refine eo_then ?_
  refine cw_ret ?_
  refine eo_ret [.bool true] rfl ⟨rfl, trivial⟩ ?_
  exact ⟨_, rfl, rfl, hw4⟩
theorem g_same3A {w : World} {t : Ans3} {b1 b2 : Nat} {u v : Value} (hu : AnsR3 b1 t u w) (hv : AnsR3 b2 t v w) : Calls Try.prog 33 #[u, v] w (Gv w (Is (.bool true))) := by
  obtain ⟨_, _, rfl, ⟨A, n, c, rfl, j, o⟩, ⟨B, m, d, rfl, i, q⟩, lx, ly⟩ := hu
  obtain ⟨_, _, rfl, ⟨A', n', c', rfl, j', o'⟩, ⟨B', m', d', rfl, i', q'⟩, _, _⟩ := hv
  exact g_same3AI j o i q j' o' i' q' lx ly
set_option maxHeartbeats 4000000 in
theorem g_right3 {w : World} {A : Option Addr} {n cap X : Nat} (hx : Wi w A n cap X) (hl : n ≤ 1048576) {B : Option Addr} {n' cap' Y : Nat} (hy : Wi w B n' cap' Y) (hl' : n' ≤ 1048576) {v : Nat} {kk : Int} (hv : v ≤ 18446744073709551615) {k : Int} (hk : k = 1 ∨ k = 2 ∨ k = 3) :
    Calls Try.prog 9 #[.agg #[.int .i64 k, .slice A n cap, .slice B n' cap', .int .u64 ((v : Nat) : Int), .int .i64 kk]] w (Gv w (Is (.bool true))) := by
  refine sx_enter Try.func9 rfl (n := 12) rfl (Nat.le_of_ble_eq_true rfl) (args := [.agg #[.int .i64 k, .slice A n cap, .slice B n' cap', .int .u64 ((v : Nat) : Int), .int .i64 kk]]) ?_
  refine cw_keep [(0, .agg #[.int .i64 k, .slice A n cap, .slice B n' cap', .int .u64 ((v : Nat) : Int), .int .i64 kk])] ⟨rfl, trivial⟩ ?_
  refine cw_seq ?_
  refine cw_region ?_
  refine wl_box rfl rfl (vs := [.int .i64 k, .slice A n cap, .slice B n' cap', .int .u64 ((v : Nat) : Int), .int .i64 kk]) rfl (by decide) fun g1 v2 nb => ?_
  have hb4 := nb.bk
  have ge5 : w.heap.size ≤ g1 := by rw [← nb.at_]; exact (Ext.refl w).size
  have e3 := nb.ext
  clear nb
  have hw1 : Ext w v2 := (Ext.refl w).trans e3
  refine wl_assign rfl rfl (by decide) ?_
  refine wl_nil ?_
  refine eo_then ?_
  refine cw_seq ?_
  refine cw_region ?_
  refine wl_load rfl rfl (load_agg aggOp3 hb4 [.int .i64 k, .slice A n cap, .slice B n' cap', .int .u64 ((v : Nat) : Int), .int .i64 kk] rfl (Nat.le_of_ble_eq_true rfl) rfl) (by decide) ?_
  refine wl_call rfl rfl (vs := [.agg #[.int .i64 k, .slice A n cap, .slice B n' cap', .int .u64 ((v : Nat) : Int), .int .i64 kk]]) (by kernel_rfl) (by decide) (g_wants3 hw1.size (hx.ext hw1) hl (hy.ext hw1) hl' hv hk) ?_
  rintro _ v6 ⟨xr8, rfl, r8, e7⟩
  refine ret_intro ?_
  have hw2 : Ext w v6 := hw1.trans e7
  obtain ⟨_, _, rfl, ⟨A9, n9, c9, rfl, j9, o9⟩, ⟨B9, m9, d9, rfl, i9, q9⟩, lx9, ly9⟩ := r8
  refine wl_alloc rfl (z := .agg #[.slice none 0 0, .slice none 0 0, .int .u64 0, .int .i64 0, .int .i64 0]) (vs := [.slice none 0 0, .slice none 0 0, .int .u64 0, .int .i64 0, .int .i64 0]) (fun _ => by kernel_rfl) rfl (by decide) fun g10 v11 nb => ?_
  have hb13 := nb.bk
  have ge14 : w.heap.size ≤ g10 := by rw [← nb.at_]; exact hw2.size
  have q15 : g1 < g10 := by rw [← nb.at_]; exact (hb4.ext e7).lt
  have e12 := nb.ext
  clear nb
  have hw3 : Ext w v11 := hw2.trans e12
  have hb17 := hb13
  refine wl_stored rfl rfl rfl aggAns3 rfl hb17 (Nat.le_of_ble_eq_true rfl) rfl [.slice A9 n9 c9, .slice B9 m9 d9, .int .u64 (((spec3 k X Y v).W : Nat) : Int), .int .i64 ((spec3 k X Y v).N), .int .i64 ((spec3 k X Y v).E)] rfl fun v16 hb18 u19 hs20 => ?_
  have hw4 : Ext w v16 := u19.ext hw3 ge14
  refine wl_nil ?_
  refine eo_then ?_
  refine cw_seq ?_
  refine cw_region ?_
  refine wl_load rfl rfl (load_agg aggOp3 ((hb4.ext (e7.trans e12)).updN u19 (by omega)) [.int .i64 k, .slice A n cap, .slice B n' cap', .int .u64 ((v : Nat) : Int), .int .i64 kk] rfl (Nat.le_of_ble_eq_true rfl) rfl) (by decide) ?_
  refine wl_call rfl rfl (vs := [.agg #[.int .i64 k, .slice A n cap, .slice B n' cap', .int .u64 ((v : Nat) : Int), .int .i64 kk]]) (by kernel_rfl) (by decide) (g_plays3 hw4.size (hx.ext hw4) hl (hy.ext hw4) hl' hv hk) ?_
  rintro _ v21 ⟨xr23, rfl, r23, e22⟩
  refine ret_intro ?_
  have hw5 : Ext w v21 := hw4.trans e22
  obtain ⟨_, _, rfl, ⟨A24, n24, c24, rfl, j24, o24⟩, ⟨B24, m24, d24, rfl, i24, q24⟩, lx24, ly24⟩ := r23
  refine wl_alloc rfl (z := .agg #[.slice none 0 0, .slice none 0 0, .int .u64 0, .int .i64 0, .int .i64 0]) (vs := [.slice none 0 0, .slice none 0 0, .int .u64 0, .int .i64 0, .int .i64 0]) (fun _ => by kernel_rfl) rfl (by decide) fun g25 v26 nb => ?_
  have hb28 := nb.bk
  have ge29 : w.heap.size ≤ g25 := by rw [← nb.at_]; exact hw5.size
  have q30 : g10 < g25 := by rw [← nb.at_]; exact (hb18.ext e22).lt
  have e27 := nb.ext
  clear nb
  have hw6 : Ext w v26 := hw5.trans e27
  have hb32 := hb28
  refine wl_stored rfl rfl rfl aggAns3 rfl hb32 (Nat.le_of_ble_eq_true rfl) rfl [.slice A24 n24 c24, .slice B24 m24 d24, .int .u64 (((spec3 k X Y v).W : Nat) : Int), .int .i64 ((spec3 k X Y v).N), .int .i64 ((spec3 k X Y v).E)] rfl fun v31 hb33 u34 hs35 => ?_
  have hw7 : Ext w v31 := u34.ext hw6 ge29
  refine wl_nil ?_
  refine eo_then ?_
  refine cw_seq ?_
  refine cw_region ?_
  refine wl_load rfl rfl (load_agg aggAns3 hb33 [.slice A24 n24 c24, .slice B24 m24 d24, .int .u64 (((spec3 k X Y v).W : Nat) : Int), .int .i64 ((spec3 k X Y v).N), .int .i64 ((spec3 k X Y v).E)] rfl (Nat.le_of_ble_eq_true rfl) rfl) (by decide) ?_
  refine wl_load rfl rfl (load_agg aggAns3 ((hb18.ext (e22.trans e27)).updN u34 (by omega)) [.slice A9 n9 c9, .slice B9 m9 d9, .int .u64 (((spec3 k X Y v).W : Nat) : Int), .int .i64 ((spec3 k X Y v).N), .int .i64 ((spec3 k X Y v).E)] rfl (Nat.le_of_ble_eq_true rfl) rfl) (by decide) ?_
  refine wl_call rfl rfl (vs := [.agg #[.slice A24 n24 c24, .slice B24 m24 d24, .int .u64 (((spec3 k X Y v).W : Nat) : Int), .int .i64 ((spec3 k X Y v).N), .int .i64 ((spec3 k X Y v).E)], .agg #[.slice A9 n9 c9, .slice B9 m9 d9, .int .u64 (((spec3 k X Y v).W : Nat) : Int), .int .i64 ((spec3 k X Y v).N), .int .i64 ((spec3 k X Y v).E)]]) (by kernel_rfl) (by decide) (g_same3A ⟨_, _, rfl, ⟨_, _, _, rfl, j24, ((o24.ext e27).updT hb32 (by decide) u34)⟩, ⟨_, _, _, rfl, i24, ((q24.ext e27).updT hb32 (by decide) u34)⟩, lx24, ly24⟩ ⟨_, _, rfl, ⟨_, _, _, rfl, j9, ((((o9.ext e12).updT hb17 (by decide) u19).ext (e22.trans e27)).updT hb32 (by decide) u34)⟩, ⟨_, _, _, rfl, i9, ((((q9.ext e12).updT hb17 (by decide) u19).ext (e22.trans e27)).updT hb32 (by decide) u34)⟩, lx9, ly9⟩) ?_
  rintro _ v36 ⟨xr38, rfl, r38, e37⟩
  refine ret_intro ?_
  have hw8 : Ext w v36 := hw7.trans e37
  obtain rfl := r38
  refine wl_assign rfl rfl (by decide) ?_
  refine wl_nil ?_
  refine eo_then ?_
  refine cw_ret ?_
  refine eo_ret [.bool true] rfl ⟨rfl, trivial⟩ ?_
  exact ⟨_, rfl, rfl, hw8⟩
set_option maxHeartbeats 4000000 in
theorem law_DivnatDividesP {w : World} {A : Option Addr} {n cap X : Nat} (hx : Wi w A n cap X) (hl : n ≤ 1048576) {B : Option Addr} {n' cap' Y : Nat} (hy : Wi w B n' cap' Y) (hl' : n' ≤ 1048576) {v : Nat} (hv : v ≤ 18446744073709551615) :
    Calls Try.prog 3 #[.slice A n cap, .slice B n' cap', .int .u64 ((v : Nat) : Int)] w (Gv w (Is (.bool true))) := by
  refine sx_enter Try.func3 rfl (n := 31) rfl (Nat.le_of_ble_eq_true rfl) (args := [.slice A n cap, .slice B n' cap', .int .u64 ((v : Nat) : Int)]) ?_
  refine cw_keep [(0, .slice A n cap), (1, .slice B n' cap'), (2, .int .u64 ((v : Nat) : Int))] ⟨rfl, rfl, rfl, trivial⟩ ?_
  refine cw_seq ?_
  refine cw_region ?_
  refine wl_assign rfl rfl (by decide) ?_
  refine wl_nil ?_
  refine eo_then ?_
  refine cw_seq ?_
  refine cw_seq ?_
  refine cw_region ?_
  refine wl_call rfl rfl (vs := []) (by kernel_rfl) (by decide) ((law_wakes _).mono gbool) ?_
  rintro _ v1 ⟨xr3, rfl, r3, e2⟩
  refine ret_intro ?_
  have hw1 : Ext w v1 := (Ext.refl w).trans e2
  obtain rfl := r3
  refine wl_pure rfl rfl (v := .bool false) (by decide) (by kernel_rfl) ?_
  refine wl_nil ?_
  refine eo_then ?_
  refine cw_false rfl ?_
  refine cw_skip ?_
  refine eo_then ?_
  refine cw_seq ?_
  refine cw_region ?_
  refine wl_move rfl rfl (by decide) ?_
  refine wl_move rfl rfl (by decide) ?_
  refine wl_pure rfl rfl (v := .agg #[.int .i64 2, .slice A n cap, .slice B n' cap', .int .u64 0, .int .i64 0]) (by decide) (by kernel_rfl) ?_
  refine wl_call rfl rfl (vs := [.agg #[.int .i64 2, .slice A n cap, .slice B n' cap', .int .u64 0, .int .i64 0]]) (by kernel_rfl) (by decide) (g_right3 (hx.ext hw1) hl (hy.ext hw1) hl' (Nat.zero_le _) (by decide)) ?_
  rintro _ v4 ⟨xr6, rfl, r6, e5⟩
  refine ret_intro ?_
  have hw2 : Ext w v4 := hw1.trans e5
  obtain rfl := r6
  refine wl_assign rfl rfl (by decide) ?_
  refine wl_nil ?_
  refine eo_then ?_
  refine cw_seq ?_
  refine cw_region ?_
  refine wl_move rfl rfl (by decide) ?_
  refine wl_move rfl rfl (by decide) ?_
  refine wl_pure rfl rfl (v := .agg #[.int .i64 3, .slice A n cap, .slice B n' cap', .int .u64 0, .int .i64 0]) (by decide) (by kernel_rfl) ?_
  refine wl_call rfl rfl (vs := [.agg #[.int .i64 3, .slice A n cap, .slice B n' cap', .int .u64 0, .int .i64 0]]) (by kernel_rfl) (by decide) (g_right3 (hx.ext hw2) hl (hy.ext hw2) hl' (Nat.zero_le _) (by decide)) ?_
  rintro _ v7 ⟨xr9, rfl, r9, e8⟩
  refine ret_intro ?_
  have hw3 : Ext w v7 := hw2.trans e8
  obtain rfl := r9
  refine wl_assign rfl rfl (by decide) ?_
  refine wl_nil ?_
  refine eo_then ?_
  refine cw_seq ?_
  refine cw_region ?_
  refine wl_move rfl rfl (by decide) ?_
  refine wl_move rfl rfl (by decide) ?_
  refine wl_pure rfl rfl (v := .agg #[.int .i64 1, .slice A n cap, .slice none 0 0, .int .u64 ((v : Nat) : Int), .int .i64 0]) (by decide) (by kernel_rfl) ?_
  refine wl_call rfl rfl (vs := [.agg #[.int .i64 1, .slice A n cap, .slice none 0 0, .int .u64 ((v : Nat) : Int), .int .i64 0]]) (by kernel_rfl) (by decide) (g_right3 (hx.ext hw3) hl (Wi_nil _) (Nat.zero_le _) hv (by decide)) ?_
  rintro _ v10 ⟨xr12, rfl, r12, e11⟩
  refine ret_intro ?_
  have hw4 : Ext w v10 := hw3.trans e11
  obtain rfl := r12
  refine wl_assign rfl rfl (by decide) ?_
  refine wl_nil ?_
  refine eo_then ?_
  refine cw_seq ?_
  refine cw_region ?_
  refine wl_move rfl rfl (by decide) ?_
  refine wl_move rfl rfl (by decide) ?_
  refine wl_move rfl rfl (by decide) ?_
  refine wl_pure rfl rfl (v := .bool true) (by decide) (by kernel_rfl) ?_
  refine wl_move rfl rfl (by decide) ?_
  refine wl_move rfl rfl (by decide) ?_
  refine wl_pure rfl rfl (v := .bool true) (by decide) (by kernel_rfl) ?_
  refine wl_assign rfl rfl (by decide) ?_
  refine wl_nil ?_
  refine eo_then ?_
  refine cw_ret ?_
  refine eo_ret [.bool true] rfl ⟨rfl, trivial⟩ ?_
  exact ⟨_, rfl, rfl, hw4⟩
theorem law_DivnatDivides {w : World} {A B : Option Addr} {n cap n' cap' v : Nat} {xs ys : List Nat} (hx : Rd w A n cap xs) (hl : n ≤ 1048576) (hy : Rd w B n' cap' ys) (hl' : n' ≤ 1048576) (hv : v ≤ 18446744073709551615) : Calls Try.prog 3 #[.slice A n cap, .slice B n' cap', .int .u64 ((v : Nat) : Int)] w (BoolP true w) := (law_DivnatDividesP ⟨_, hx, rfl⟩ hl ⟨_, hy, rfl⟩ hl' hv).mono fun e w' h => bool_of3 _ _ h
end Go.Proofs.Ythggegdkpalgbaa
