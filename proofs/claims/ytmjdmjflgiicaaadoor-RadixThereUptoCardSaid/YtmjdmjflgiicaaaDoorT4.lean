/- Parts Law4t, joined. -/
import Derived.Test.YtmjdmjflgiicaaaDoorT3

namespace Go.Proofs.YtmjdmjflgiicaaaDoor
open Go.RowKit
/-- what the law's sign says -/
def sgv (c : Nat) : Int := if dv c < 36 then (dv c : Int) else -1
set_option maxHeartbeats 4000000 in
theorem g_law4_sign {w : World} {c : Nat} {b : Int} (hc : c ≤ 255) :
    Calls Tryd.prog 35 #[.int .u8 ((c : Nat) : Int), .int .i64 b] w (Gv w (T2 (Is (.int .i64 (sgv c))) (Is (.bool (decide (0 ≤ sgv c ∧ sgv c < b)))))) := by
  refine sx_enter Tryd.func35 rfl (n := 47) rfl (Nat.le_of_ble_eq_true rfl) (args := [.int .u8 ((c : Nat) : Int), .int .i64 b]) ?_
  refine cw_keep [(0, .int .u8 ((c : Nat) : Int)), (1, .int .i64 b)] ⟨rfl, rfl, trivial⟩ ?_
  refine cw_seq ?_
  refine cw_region ?_
  refine wl_assign rfl rfl (by decide) ?_
  refine wl_assign rfl rfl (by decide) ?_
  refine wl_nil ?_
  refine eo_then ?_
  refine cw_seq ?_
  refine cw_region ?_
  refine wl_assign rfl rfl (by decide) ?_
  refine wl_nil ?_
  refine eo_then ?_
  refine cw_seq ?_
  refine cw_block ?_
  refine cw_seq ?_
  by_cases ha48 : c ≥ 48
  ·
    by_cases hb57 : c ≤ 57
    ·
      refine cw_region ?_
      refine wl_move rfl rfl (by decide) ?_
      refine wl_cmp rfl rfl rfl true (cb_ge_t (a := c) (b := 48) rfl rfl (by omega)) (by decide) ?_
      refine wl_move rfl rfl (by decide) ?_
      refine wl_move rfl rfl (by decide) ?_
      refine wl_cmp rfl rfl rfl true (cb_le_t (a := c) (b := 57) rfl rfl (by omega)) (by decide) ?_
      refine wl_pure rfl rfl (v := .bool true) (by decide) (by kernel_rfl) ?_
      refine wl_assign rfl rfl (by decide) ?_
      refine wl_nil ?_
      refine eo_then ?_
      refine cw_true rfl ?_
      refine cw_region ?_
      refine wl_move rfl rfl (by decide) ?_
      refine wl_ar rfl rfl rfl ((c - 48 : Nat) : Int) (a8_sub (a := c) (b := 48) rfl rfl (by omega) (by omega)) (by decide) ?_
      refine wl_pureE rfl rfl (v := .int .i64 (IntKind.i64.wrap ((c - 48 : Nat) : Int))) (v' := .int .i64 ((c - 48 : Nat) : Int)) (by decide) (by kernel_rfl) (cv_i64 (by first | omega | exact hle64)) ?_
      refine wl_assign rfl rfl (by decide) ?_
      refine wl_nil ?_
      refine eo_block_normal ?_
      refine eo_then ?_
      refine cw_seq ?_
      have hv : sgv c = ((c - 48 : Nat) : Int) := by unfold sgv dv; (repeat' split) <;> omega
      by_cases hvb : sgv c < b
      ·
        refine cw_region ?_
        refine wl_move rfl rfl (by decide) ?_
        refine wl_move rfl rfl (by decide) ?_
        refine wl_cmp rfl rfl rfl true (cb_ge_t (a := c - 48) (b := 0) rfl rfl (by omega)) (by decide) ?_
        refine wl_move rfl rfl (by decide) ?_
        refine wl_move rfl rfl (by decide) ?_
        refine wl_move rfl rfl (by decide) ?_
        refine wl_cmp rfl rfl rfl true (lt_t (by omega)) (by decide) ?_
        refine wl_pure rfl rfl (v := .bool true) (by decide) (by kernel_rfl) ?_
        refine wl_assign rfl rfl (by decide) ?_
        refine wl_assign rfl rfl (by decide) ?_
        refine wl_nil ?_
        refine eo_then ?_
        refine cw_ret ?_
        refine eo_ret [.int .i64 ((c - 48 : Nat) : Int), .bool true] rfl ⟨rfl, rfl, trivial⟩ ?_
        exact ⟨_, rfl, ⟨_, _, rfl, (show Value.int .i64 (((c - 48 : Nat) : Int)) = _ by rw [hv]), (show Value.bool true = _ by rw [decide_eq_true (by omega)])⟩, (Ext.refl w)⟩
      ·
        refine cw_region ?_
        refine wl_move rfl rfl (by decide) ?_
        refine wl_move rfl rfl (by decide) ?_
        refine wl_cmp rfl rfl rfl true (cb_ge_t (a := c - 48) (b := 0) rfl rfl (by omega)) (by decide) ?_
        refine wl_move rfl rfl (by decide) ?_
        refine wl_move rfl rfl (by decide) ?_
        refine wl_move rfl rfl (by decide) ?_
        refine wl_cmp rfl rfl rfl false (lt_f (by omega)) (by decide) ?_
        refine wl_pure rfl rfl (v := .bool false) (by decide) (by kernel_rfl) ?_
        refine wl_assign rfl rfl (by decide) ?_
        refine wl_assign rfl rfl (by decide) ?_
        refine wl_nil ?_
        refine eo_then ?_
        refine cw_ret ?_
        refine eo_ret [.int .i64 ((c - 48 : Nat) : Int), .bool false] rfl ⟨rfl, rfl, trivial⟩ ?_
        exact ⟨_, rfl, ⟨_, _, rfl, (show Value.int .i64 (((c - 48 : Nat) : Int)) = _ by rw [hv]), (show Value.bool false = _ by rw [decide_eq_false (by omega)])⟩, (Ext.refl w)⟩
    ·
      refine cw_region ?_
      refine wl_move rfl rfl (by decide) ?_
      refine wl_cmp rfl rfl rfl true (cb_ge_t (a := c) (b := 48) rfl rfl (by omega)) (by decide) ?_
      refine wl_move rfl rfl (by decide) ?_
      refine wl_move rfl rfl (by decide) ?_
      refine wl_cmp rfl rfl rfl false (cb_le_f (a := c) (b := 57) rfl rfl (by omega)) (by decide) ?_
      refine wl_pure rfl rfl (v := .bool false) (by decide) (by kernel_rfl) ?_
      refine wl_assign rfl rfl (by decide) ?_
      refine wl_nil ?_
      refine eo_then ?_
      refine cw_false rfl ?_
      refine cw_seq ?_
      by_cases ha97 : c ≥ 97
      ·
        by_cases hb122 : c ≤ 122
        ·
          refine cw_region ?_
          refine wl_move rfl rfl (by decide) ?_
          refine wl_cmp rfl rfl rfl true (cb_ge_t (a := c) (b := 97) rfl rfl (by omega)) (by decide) ?_
          refine wl_move rfl rfl (by decide) ?_
          refine wl_move rfl rfl (by decide) ?_
          refine wl_cmp rfl rfl rfl true (cb_le_t (a := c) (b := 122) rfl rfl (by omega)) (by decide) ?_
          refine wl_pure rfl rfl (v := .bool true) (by decide) (by kernel_rfl) ?_
          refine wl_assign rfl rfl (by decide) ?_
          refine wl_nil ?_
          refine eo_then ?_
          refine cw_true rfl ?_
          refine cw_region ?_
          refine wl_move rfl rfl (by decide) ?_
          refine wl_ar rfl rfl rfl ((c - 97 : Nat) : Int) (a8_sub (a := c) (b := 97) rfl rfl (by omega) (by omega)) (by decide) ?_
          refine wl_pureE rfl rfl (v := .int .i64 (IntKind.i64.wrap ((c - 97 : Nat) : Int))) (v' := .int .i64 ((c - 97 : Nat) : Int)) (by decide) (by kernel_rfl) (cv_i64 (by first | omega | exact hle64)) ?_
          refine wl_ar rfl rfl rfl (((c - 97) + 10 : Nat) : Int) (ai_add (a := c - 97) (b := 10) rfl rfl (by omega)) (by decide) ?_
          refine wl_assign rfl rfl (by decide) ?_
          refine wl_nil ?_
          refine eo_block_normal ?_
          refine eo_then ?_
          refine cw_seq ?_
          have hv : sgv c = (((c - 97) + 10 : Nat) : Int) := by unfold sgv dv; (repeat' split) <;> omega
          by_cases hvb : sgv c < b
          ·
            refine cw_region ?_
            refine wl_move rfl rfl (by decide) ?_
            refine wl_move rfl rfl (by decide) ?_
            refine wl_cmp rfl rfl rfl true (cb_ge_t (a := (c - 97) + 10) (b := 0) rfl rfl (by omega)) (by decide) ?_
            refine wl_move rfl rfl (by decide) ?_
            refine wl_move rfl rfl (by decide) ?_
            refine wl_move rfl rfl (by decide) ?_
            refine wl_cmp rfl rfl rfl true (lt_t (by omega)) (by decide) ?_
            refine wl_pure rfl rfl (v := .bool true) (by decide) (by kernel_rfl) ?_
            refine wl_assign rfl rfl (by decide) ?_
            refine wl_assign rfl rfl (by decide) ?_
            refine wl_nil ?_
            refine eo_then ?_
            refine cw_ret ?_
            refine eo_ret [.int .i64 (((c - 97) + 10 : Nat) : Int), .bool true] rfl ⟨rfl, rfl, trivial⟩ ?_
            exact ⟨_, rfl, ⟨_, _, rfl, (show Value.int .i64 ((((c - 97) + 10 : Nat) : Int)) = _ by rw [hv]), (show Value.bool true = _ by rw [decide_eq_true (by omega)])⟩, (Ext.refl w)⟩
          ·
            refine cw_region ?_
            refine wl_move rfl rfl (by decide) ?_
            refine wl_move rfl rfl (by decide) ?_
            refine wl_cmp rfl rfl rfl true (cb_ge_t (a := (c - 97) + 10) (b := 0) rfl rfl (by omega)) (by decide) ?_
            refine wl_move rfl rfl (by decide) ?_
            refine wl_move rfl rfl (by decide) ?_
            refine wl_move rfl rfl (by decide) ?_
            refine wl_cmp rfl rfl rfl false (lt_f (by omega)) (by decide) ?_
            refine wl_pure rfl rfl (v := .bool false) (by decide) (by kernel_rfl) ?_
            refine wl_assign rfl rfl (by decide) ?_
            refine wl_assign rfl rfl (by decide) ?_
            refine wl_nil ?_
            refine eo_then ?_
            refine cw_ret ?_
            refine eo_ret [.int .i64 (((c - 97) + 10 : Nat) : Int), .bool false] rfl ⟨rfl, rfl, trivial⟩ ?_
            exact ⟨_, rfl, ⟨_, _, rfl, (show Value.int .i64 ((((c - 97) + 10 : Nat) : Int)) = _ by rw [hv]), (show Value.bool false = _ by rw [decide_eq_false (by omega)])⟩, (Ext.refl w)⟩
        ·
          refine cw_region ?_
          refine wl_move rfl rfl (by decide) ?_
          refine wl_cmp rfl rfl rfl true (cb_ge_t (a := c) (b := 97) rfl rfl (by omega)) (by decide) ?_
          refine wl_move rfl rfl (by decide) ?_
          refine wl_move rfl rfl (by decide) ?_
          refine wl_cmp rfl rfl rfl false (cb_le_f (a := c) (b := 122) rfl rfl (by omega)) (by decide) ?_
          refine wl_pure rfl rfl (v := .bool false) (by decide) (by kernel_rfl) ?_
          refine wl_assign rfl rfl (by decide) ?_
          refine wl_nil ?_
          refine eo_then ?_
          refine cw_false rfl ?_
          refine cw_seq ?_
          by_cases ha65 : c ≥ 65
          ·
            by_cases hb90 : c ≤ 90
            ·
              refine cw_region ?_
              refine wl_move rfl rfl (by decide) ?_
              refine wl_cmp rfl rfl rfl true (cb_ge_t (a := c) (b := 65) rfl rfl (by omega)) (by decide) ?_
              refine wl_move rfl rfl (by decide) ?_
              refine wl_move rfl rfl (by decide) ?_
              refine wl_cmp rfl rfl rfl true (cb_le_t (a := c) (b := 90) rfl rfl (by omega)) (by decide) ?_
              refine wl_pure rfl rfl (v := .bool true) (by decide) (by kernel_rfl) ?_
              refine wl_assign rfl rfl (by decide) ?_
              refine wl_nil ?_
              refine eo_then ?_
              refine cw_true rfl ?_
              refine cw_region ?_
              refine wl_move rfl rfl (by decide) ?_
              refine wl_ar rfl rfl rfl ((c - 65 : Nat) : Int) (a8_sub (a := c) (b := 65) rfl rfl (by omega) (by omega)) (by decide) ?_
              refine wl_pureE rfl rfl (v := .int .i64 (IntKind.i64.wrap ((c - 65 : Nat) : Int))) (v' := .int .i64 ((c - 65 : Nat) : Int)) (by decide) (by kernel_rfl) (cv_i64 (by first | omega | exact hle64)) ?_
              refine wl_ar rfl rfl rfl (((c - 65) + 10 : Nat) : Int) (ai_add (a := c - 65) (b := 10) rfl rfl (by omega)) (by decide) ?_
              refine wl_assign rfl rfl (by decide) ?_
              refine wl_nil ?_
              refine eo_block_normal ?_
              refine eo_then ?_
              refine cw_seq ?_
              have hv : sgv c = (((c - 65) + 10 : Nat) : Int) := by unfold sgv dv; (repeat' split) <;> omega
              by_cases hvb : sgv c < b
              ·
                refine cw_region ?_
                refine wl_move rfl rfl (by decide) ?_
                refine wl_move rfl rfl (by decide) ?_
                refine wl_cmp rfl rfl rfl true (cb_ge_t (a := (c - 65) + 10) (b := 0) rfl rfl (by omega)) (by decide) ?_
                refine wl_move rfl rfl (by decide) ?_
                refine wl_move rfl rfl (by decide) ?_
                refine wl_move rfl rfl (by decide) ?_
                refine wl_cmp rfl rfl rfl true (lt_t (by omega)) (by decide) ?_
                refine wl_pure rfl rfl (v := .bool true) (by decide) (by kernel_rfl) ?_
                refine wl_assign rfl rfl (by decide) ?_
                refine wl_assign rfl rfl (by decide) ?_
                refine wl_nil ?_
                refine eo_then ?_
                refine cw_ret ?_
                refine eo_ret [.int .i64 (((c - 65) + 10 : Nat) : Int), .bool true] rfl ⟨rfl, rfl, trivial⟩ ?_
                exact ⟨_, rfl, ⟨_, _, rfl, (show Value.int .i64 ((((c - 65) + 10 : Nat) : Int)) = _ by rw [hv]), (show Value.bool true = _ by rw [decide_eq_true (by omega)])⟩, (Ext.refl w)⟩
              ·
                refine cw_region ?_
                refine wl_move rfl rfl (by decide) ?_
                refine wl_move rfl rfl (by decide) ?_
                refine wl_cmp rfl rfl rfl true (cb_ge_t (a := (c - 65) + 10) (b := 0) rfl rfl (by omega)) (by decide) ?_
                refine wl_move rfl rfl (by decide) ?_
                refine wl_move rfl rfl (by decide) ?_
                refine wl_move rfl rfl (by decide) ?_
                refine wl_cmp rfl rfl rfl false (lt_f (by omega)) (by decide) ?_
                refine wl_pure rfl rfl (v := .bool false) (by decide) (by kernel_rfl) ?_
                refine wl_assign rfl rfl (by decide) ?_
                refine wl_assign rfl rfl (by decide) ?_
                refine wl_nil ?_
                refine eo_then ?_
                refine cw_ret ?_
                refine eo_ret [.int .i64 (((c - 65) + 10 : Nat) : Int), .bool false] rfl ⟨rfl, rfl, trivial⟩ ?_
                exact ⟨_, rfl, ⟨_, _, rfl, (show Value.int .i64 ((((c - 65) + 10 : Nat) : Int)) = _ by rw [hv]), (show Value.bool false = _ by rw [decide_eq_false (by omega)])⟩, (Ext.refl w)⟩
            ·
              refine cw_region ?_
              refine wl_move rfl rfl (by decide) ?_
              refine wl_cmp rfl rfl rfl true (cb_ge_t (a := c) (b := 65) rfl rfl (by omega)) (by decide) ?_
              refine wl_move rfl rfl (by decide) ?_
              refine wl_move rfl rfl (by decide) ?_
              refine wl_cmp rfl rfl rfl false (cb_le_f (a := c) (b := 90) rfl rfl (by omega)) (by decide) ?_
              refine wl_pure rfl rfl (v := .bool false) (by decide) (by kernel_rfl) ?_
              refine wl_assign rfl rfl (by decide) ?_
              refine wl_nil ?_
              refine eo_then ?_
              refine cw_false rfl ?_
              refine cw_skip ?_
              refine eo_block_normal ?_
              refine eo_then ?_
              refine cw_seq ?_
              have h36 : ¬ dv c < 36 := by unfold dv; (repeat' split) <;> omega
              have hv : sgv c = -1 := by unfold sgv; rw [if_neg h36]
              refine cw_region ?_
              refine wl_move rfl rfl (by decide) ?_
              refine wl_move rfl rfl (by decide) ?_
              refine wl_cmp rfl rfl rfl false (by decide) (by decide) ?_
              refine wl_move rfl rfl (by decide) ?_
              refine wl_off rfl (by decide) ?_
              refine wl_off rfl (by decide) ?_
              refine wl_off rfl (by decide) ?_
              refine wl_pure rfl rfl (v := .bool false) (by decide) (by kernel_rfl) ?_
              refine wl_assign rfl rfl (by decide) ?_
              refine wl_assign rfl rfl (by decide) ?_
              refine wl_nil ?_
              refine eo_then ?_
              refine cw_ret ?_
              refine eo_ret [.int .i64 (-1), .bool false] rfl ⟨rfl, rfl, trivial⟩ ?_
              exact ⟨_, rfl, ⟨_, _, rfl, (show Value.int .i64 (-1) = _ by rw [hv]), (show Value.bool false = _ by rw [decide_eq_false (by omega)])⟩, (Ext.refl w)⟩
          ·
            refine cw_region ?_
            refine wl_move rfl rfl (by decide) ?_
            refine wl_cmp rfl rfl rfl false (cb_ge_f (a := c) (b := 65) rfl rfl (by omega)) (by decide) ?_
            refine wl_move rfl rfl (by decide) ?_
            refine wl_off rfl (by decide) ?_
            refine wl_off rfl (by decide) ?_
            refine wl_pure rfl rfl (v := .bool false) (by decide) (by kernel_rfl) ?_
            refine wl_assign rfl rfl (by decide) ?_
            refine wl_nil ?_
            refine eo_then ?_
            refine cw_false rfl ?_
            refine cw_skip ?_
            refine eo_block_normal ?_
            refine eo_then ?_
            refine cw_seq ?_
            have h36 : ¬ dv c < 36 := by unfold dv; (repeat' split) <;> omega
            have hv : sgv c = -1 := by unfold sgv; rw [if_neg h36]
            refine cw_region ?_
            refine wl_move rfl rfl (by decide) ?_
            refine wl_move rfl rfl (by decide) ?_
            refine wl_cmp rfl rfl rfl false (by decide) (by decide) ?_
            refine wl_move rfl rfl (by decide) ?_
            refine wl_off rfl (by decide) ?_
            refine wl_off rfl (by decide) ?_
            refine wl_off rfl (by decide) ?_
            refine wl_pure rfl rfl (v := .bool false) (by decide) (by kernel_rfl) ?_
            refine wl_assign rfl rfl (by decide) ?_
            refine wl_assign rfl rfl (by decide) ?_
            refine wl_nil ?_
            refine eo_then ?_
            refine cw_ret ?_
            refine eo_ret [.int .i64 (-1), .bool false] rfl ⟨rfl, rfl, trivial⟩ ?_
            exact ⟨_, rfl, ⟨_, _, rfl, (show Value.int .i64 (-1) = _ by rw [hv]), (show Value.bool false = _ by rw [decide_eq_false (by omega)])⟩, (Ext.refl w)⟩
      ·
        refine cw_region ?_
        refine wl_move rfl rfl (by decide) ?_
        refine wl_cmp rfl rfl rfl false (cb_ge_f (a := c) (b := 97) rfl rfl (by omega)) (by decide) ?_
        refine wl_move rfl rfl (by decide) ?_
        refine wl_off rfl (by decide) ?_
        refine wl_off rfl (by decide) ?_
        refine wl_pure rfl rfl (v := .bool false) (by decide) (by kernel_rfl) ?_
        refine wl_assign rfl rfl (by decide) ?_
        refine wl_nil ?_
        refine eo_then ?_
        refine cw_false rfl ?_
        refine cw_seq ?_
        by_cases ha65 : c ≥ 65
        ·
          by_cases hb90 : c ≤ 90
          ·
            refine cw_region ?_
            refine wl_move rfl rfl (by decide) ?_
            refine wl_cmp rfl rfl rfl true (cb_ge_t (a := c) (b := 65) rfl rfl (by omega)) (by decide) ?_
            refine wl_move rfl rfl (by decide) ?_
            refine wl_move rfl rfl (by decide) ?_
            refine wl_cmp rfl rfl rfl true (cb_le_t (a := c) (b := 90) rfl rfl (by omega)) (by decide) ?_
            refine wl_pure rfl rfl (v := .bool true) (by decide) (by kernel_rfl) ?_
            refine wl_assign rfl rfl (by decide) ?_
            refine wl_nil ?_
            refine eo_then ?_
            refine cw_true rfl ?_
            refine cw_region ?_
            refine wl_move rfl rfl (by decide) ?_
            refine wl_ar rfl rfl rfl ((c - 65 : Nat) : Int) (a8_sub (a := c) (b := 65) rfl rfl (by omega) (by omega)) (by decide) ?_
            refine wl_pureE rfl rfl (v := .int .i64 (IntKind.i64.wrap ((c - 65 : Nat) : Int))) (v' := .int .i64 ((c - 65 : Nat) : Int)) (by decide) (by kernel_rfl) (cv_i64 (by first | omega | exact hle64)) ?_
            refine wl_ar rfl rfl rfl (((c - 65) + 10 : Nat) : Int) (ai_add (a := c - 65) (b := 10) rfl rfl (by omega)) (by decide) ?_
            refine wl_assign rfl rfl (by decide) ?_
            refine wl_nil ?_
            refine eo_block_normal ?_
            refine eo_then ?_
            refine cw_seq ?_
            have hv : sgv c = (((c - 65) + 10 : Nat) : Int) := by unfold sgv dv; (repeat' split) <;> omega
            by_cases hvb : sgv c < b
            ·
              refine cw_region ?_
              refine wl_move rfl rfl (by decide) ?_
              refine wl_move rfl rfl (by decide) ?_
              refine wl_cmp rfl rfl rfl true (cb_ge_t (a := (c - 65) + 10) (b := 0) rfl rfl (by omega)) (by decide) ?_
              refine wl_move rfl rfl (by decide) ?_
              refine wl_move rfl rfl (by decide) ?_
              refine wl_move rfl rfl (by decide) ?_
              refine wl_cmp rfl rfl rfl true (lt_t (by omega)) (by decide) ?_
              refine wl_pure rfl rfl (v := .bool true) (by decide) (by kernel_rfl) ?_
              refine wl_assign rfl rfl (by decide) ?_
              refine wl_assign rfl rfl (by decide) ?_
              refine wl_nil ?_
              refine eo_then ?_
              refine cw_ret ?_
              refine eo_ret [.int .i64 (((c - 65) + 10 : Nat) : Int), .bool true] rfl ⟨rfl, rfl, trivial⟩ ?_
              exact ⟨_, rfl, ⟨_, _, rfl, (show Value.int .i64 ((((c - 65) + 10 : Nat) : Int)) = _ by rw [hv]), (show Value.bool true = _ by rw [decide_eq_true (by omega)])⟩, (Ext.refl w)⟩
            ·
              refine cw_region ?_
              refine wl_move rfl rfl (by decide) ?_
              refine wl_move rfl rfl (by decide) ?_
              refine wl_cmp rfl rfl rfl true (cb_ge_t (a := (c - 65) + 10) (b := 0) rfl rfl (by omega)) (by decide) ?_
              refine wl_move rfl rfl (by decide) ?_
              refine wl_move rfl rfl (by decide) ?_
              refine wl_move rfl rfl (by decide) ?_
              refine wl_cmp rfl rfl rfl false (lt_f (by omega)) (by decide) ?_
              refine wl_pure rfl rfl (v := .bool false) (by decide) (by kernel_rfl) ?_
              refine wl_assign rfl rfl (by decide) ?_
              refine wl_assign rfl rfl (by decide) ?_
              refine wl_nil ?_
              refine eo_then ?_
              refine cw_ret ?_
              refine eo_ret [.int .i64 (((c - 65) + 10 : Nat) : Int), .bool false] rfl ⟨rfl, rfl, trivial⟩ ?_
              exact ⟨_, rfl, ⟨_, _, rfl, (show Value.int .i64 ((((c - 65) + 10 : Nat) : Int)) = _ by rw [hv]), (show Value.bool false = _ by rw [decide_eq_false (by omega)])⟩, (Ext.refl w)⟩
          ·
            refine cw_region ?_
            refine wl_move rfl rfl (by decide) ?_
            refine wl_cmp rfl rfl rfl true (cb_ge_t (a := c) (b := 65) rfl rfl (by omega)) (by decide) ?_
            refine wl_move rfl rfl (by decide) ?_
            refine wl_move rfl rfl (by decide) ?_
            refine wl_cmp rfl rfl rfl false (cb_le_f (a := c) (b := 90) rfl rfl (by omega)) (by decide) ?_
            refine wl_pure rfl rfl (v := .bool false) (by decide) (by kernel_rfl) ?_
            refine wl_assign rfl rfl (by decide) ?_
            refine wl_nil ?_
            refine eo_then ?_
            refine cw_false rfl ?_
            refine cw_skip ?_
            refine eo_block_normal ?_
            refine eo_then ?_
            refine cw_seq ?_
            have h36 : ¬ dv c < 36 := by unfold dv; (repeat' split) <;> omega
            have hv : sgv c = -1 := by unfold sgv; rw [if_neg h36]
            refine cw_region ?_
            refine wl_move rfl rfl (by decide) ?_
            refine wl_move rfl rfl (by decide) ?_
            refine wl_cmp rfl rfl rfl false (by decide) (by decide) ?_
            refine wl_move rfl rfl (by decide) ?_
            refine wl_off rfl (by decide) ?_
            refine wl_off rfl (by decide) ?_
            refine wl_off rfl (by decide) ?_
            refine wl_pure rfl rfl (v := .bool false) (by decide) (by kernel_rfl) ?_
            refine wl_assign rfl rfl (by decide) ?_
            refine wl_assign rfl rfl (by decide) ?_
            refine wl_nil ?_
            refine eo_then ?_
            refine cw_ret ?_
            refine eo_ret [.int .i64 (-1), .bool false] rfl ⟨rfl, rfl, trivial⟩ ?_
            exact ⟨_, rfl, ⟨_, _, rfl, (show Value.int .i64 (-1) = _ by rw [hv]), (show Value.bool false = _ by rw [decide_eq_false (by omega)])⟩, (Ext.refl w)⟩
        ·
          refine cw_region ?_
          refine wl_move rfl rfl (by decide) ?_
          refine wl_cmp rfl rfl rfl false (cb_ge_f (a := c) (b := 65) rfl rfl (by omega)) (by decide) ?_
          refine wl_move rfl rfl (by decide) ?_
          refine wl_off rfl (by decide) ?_
          refine wl_off rfl (by decide) ?_
          refine wl_pure rfl rfl (v := .bool false) (by decide) (by kernel_rfl) ?_
          refine wl_assign rfl rfl (by decide) ?_
          refine wl_nil ?_
          refine eo_then ?_
          refine cw_false rfl ?_
          refine cw_skip ?_
          refine eo_block_normal ?_
          refine eo_then ?_
          refine cw_seq ?_
          have h36 : ¬ dv c < 36 := by unfold dv; (repeat' split) <;> omega
          have hv : sgv c = -1 := by unfold sgv; rw [if_neg h36]
          refine cw_region ?_
          refine wl_move rfl rfl (by decide) ?_
          refine wl_move rfl rfl (by decide) ?_
          refine wl_cmp rfl rfl rfl false (by decide) (by decide) ?_
          refine wl_move rfl rfl (by decide) ?_
          refine wl_off rfl (by decide) ?_
          refine wl_off rfl (by decide) ?_
          refine wl_off rfl (by decide) ?_
          refine wl_pure rfl rfl (v := .bool false) (by decide) (by kernel_rfl) ?_
          refine wl_assign rfl rfl (by decide) ?_
          refine wl_assign rfl rfl (by decide) ?_
          refine wl_nil ?_
          refine eo_then ?_
          refine cw_ret ?_
          refine eo_ret [.int .i64 (-1), .bool false] rfl ⟨rfl, rfl, trivial⟩ ?_
          exact ⟨_, rfl, ⟨_, _, rfl, (show Value.int .i64 (-1) = _ by rw [hv]), (show Value.bool false = _ by rw [decide_eq_false (by omega)])⟩, (Ext.refl w)⟩
  ·
    refine cw_region ?_
    refine wl_move rfl rfl (by decide) ?_
    refine wl_cmp rfl rfl rfl false (cb_ge_f (a := c) (b := 48) rfl rfl (by omega)) (by decide) ?_
    refine wl_move rfl rfl (by decide) ?_
    refine wl_off rfl (by decide) ?_
    refine wl_off rfl (by decide) ?_
    refine wl_pure rfl rfl (v := .bool false) (by decide) (by kernel_rfl) ?_
    refine wl_assign rfl rfl (by decide) ?_
    refine wl_nil ?_
    refine eo_then ?_
    refine cw_false rfl ?_
    refine cw_seq ?_
    by_cases ha97 : c ≥ 97
    ·
      by_cases hb122 : c ≤ 122
      ·
        refine cw_region ?_
        refine wl_move rfl rfl (by decide) ?_
        refine wl_cmp rfl rfl rfl true (cb_ge_t (a := c) (b := 97) rfl rfl (by omega)) (by decide) ?_
        refine wl_move rfl rfl (by decide) ?_
        refine wl_move rfl rfl (by decide) ?_
        refine wl_cmp rfl rfl rfl true (cb_le_t (a := c) (b := 122) rfl rfl (by omega)) (by decide) ?_
        refine wl_pure rfl rfl (v := .bool true) (by decide) (by kernel_rfl) ?_
        refine wl_assign rfl rfl (by decide) ?_
        refine wl_nil ?_
        refine eo_then ?_
        refine cw_true rfl ?_
        refine cw_region ?_
        refine wl_move rfl rfl (by decide) ?_
        refine wl_ar rfl rfl rfl ((c - 97 : Nat) : Int) (a8_sub (a := c) (b := 97) rfl rfl (by omega) (by omega)) (by decide) ?_
        refine wl_pureE rfl rfl (v := .int .i64 (IntKind.i64.wrap ((c - 97 : Nat) : Int))) (v' := .int .i64 ((c - 97 : Nat) : Int)) (by decide) (by kernel_rfl) (cv_i64 (by first | omega | exact hle64)) ?_
        refine wl_ar rfl rfl rfl (((c - 97) + 10 : Nat) : Int) (ai_add (a := c - 97) (b := 10) rfl rfl (by omega)) (by decide) ?_
        refine wl_assign rfl rfl (by decide) ?_
        refine wl_nil ?_
        refine eo_block_normal ?_
        refine eo_then ?_
        refine cw_seq ?_
        have hv : sgv c = (((c - 97) + 10 : Nat) : Int) := by unfold sgv dv; (repeat' split) <;> omega
        by_cases hvb : sgv c < b
        ·
          refine cw_region ?_
          refine wl_move rfl rfl (by decide) ?_
          refine wl_move rfl rfl (by decide) ?_
          refine wl_cmp rfl rfl rfl true (cb_ge_t (a := (c - 97) + 10) (b := 0) rfl rfl (by omega)) (by decide) ?_
          refine wl_move rfl rfl (by decide) ?_
          refine wl_move rfl rfl (by decide) ?_
          refine wl_move rfl rfl (by decide) ?_
          refine wl_cmp rfl rfl rfl true (lt_t (by omega)) (by decide) ?_
          refine wl_pure rfl rfl (v := .bool true) (by decide) (by kernel_rfl) ?_
          refine wl_assign rfl rfl (by decide) ?_
          refine wl_assign rfl rfl (by decide) ?_
          refine wl_nil ?_
          refine eo_then ?_
          refine cw_ret ?_
          refine eo_ret [.int .i64 (((c - 97) + 10 : Nat) : Int), .bool true] rfl ⟨rfl, rfl, trivial⟩ ?_
          exact ⟨_, rfl, ⟨_, _, rfl, (show Value.int .i64 ((((c - 97) + 10 : Nat) : Int)) = _ by rw [hv]), (show Value.bool true = _ by rw [decide_eq_true (by omega)])⟩, (Ext.refl w)⟩
        ·
          refine cw_region ?_
          refine wl_move rfl rfl (by decide) ?_
          refine wl_move rfl rfl (by decide) ?_
          refine wl_cmp rfl rfl rfl true (cb_ge_t (a := (c - 97) + 10) (b := 0) rfl rfl (by omega)) (by decide) ?_
          refine wl_move rfl rfl (by decide) ?_
          refine wl_move rfl rfl (by decide) ?_
          refine wl_move rfl rfl (by decide) ?_
          refine wl_cmp rfl rfl rfl false (lt_f (by omega)) (by decide) ?_
          refine wl_pure rfl rfl (v := .bool false) (by decide) (by kernel_rfl) ?_
          refine wl_assign rfl rfl (by decide) ?_
          refine wl_assign rfl rfl (by decide) ?_
          refine wl_nil ?_
          refine eo_then ?_
          refine cw_ret ?_
          refine eo_ret [.int .i64 (((c - 97) + 10 : Nat) : Int), .bool false] rfl ⟨rfl, rfl, trivial⟩ ?_
          exact ⟨_, rfl, ⟨_, _, rfl, (show Value.int .i64 ((((c - 97) + 10 : Nat) : Int)) = _ by rw [hv]), (show Value.bool false = _ by rw [decide_eq_false (by omega)])⟩, (Ext.refl w)⟩
      ·
        refine cw_region ?_
        refine wl_move rfl rfl (by decide) ?_
        refine wl_cmp rfl rfl rfl true (cb_ge_t (a := c) (b := 97) rfl rfl (by omega)) (by decide) ?_
        refine wl_move rfl rfl (by decide) ?_
        refine wl_move rfl rfl (by decide) ?_
        refine wl_cmp rfl rfl rfl false (cb_le_f (a := c) (b := 122) rfl rfl (by omega)) (by decide) ?_
        refine wl_pure rfl rfl (v := .bool false) (by decide) (by kernel_rfl) ?_
        refine wl_assign rfl rfl (by decide) ?_
        refine wl_nil ?_
        refine eo_then ?_
        refine cw_false rfl ?_
        refine cw_seq ?_
        by_cases ha65 : c ≥ 65
        ·
          by_cases hb90 : c ≤ 90
          ·
            refine cw_region ?_
            refine wl_move rfl rfl (by decide) ?_
            refine wl_cmp rfl rfl rfl true (cb_ge_t (a := c) (b := 65) rfl rfl (by omega)) (by decide) ?_
            refine wl_move rfl rfl (by decide) ?_
            refine wl_move rfl rfl (by decide) ?_
            refine wl_cmp rfl rfl rfl true (cb_le_t (a := c) (b := 90) rfl rfl (by omega)) (by decide) ?_
            refine wl_pure rfl rfl (v := .bool true) (by decide) (by kernel_rfl) ?_
            refine wl_assign rfl rfl (by decide) ?_
            refine wl_nil ?_
            refine eo_then ?_
            refine cw_true rfl ?_
            refine cw_region ?_
            refine wl_move rfl rfl (by decide) ?_
            refine wl_ar rfl rfl rfl ((c - 65 : Nat) : Int) (a8_sub (a := c) (b := 65) rfl rfl (by omega) (by omega)) (by decide) ?_
            refine wl_pureE rfl rfl (v := .int .i64 (IntKind.i64.wrap ((c - 65 : Nat) : Int))) (v' := .int .i64 ((c - 65 : Nat) : Int)) (by decide) (by kernel_rfl) (cv_i64 (by first | omega | exact hle64)) ?_
            refine wl_ar rfl rfl rfl (((c - 65) + 10 : Nat) : Int) (ai_add (a := c - 65) (b := 10) rfl rfl (by omega)) (by decide) ?_
            refine wl_assign rfl rfl (by decide) ?_
            refine wl_nil ?_
            refine eo_block_normal ?_
            refine eo_then ?_
            refine cw_seq ?_
            have hv : sgv c = (((c - 65) + 10 : Nat) : Int) := by unfold sgv dv; (repeat' split) <;> omega
            by_cases hvb : sgv c < b
            ·
              refine cw_region ?_
              refine wl_move rfl rfl (by decide) ?_
              refine wl_move rfl rfl (by decide) ?_
              refine wl_cmp rfl rfl rfl true (cb_ge_t (a := (c - 65) + 10) (b := 0) rfl rfl (by omega)) (by decide) ?_
              refine wl_move rfl rfl (by decide) ?_
              refine wl_move rfl rfl (by decide) ?_
              refine wl_move rfl rfl (by decide) ?_
              refine wl_cmp rfl rfl rfl true (lt_t (by omega)) (by decide) ?_
              refine wl_pure rfl rfl (v := .bool true) (by decide) (by kernel_rfl) ?_
              refine wl_assign rfl rfl (by decide) ?_
              refine wl_assign rfl rfl (by decide) ?_
              refine wl_nil ?_
              refine eo_then ?_
              refine cw_ret ?_
              refine eo_ret [.int .i64 (((c - 65) + 10 : Nat) : Int), .bool true] rfl ⟨rfl, rfl, trivial⟩ ?_
              exact ⟨_, rfl, ⟨_, _, rfl, (show Value.int .i64 ((((c - 65) + 10 : Nat) : Int)) = _ by rw [hv]), (show Value.bool true = _ by rw [decide_eq_true (by omega)])⟩, (Ext.refl w)⟩
            ·
              refine cw_region ?_
              refine wl_move rfl rfl (by decide) ?_
              refine wl_move rfl rfl (by decide) ?_
              refine wl_cmp rfl rfl rfl true (cb_ge_t (a := (c - 65) + 10) (b := 0) rfl rfl (by omega)) (by decide) ?_
              refine wl_move rfl rfl (by decide) ?_
              refine wl_move rfl rfl (by decide) ?_
              refine wl_move rfl rfl (by decide) ?_
              refine wl_cmp rfl rfl rfl false (lt_f (by omega)) (by decide) ?_
              refine wl_pure rfl rfl (v := .bool false) (by decide) (by kernel_rfl) ?_
              refine wl_assign rfl rfl (by decide) ?_
              refine wl_assign rfl rfl (by decide) ?_
              refine wl_nil ?_
              refine eo_then ?_
              refine cw_ret ?_
              refine eo_ret [.int .i64 (((c - 65) + 10 : Nat) : Int), .bool false] rfl ⟨rfl, rfl, trivial⟩ ?_
              exact ⟨_, rfl, ⟨_, _, rfl, (show Value.int .i64 ((((c - 65) + 10 : Nat) : Int)) = _ by rw [hv]), (show Value.bool false = _ by rw [decide_eq_false (by omega)])⟩, (Ext.refl w)⟩
          ·
            refine cw_region ?_
            refine wl_move rfl rfl (by decide) ?_
            refine wl_cmp rfl rfl rfl true (cb_ge_t (a := c) (b := 65) rfl rfl (by omega)) (by decide) ?_
            refine wl_move rfl rfl (by decide) ?_
            refine wl_move rfl rfl (by decide) ?_
            refine wl_cmp rfl rfl rfl false (cb_le_f (a := c) (b := 90) rfl rfl (by omega)) (by decide) ?_
            refine wl_pure rfl rfl (v := .bool false) (by decide) (by kernel_rfl) ?_
            refine wl_assign rfl rfl (by decide) ?_
            refine wl_nil ?_
            refine eo_then ?_
            refine cw_false rfl ?_
            refine cw_skip ?_
            refine eo_block_normal ?_
            refine eo_then ?_
            refine cw_seq ?_
            have h36 : ¬ dv c < 36 := by unfold dv; (repeat' split) <;> omega
            have hv : sgv c = -1 := by unfold sgv; rw [if_neg h36]
            refine cw_region ?_
            refine wl_move rfl rfl (by decide) ?_
            refine wl_move rfl rfl (by decide) ?_
            refine wl_cmp rfl rfl rfl false (by decide) (by decide) ?_
            refine wl_move rfl rfl (by decide) ?_
            refine wl_off rfl (by decide) ?_
            refine wl_off rfl (by decide) ?_
            refine wl_off rfl (by decide) ?_
            refine wl_pure rfl rfl (v := .bool false) (by decide) (by kernel_rfl) ?_
            refine wl_assign rfl rfl (by decide) ?_
            refine wl_assign rfl rfl (by decide) ?_
            refine wl_nil ?_
            refine eo_then ?_
            refine cw_ret ?_
            refine eo_ret [.int .i64 (-1), .bool false] rfl ⟨rfl, rfl, trivial⟩ ?_
            exact ⟨_, rfl, ⟨_, _, rfl, (show Value.int .i64 (-1) = _ by rw [hv]), (show Value.bool false = _ by rw [decide_eq_false (by omega)])⟩, (Ext.refl w)⟩
        ·
          refine cw_region ?_
          refine wl_move rfl rfl (by decide) ?_
          refine wl_cmp rfl rfl rfl false (cb_ge_f (a := c) (b := 65) rfl rfl (by omega)) (by decide) ?_
          refine wl_move rfl rfl (by decide) ?_
          refine wl_off rfl (by decide) ?_
          refine wl_off rfl (by decide) ?_
          refine wl_pure rfl rfl (v := .bool false) (by decide) (by kernel_rfl) ?_
          refine wl_assign rfl rfl (by decide) ?_
          refine wl_nil ?_
          refine eo_then ?_
          refine cw_false rfl ?_
          refine cw_skip ?_
          refine eo_block_normal ?_
          refine eo_then ?_
          refine cw_seq ?_
          have h36 : ¬ dv c < 36 := by unfold dv; (repeat' split) <;> omega
          have hv : sgv c = -1 := by unfold sgv; rw [if_neg h36]
          refine cw_region ?_
          refine wl_move rfl rfl (by decide) ?_
          refine wl_move rfl rfl (by decide) ?_
          refine wl_cmp rfl rfl rfl false (by decide) (by decide) ?_
          refine wl_move rfl rfl (by decide) ?_
          refine wl_off rfl (by decide) ?_
          refine wl_off rfl (by decide) ?_
          refine wl_off rfl (by decide) ?_
          refine wl_pure rfl rfl (v := .bool false) (by decide) (by kernel_rfl) ?_
          refine wl_assign rfl rfl (by decide) ?_
          refine wl_assign rfl rfl (by decide) ?_
          refine wl_nil ?_
          refine eo_then ?_
          refine cw_ret ?_
          refine eo_ret [.int .i64 (-1), .bool false] rfl ⟨rfl, rfl, trivial⟩ ?_
          exact ⟨_, rfl, ⟨_, _, rfl, (show Value.int .i64 (-1) = _ by rw [hv]), (show Value.bool false = _ by rw [decide_eq_false (by omega)])⟩, (Ext.refl w)⟩
    ·
      refine cw_region ?_
      refine wl_move rfl rfl (by decide) ?_
      refine wl_cmp rfl rfl rfl false (cb_ge_f (a := c) (b := 97) rfl rfl (by omega)) (by decide) ?_
      refine wl_move rfl rfl (by decide) ?_
      refine wl_off rfl (by decide) ?_
      refine wl_off rfl (by decide) ?_
      refine wl_pure rfl rfl (v := .bool false) (by decide) (by kernel_rfl) ?_
      refine wl_assign rfl rfl (by decide) ?_
      refine wl_nil ?_
      refine eo_then ?_
      refine cw_false rfl ?_
      refine cw_seq ?_
      by_cases ha65 : c ≥ 65
      ·
        by_cases hb90 : c ≤ 90
        ·
          refine cw_region ?_
          refine wl_move rfl rfl (by decide) ?_
          refine wl_cmp rfl rfl rfl true (cb_ge_t (a := c) (b := 65) rfl rfl (by omega)) (by decide) ?_
          refine wl_move rfl rfl (by decide) ?_
          refine wl_move rfl rfl (by decide) ?_
          refine wl_cmp rfl rfl rfl true (cb_le_t (a := c) (b := 90) rfl rfl (by omega)) (by decide) ?_
          refine wl_pure rfl rfl (v := .bool true) (by decide) (by kernel_rfl) ?_
          refine wl_assign rfl rfl (by decide) ?_
          refine wl_nil ?_
          refine eo_then ?_
          refine cw_true rfl ?_
          refine cw_region ?_
          refine wl_move rfl rfl (by decide) ?_
          refine wl_ar rfl rfl rfl ((c - 65 : Nat) : Int) (a8_sub (a := c) (b := 65) rfl rfl (by omega) (by omega)) (by decide) ?_
          refine wl_pureE rfl rfl (v := .int .i64 (IntKind.i64.wrap ((c - 65 : Nat) : Int))) (v' := .int .i64 ((c - 65 : Nat) : Int)) (by decide) (by kernel_rfl) (cv_i64 (by first | omega | exact hle64)) ?_
          refine wl_ar rfl rfl rfl (((c - 65) + 10 : Nat) : Int) (ai_add (a := c - 65) (b := 10) rfl rfl (by omega)) (by decide) ?_
          refine wl_assign rfl rfl (by decide) ?_
          refine wl_nil ?_
          refine eo_block_normal ?_
          refine eo_then ?_
          refine cw_seq ?_
          have hv : sgv c = (((c - 65) + 10 : Nat) : Int) := by unfold sgv dv; (repeat' split) <;> omega
          by_cases hvb : sgv c < b
          ·
            refine cw_region ?_
            refine wl_move rfl rfl (by decide) ?_
            refine wl_move rfl rfl (by decide) ?_
            refine wl_cmp rfl rfl rfl true (cb_ge_t (a := (c - 65) + 10) (b := 0) rfl rfl (by omega)) (by decide) ?_
            refine wl_move rfl rfl (by decide) ?_
            refine wl_move rfl rfl (by decide) ?_
            refine wl_move rfl rfl (by decide) ?_
            refine wl_cmp rfl rfl rfl true (lt_t (by omega)) (by decide) ?_
            refine wl_pure rfl rfl (v := .bool true) (by decide) (by kernel_rfl) ?_
            refine wl_assign rfl rfl (by decide) ?_
            refine wl_assign rfl rfl (by decide) ?_
            refine wl_nil ?_
            refine eo_then ?_
            refine cw_ret ?_
            refine eo_ret [.int .i64 (((c - 65) + 10 : Nat) : Int), .bool true] rfl ⟨rfl, rfl, trivial⟩ ?_
            exact ⟨_, rfl, ⟨_, _, rfl, (show Value.int .i64 ((((c - 65) + 10 : Nat) : Int)) = _ by rw [hv]), (show Value.bool true = _ by rw [decide_eq_true (by omega)])⟩, (Ext.refl w)⟩
          ·
            refine cw_region ?_
            refine wl_move rfl rfl (by decide) ?_
            refine wl_move rfl rfl (by decide) ?_
            refine wl_cmp rfl rfl rfl true (cb_ge_t (a := (c - 65) + 10) (b := 0) rfl rfl (by omega)) (by decide) ?_
            refine wl_move rfl rfl (by decide) ?_
            refine wl_move rfl rfl (by decide) ?_
            refine wl_move rfl rfl (by decide) ?_
            refine wl_cmp rfl rfl rfl false (lt_f (by omega)) (by decide) ?_
            refine wl_pure rfl rfl (v := .bool false) (by decide) (by kernel_rfl) ?_
            refine wl_assign rfl rfl (by decide) ?_
            refine wl_assign rfl rfl (by decide) ?_
            refine wl_nil ?_
            refine eo_then ?_
            refine cw_ret ?_
            refine eo_ret [.int .i64 (((c - 65) + 10 : Nat) : Int), .bool false] rfl ⟨rfl, rfl, trivial⟩ ?_
            exact ⟨_, rfl, ⟨_, _, rfl, (show Value.int .i64 ((((c - 65) + 10 : Nat) : Int)) = _ by rw [hv]), (show Value.bool false = _ by rw [decide_eq_false (by omega)])⟩, (Ext.refl w)⟩
        ·
          refine cw_region ?_
          refine wl_move rfl rfl (by decide) ?_
          refine wl_cmp rfl rfl rfl true (cb_ge_t (a := c) (b := 65) rfl rfl (by omega)) (by decide) ?_
          refine wl_move rfl rfl (by decide) ?_
          refine wl_move rfl rfl (by decide) ?_
          refine wl_cmp rfl rfl rfl false (cb_le_f (a := c) (b := 90) rfl rfl (by omega)) (by decide) ?_
          refine wl_pure rfl rfl (v := .bool false) (by decide) (by kernel_rfl) ?_
          refine wl_assign rfl rfl (by decide) ?_
          refine wl_nil ?_
          refine eo_then ?_
          refine cw_false rfl ?_
          refine cw_skip ?_
          refine eo_block_normal ?_
          refine eo_then ?_
          refine cw_seq ?_
          have h36 : ¬ dv c < 36 := by unfold dv; (repeat' split) <;> omega
          have hv : sgv c = -1 := by unfold sgv; rw [if_neg h36]
          refine cw_region ?_
          refine wl_move rfl rfl (by decide) ?_
          refine wl_move rfl rfl (by decide) ?_
          refine wl_cmp rfl rfl rfl false (by decide) (by decide) ?_
          refine wl_move rfl rfl (by decide) ?_
          refine wl_off rfl (by decide) ?_
          refine wl_off rfl (by decide) ?_
          refine wl_off rfl (by decide) ?_
          refine wl_pure rfl rfl (v := .bool false) (by decide) (by kernel_rfl) ?_
          refine wl_assign rfl rfl (by decide) ?_
          refine wl_assign rfl rfl (by decide) ?_
          refine wl_nil ?_
          refine eo_then ?_
          refine cw_ret ?_
          refine eo_ret [.int .i64 (-1), .bool false] rfl ⟨rfl, rfl, trivial⟩ ?_
          exact ⟨_, rfl, ⟨_, _, rfl, (show Value.int .i64 (-1) = _ by rw [hv]), (show Value.bool false = _ by rw [decide_eq_false (by omega)])⟩, (Ext.refl w)⟩
      ·
        refine cw_region ?_
        refine wl_move rfl rfl (by decide) ?_
        refine wl_cmp rfl rfl rfl false (cb_ge_f (a := c) (b := 65) rfl rfl (by omega)) (by decide) ?_
        refine wl_move rfl rfl (by decide) ?_
        refine wl_off rfl (by decide) ?_
        refine wl_off rfl (by decide) ?_
        refine wl_pure rfl rfl (v := .bool false) (by decide) (by kernel_rfl) ?_
        refine wl_assign rfl rfl (by decide) ?_
        refine wl_nil ?_
        refine eo_then ?_
        refine cw_false rfl ?_
        refine cw_skip ?_
        refine eo_block_normal ?_
        refine eo_then ?_
        refine cw_seq ?_
        have h36 : ¬ dv c < 36 := by unfold dv; (repeat' split) <;> omega
        have hv : sgv c = -1 := by unfold sgv; rw [if_neg h36]
        refine cw_region ?_
        refine wl_move rfl rfl (by decide) ?_
        refine wl_move rfl rfl (by decide) ?_
        refine wl_cmp rfl rfl rfl false (by decide) (by decide) ?_
        refine wl_move rfl rfl (by decide) ?_
        refine wl_off rfl (by decide) ?_
        refine wl_off rfl (by decide) ?_
        refine wl_off rfl (by decide) ?_
        refine wl_pure rfl rfl (v := .bool false) (by decide) (by kernel_rfl) ?_
        refine wl_assign rfl rfl (by decide) ?_
        refine wl_assign rfl rfl (by decide) ?_
        refine wl_nil ?_
        refine eo_then ?_
        refine cw_ret ?_
        refine eo_ret [.int .i64 (-1), .bool false] rfl ⟨rfl, rfl, trivial⟩ ?_
        exact ⟨_, rfl, ⟨_, _, rfl, (show Value.int .i64 (-1) = _ by rw [hv]), (show Value.bool false = _ by rw [decide_eq_false (by omega)])⟩, (Ext.refl w)⟩
theorem g_sign_ok {w : World} {c base : Nat} (hc : c ≤ 255) (hbu : base ≤ 36) (h : dv c < base) : Calls Tryd.prog 35 #[.int .u8 ((c : Nat) : Int), .int .i64 ((base : Nat) : Int)] w (Gv w (T2 (Is (.int .i64 ((dv c : Nat) : Int))) (Is (.bool true)))) := by
  have h1 := g_law4_sign (w := w) (b := ((base : Nat) : Int)) hc
  have h2 : sgv c = ((dv c : Nat) : Int) := by unfold sgv; rw [if_pos (by omega)]
  rw [h2, decide_eq_true (by omega)] at h1
  exact h1
theorem g_sign_no {w : World} {c base : Nat} (hc : c ≤ 255) (_hbu : base ≤ 36) (h : ¬ dv c < base) : Calls Tryd.prog 35 #[.int .u8 ((c : Nat) : Int), .int .i64 ((base : Nat) : Int)] w (Gv w (T2 (Is (.int .i64 (sgv c))) (Is (.bool false)))) := by
  have h1 := g_law4_sign (w := w) (b := ((base : Nat) : Int)) hc
  rw [decide_eq_false (by unfold sgv; split <;> omega)] at h1
  exact h1
theorem lead_len (l : List Nat) : (lead l).length ≤ l.length := by
  induction l with
  | nil => exact Nat.le_refl _
  | cons y r ih =>
    rw [lead]
    split
    · rw [List.length_cons]; omega
    · exact Nat.le_refl _
theorem len_wd_dv {base : Nat} {bs : List Nat} (hbl : 2 ≤ base) (hbu : base ≤ 36) (h : ∀ c, c ∈ bs → dv c < base) : (wd (vald base (bs.map dv))).length ≤ bs.length := by
  have := len_vald (b := base) (by omega) hbu (dig_map h)
  rwa [List.length_map] at this
theorem sgn_lt256 {base : Nat} {bs : List Nat} (hbu : base ≤ 36) (h : ∀ c, c ∈ bs → dv c < base) : ∀ c, c ∈ (lead (bs.map dv)).map sgn → c < 256 := by
  intro c hc
  obtain ⟨d, hd, rfl⟩ := List.mem_map.1 hc
  have h1 : ∀ l : List Nat, ∀ x, x ∈ lead l → x ∈ l := by
    intro l
    induction l with
    | nil => intro x hx; exact hx
    | cons y r ih =>
      intro x hx
      rw [lead] at hx
      split at hx
      · exact List.mem_cons_of_mem _ (ih x hx)
      · exact hx
  have := dig_map h d (h1 _ d hd)
  have := sgn_le (d := d) (by omega)
  omega
theorem take_snoc4 {bs : List Nat} {i : Nat} (h : i < bs.length) : bs.take (i + 1) = bs.take i ++ [bs.getD i 0] := by
  rw [List.take_add_one, List.getD_eq_getElem?_getD, List.getElem?_eq_getElem h]; rfl
set_option maxHeartbeats 4000000 in
theorem law_RadixThere_bad {w : World} {bs : List Nat} (_hbs : ∀ b, b ∈ bs → b < 256) (_hlen : bs.length ≤ 1048576) {b : Int} (hbad : b < 2 ∨ 36 < b) (hS : Signs w) :
    Calls Tryd.prog 5 #[.string (strB bs), .int .i64 b] w (Gv w (Is (.bool true))) := by
  refine sx_enter Tryd.func5 rfl (n := 107) rfl (Nat.le_of_ble_eq_true rfl) (args := [.string (strB bs), .int .i64 b]) ?_
  refine cw_keep [(0, .string (strB bs)), (1, .int .i64 b)] ⟨rfl, rfl, trivial⟩ ?_
  refine cw_seq ?_
  refine cw_region ?_
  refine wl_assign rfl rfl (by decide) ?_
  refine wl_nil ?_
  refine eo_then ?_
  refine cw_seq ?_
  refine cw_seq ?_
  refine cw_region ?_
  refine wl_call rfl rfl (vs := []) (by kernel_rfl) (by decide) (g_law4_awake (hS.ext (Ext.refl w))) ?_
  rintro _ v1 ⟨xr3, rfl, r3, e2⟩
  refine ret_intro ?_
  have hw1 : Ext w v1 := (Ext.refl w).trans e2
  obtain rfl := r3
  refine wl_pure rfl rfl (v := .bool false) (by decide) (by kernel_rfl) ?_
  refine wl_nil ?_
  refine eo_then ?_
  refine cw_false rfl ?_
  refine cw_skip ?_
  refine eo_then ?_
  refine cw_seq ?_
  refine cw_region ?_
  refine wl_move rfl rfl (by decide) ?_
  refine wl_move rfl rfl (by decide) ?_
  refine wl_call rfl rfl (vs := [.string (strB bs), .int .i64 b]) (by kernel_rfl) (by decide) (rx_Read_badb hbad) ?_
  rintro _ v4 ⟨xr6, rfl, r6, e5⟩
  refine ret_intro ?_
  have hw2 : Ext w v4 := hw1.trans e5
  obtain ⟨a7_0, a7_1, rfl, r7_0, r7_1⟩ := r6
  obtain rfl := r7_0
  obtain rfl := r7_1
  refine wl_move rfl rfl (by decide) ?_
  refine wl_pure rfl rfl (v := .slice none 0 0) (by decide) (by kernel_rfl) ?_
  refine wl_pure rfl rfl (v := .int .i64 3) (by decide) (by kernel_rfl) ?_
  refine wl_assign rfl rfl (by decide) ?_
  refine wl_assign rfl rfl (by decide) ?_
  refine wl_nil ?_
  refine eo_then ?_
  refine cw_seq ?_
  refine cw_seq ?_
  rcases hbad with hbad | hbad
  ·
    refine cw_region ?_
    refine wl_move rfl rfl (by decide) ?_
    refine wl_cmp rfl rfl rfl true (lt_t hbad) (by decide) ?_
    refine wl_move rfl rfl (by decide) ?_
    refine wl_off rfl (by decide) ?_
    refine wl_off rfl (by decide) ?_
    refine wl_pure rfl rfl (v := .bool true) (by decide) (by kernel_rfl) ?_
    refine wl_nil ?_
    refine eo_then ?_
    refine cw_true rfl ?_
    refine cw_seq ?_
    refine cw_region ?_
    refine wl_move rfl rfl (by decide) ?_
    refine wl_cmp rfl rfl rfl true (by decide) (by decide) ?_
    refine wl_move rfl rfl (by decide) ?_
    refine wl_move rfl rfl (by decide) ?_
    refine wl_pure rfl rfl (v := .int .i64 0) (by decide) (by kernel_rfl) ?_
    refine wl_cmp rfl rfl rfl true (by decide) (by decide) ?_
    refine wl_pure rfl rfl (v := .bool true) (by decide) (by kernel_rfl) ?_
    refine wl_assign rfl rfl (by decide) ?_
    refine wl_nil ?_
    refine eo_then ?_
    refine cw_ret ?_
    refine eo_thenR ?_
    refine eo_ret [.bool true] rfl ⟨rfl, trivial⟩ ?_
    exact ⟨_, rfl, rfl, hw2⟩
  ·
    refine cw_region ?_
    refine wl_move rfl rfl (by decide) ?_
    refine wl_cmp rfl rfl rfl false (lt_f (by omega)) (by decide) ?_
    refine wl_move rfl rfl (by decide) ?_
    refine wl_move rfl rfl (by decide) ?_
    refine wl_cmp rfl rfl rfl true (gt_t hbad) (by decide) ?_
    refine wl_pure rfl rfl (v := .bool true) (by decide) (by kernel_rfl) ?_
    refine wl_nil ?_
    refine eo_then ?_
    refine cw_true rfl ?_
    refine cw_seq ?_
    refine cw_region ?_
    refine wl_move rfl rfl (by decide) ?_
    refine wl_cmp rfl rfl rfl true (by decide) (by decide) ?_
    refine wl_move rfl rfl (by decide) ?_
    refine wl_move rfl rfl (by decide) ?_
    refine wl_pure rfl rfl (v := .int .i64 0) (by decide) (by kernel_rfl) ?_
    refine wl_cmp rfl rfl rfl true (by decide) (by decide) ?_
    refine wl_pure rfl rfl (v := .bool true) (by decide) (by kernel_rfl) ?_
    refine wl_assign rfl rfl (by decide) ?_
    refine wl_nil ?_
    refine eo_then ?_
    refine cw_ret ?_
    refine eo_thenR ?_
    refine eo_ret [.bool true] rfl ⟨rfl, trivial⟩ ?_
    exact ⟨_, rfl, rfl, hw2⟩
set_option maxHeartbeats 4000000 in
theorem law_RadixThere_good {w : World} {bs : List Nat} (hbs : ∀ b, b ∈ bs → b < 256) (hlen : bs.length ≤ 1048576) {base : Nat} (hbl : 2 ≤ base) (hbu : base ≤ 36) (hg : Good base bs) (hS : Signs w) :
    Calls Tryd.prog 5 #[.string (strB bs), .int .i64 ((base : Nat) : Int)] w (Gv w (Is (.bool true))) := by
  refine sx_enter Tryd.func5 rfl (n := 107) rfl (Nat.le_of_ble_eq_true rfl) (args := [.string (strB bs), .int .i64 ((base : Nat) : Int)]) ?_
  refine cw_keep [(0, .string (strB bs)), (1, .int .i64 ((base : Nat) : Int))] ⟨rfl, rfl, trivial⟩ ?_
  refine cw_seq ?_
  refine cw_region ?_
  refine wl_assign rfl rfl (by decide) ?_
  refine wl_nil ?_
  refine eo_then ?_
  refine cw_seq ?_
  refine cw_seq ?_
  refine cw_region ?_
  refine wl_call rfl rfl (vs := []) (by kernel_rfl) (by decide) (g_law4_awake (hS.ext (Ext.refl w))) ?_
  rintro _ v1 ⟨xr3, rfl, r3, e2⟩
  refine ret_intro ?_
  have hw1 : Ext w v1 := (Ext.refl w).trans e2
  obtain rfl := r3
  refine wl_pure rfl rfl (v := .bool false) (by decide) (by kernel_rfl) ?_
  refine wl_nil ?_
  refine eo_then ?_
  refine cw_false rfl ?_
  refine cw_skip ?_
  refine eo_then ?_
  refine cw_seq ?_
  have hav : ((wd (vald base (bs.map dv))).length : Nat) ≤ 1048576 := (Nat.le_trans (len_wd_dv hbl hbu hg.2) hlen)
  refine cw_region ?_
  refine wl_move rfl rfl (by decide) ?_
  refine wl_move rfl rfl (by decide) ?_
  refine wl_call rfl rfl (vs := [.string (strB bs), .int .i64 ((base : Nat) : Int)]) (by kernel_rfl) (by decide) (rx_Read_good hw1.size hbl hbu hbs (by omega) hg) ?_
  rintro _ v4 ⟨xr6, rfl, r6, e5⟩
  refine ret_intro ?_
  have hw2 : Ext w v4 := hw1.trans e5
  obtain ⟨a7_0, a7_1, rfl, r7_0, r7_1⟩ := r6
  obtain ⟨A8, n8, c8, rfl, j8, o8⟩ := r7_0
  obtain rfl := r7_1
  refine wl_move rfl rfl (by decide) ?_
  refine wl_pure rfl rfl (v := .slice A8 n8 c8) (by decide) (by kernel_rfl) ?_
  refine wl_pure rfl rfl (v := .int .i64 0) (by decide) (by kernel_rfl) ?_
  refine wl_assign rfl rfl (by decide) ?_
  refine wl_assign rfl rfl (by decide) ?_
  refine wl_nil ?_
  refine eo_then ?_
  refine cw_seq ?_
  refine cw_seq ?_
  refine cw_region ?_
  refine wl_move rfl rfl (by decide) ?_
  refine wl_cmp rfl rfl rfl false (cb_lt_f (a := base) (b := 2) rfl rfl (by omega)) (by decide) ?_
  refine wl_move rfl rfl (by decide) ?_
  refine wl_move rfl rfl (by decide) ?_
  refine wl_cmp rfl rfl rfl false (cb_gt_f (a := base) (b := 36) rfl rfl (by omega)) (by decide) ?_
  refine wl_pure rfl rfl (v := .bool false) (by decide) (by kernel_rfl) ?_
  refine wl_nil ?_
  refine eo_then ?_
  refine cw_false rfl ?_
  refine cw_skip ?_
  refine eo_then ?_
  refine cw_seq ?_
  have hne := hg.1
  refine cw_region ?_
  refine wl_move rfl rfl (by decide) ?_
  refine wl_streq (a := bs) (b := []) rfl rfl rfl hbs (by decide) true (strE_neq_f (hne)) (by decide) ?_
  refine wl_assign rfl rfl (by decide) ?_
  refine wl_nil ?_
  refine eo_then ?_
  refine cw_seq ?_
  refine cw_region ?_
  refine wl_assign rfl rfl (by decide) ?_
  refine wl_nil ?_
  refine eo_then ?_
  refine cw_seq ?_
  refine cw_seq ?_
  refine cw_region ?_
  refine wl_assign rfl rfl (by decide) ?_
  refine wl_nil ?_
  refine eo_then ?_
  refine cw_block ?_
  refine cw_loop (T := World × Nat × Option Addr × Nat × Nat)
    (fun ⟨wr, i, OA, on, oc⟩ => [(0, .string (strB bs)), (1, .int .i64 ((base : Nat) : Int)), (5, .slice A8 n8 c8), (6, .int .i64 0), (7, .bool true), (8, .slice OA on oc), (9, .int .i64 ((i : Nat) : Int))])
    (fun ⟨wr, i, OA, on, oc⟩ => wr)
    (fun ⟨wr, i, OA, on, oc⟩ => (Ext w wr) ∧ (Own wr w.heap.size 5 1 OA on oc (((lead ((bs.take i).map dv)).map sgn).map B8)) ∧ (i ≤ bs.length) ∧ (∀ c, c ∈ bs.take i → dv c < base) ∧ (Own wr w.heap.size 48 1 A8 n8 c8 ((wd (vald base (bs.map dv))).map W64)))
    (fun ⟨wr, i, OA, on, oc⟩ => bs.length - i)
    (⟨v4, 0, none, 0, 0⟩ : World × Nat × Option Addr × Nat × Nat) ⟨hw2, (Own.nil _ _ _ _), (Nat.zero_le _), (fun c hc => absurd hc (by simp)), o8⟩ rfl ⟨rfl, rfl, rfl, rfl, rfl, rfl, rfl, trivial⟩ ?_
  rintro ⟨wr, i, OA, on, oc⟩ ⟨hw1, hO, hi, hok, hao⟩
  refine cw_re [(0, .string (strB bs)), (1, .int .i64 ((base : Nat) : Int)), (5, .slice A8 n8 c8), (6, .int .i64 0), (7, .bool true), (8, .slice OA on oc), (9, .int .i64 ((i : Nat) : Int))] wr rfl ⟨rfl, rfl, rfl, rfl, rfl, rfl, rfl, trivial⟩ ?_
  have hon := own_len hO
  simp only [List.length_map] at hon
  have hon2 : on ≤ 1048576 := by have h1 := lead_len ((bs.take i).map dv); rw [List.length_map, List.length_take] at h1; omega
  refine cw_seq ?_
  refine cw_seq ?_
  by_cases hlt : i < bs.length
  ·
    refine cw_region ?_
    refine wl_move rfl rfl (by decide) ?_
    refine wl_move rfl rfl (by decide) ?_
    refine wl_pureE rfl rfl (v := .int .i64 (((strB bs).size : Nat) : Int)) (v' := .int .i64 ((bs.length : Nat) : Int)) (by decide) (by kernel_rfl) (by rw [strB_size]) ?_
    refine wl_cmp rfl rfl rfl true (cb_lt_t (a := i) (b := bs.length) rfl rfl (by omega)) (by decide) ?_
    refine wl_nil ?_
    refine eo_then ?_
    refine cw_true rfl ?_
    refine cw_skip ?_
    refine eo_then ?_
    refine cw_seq ?_
    refine cw_block ?_
    refine cw_seq ?_
    have hc255 : bs.getD i 0 ≤ 255 := by have := hbs _ (getD_mem hlt); omega
    have hdc := hg.2 _ (getD_mem hlt)
    refine cw_region ?_
    refine wl_move rfl rfl (by decide) ?_
    refine wl_move rfl rfl (by decide) ?_
    refine wl_strix (bs := bs) (i := i) rfl rfl rfl Tryd.underlying9 hbs (by omega) (by decide) ?_
    refine wl_move rfl rfl (by decide) ?_
    refine wl_call rfl rfl (vs := [.int .u8 ((bs.getD i 0 : Nat) : Int), .int .i64 ((base : Nat) : Int)]) (by kernel_rfl) (by decide) (g_sign_ok hc255 hbu hdc) ?_
    rintro _ v9 ⟨xr11, rfl, r11, e10⟩
    refine ret_intro ?_
    have hw2 : Ext w v9 := hw1.trans e10
    obtain ⟨a12_0, a12_1, rfl, r12_0, r12_1⟩ := r11
    obtain rfl := r12_0
    obtain rfl := r12_1
    refine wl_move rfl rfl (by decide) ?_
    refine wl_pure rfl rfl (v := .int .i64 ((dv (bs.getD i 0) : Nat) : Int)) (by decide) (by kernel_rfl) ?_
    refine wl_pure rfl rfl (v := .bool true) (by decide) (by kernel_rfl) ?_
    refine wl_assign rfl rfl (by decide) ?_
    refine wl_assign rfl rfl (by decide) ?_
    refine wl_nil ?_
    refine eo_then ?_
    refine cw_seq ?_
    refine cw_seq ?_
    refine cw_region ?_
    refine wl_move rfl rfl (by decide) ?_
    refine wl_pure rfl rfl (v := .bool false) (by decide) (by kernel_rfl) ?_
    refine wl_nil ?_
    refine eo_then ?_
    refine cw_false rfl ?_
    refine cw_skip ?_
    refine eo_then ?_
    refine cw_seq ?_
    by_cases hdp : dv (bs.getD i 0) > 0
    ·
      refine cw_region ?_
      refine wl_move rfl rfl (by decide) ?_
      refine wl_cmp rfl rfl rfl true (cb_gt_t (a := dv (bs.getD i 0)) (b := 0) rfl rfl (by omega)) (by decide) ?_
      refine wl_move rfl rfl (by decide) ?_
      refine wl_off rfl (by decide) ?_
      refine wl_off rfl (by decide) ?_
      refine wl_off rfl (by decide) ?_
      refine wl_pure rfl rfl (v := .bool true) (by decide) (by kernel_rfl) ?_
      refine wl_nil ?_
      refine eo_then ?_
      refine cw_true rfl ?_
      refine cw_seq ?_
      have hd36 : dv (bs.getD i 0) < 36 := by omega
      refine cw_region ?_
      refine wl_move rfl rfl (by decide) ?_
      refine wl_ar rfl rfl rfl ((48 + (dv (bs.getD i 0)) : Nat) : Int) (ai_add (a := 48) (b := dv (bs.getD i 0)) rfl rfl (by omega)) (by decide) ?_
      refine wl_pureE rfl rfl (v := .int .u8 (IntKind.u8.wrap ((48 + (dv (bs.getD i 0)) : Nat) : Int))) (v' := .int .u8 ((48 + (dv (bs.getD i 0)) : Nat) : Int)) (by decide) (by kernel_rfl) (cv_u8 (by omega)) ?_
      refine wl_assign rfl rfl (by decide) ?_
      refine wl_nil ?_
      refine eo_then ?_
      refine cw_seq ?_
      refine cw_seq ?_
      by_cases hd9 : dv (bs.getD i 0) > 9
      ·
        refine cw_region ?_
        refine wl_move rfl rfl (by decide) ?_
        refine wl_cmp rfl rfl rfl true (cb_gt_t (a := dv (bs.getD i 0)) (b := 9) rfl rfl (by omega)) (by decide) ?_
        refine wl_nil ?_
        refine eo_then ?_
        refine cw_true rfl ?_
        refine cw_region ?_
        refine wl_move rfl rfl (by decide) ?_
        refine wl_ar rfl rfl rfl ((97 + (dv (bs.getD i 0)) : Nat) : Int) (ai_add (a := 97) (b := dv (bs.getD i 0)) rfl rfl (by omega)) (by decide) ?_
        refine wl_ar rfl rfl rfl (((97 + (dv (bs.getD i 0))) - 10 : Nat) : Int) (ai_sub (a := 97 + (dv (bs.getD i 0))) (b := 10) rfl rfl (by omega) (by omega)) (by decide) ?_
        refine wl_pureE rfl rfl (v := .int .u8 (IntKind.u8.wrap (((97 + (dv (bs.getD i 0))) - 10 : Nat) : Int))) (v' := .int .u8 (((97 + (dv (bs.getD i 0))) - 10 : Nat) : Int)) (by decide) (by kernel_rfl) (cv_u8 (by omega)) ?_
        refine wl_assign rfl rfl (by decide) ?_
        refine wl_nil ?_
        refine eo_then ?_
        have hsg : (97 + (dv (bs.getD i 0))) - 10 = sgn (dv (bs.getD i 0)) := by unfold sgn; split <;> omega
        refine cw_keep [(0, .string (strB bs)), (1, .int .i64 ((base : Nat) : Int)), (5, .slice A8 n8 c8), (6, .int .i64 0), (7, .bool true), (8, .slice OA on oc), (9, .int .i64 ((i : Nat) : Int)), (38, .int .i64 ((i : Nat) : Int)), (39, .string (strB bs)), (40, .int .i64 ((bs.length : Nat) : Int)), (41, .bool true), (45, .string (strB bs)), (46, .int .i64 ((i : Nat) : Int)), (47, .int .u8 ((bs.getD i 0 : Nat) : Int)), (48, .int .i64 ((base : Nat) : Int)), (49, .tuple #[.int .i64 ((dv (bs.getD i 0) : Nat) : Int), .bool true]), (44, .tuple #[.int .i64 ((dv (bs.getD i 0) : Nat) : Int), .bool true]), (50, .int .i64 ((dv (bs.getD i 0) : Nat) : Int)), (51, .bool true), (10, .int .i64 ((dv (bs.getD i 0) : Nat) : Int)), (11, .bool true), (52, .bool true), (53, .bool false), (54, .int .i64 ((dv (bs.getD i 0) : Nat) : Int)), (55, .bool true), (56, .bool true), (57, undef), (58, undef), (59, undef), (60, .bool true), (61, .int .i64 ((dv (bs.getD i 0) : Nat) : Int)), (62, .int .i64 ((48 + (dv (bs.getD i 0)) : Nat) : Int)), (63, .int .u8 ((48 + (dv (bs.getD i 0)) : Nat) : Int)), (12, .int .u8 (((97 + (dv (bs.getD i 0))) - 10 : Nat) : Int)), (64, .int .i64 ((dv (bs.getD i 0) : Nat) : Int)), (65, .bool true), (66, .int .i64 ((dv (bs.getD i 0) : Nat) : Int)), (67, .int .i64 ((97 + (dv (bs.getD i 0)) : Nat) : Int)), (68, .int .i64 (((97 + (dv (bs.getD i 0))) - 10 : Nat) : Int)), (69, .int .u8 (((97 + (dv (bs.getD i 0))) - 10 : Nat) : Int))] ⟨rfl, rfl, rfl, rfl, rfl, rfl, rfl, rfl, rfl, rfl, rfl, rfl, rfl, rfl, rfl, rfl, rfl, rfl, rfl, rfl, rfl, rfl, rfl, rfl, rfl, rfl, rfl, rfl, rfl, rfl, rfl, rfl, rfl, rfl, rfl, rfl, rfl, rfl, rfl, rfl, trivial⟩ ?_
        rw [hsg]
        refine cw_region ?_
        refine wl_move rfl rfl (by decide) ?_
        refine wl_move rfl rfl (by decide) ?_
        refine wl_bslice rfl rfl (by decide) (k := 1) (e := 5) [.int .u8 ((sgn (dv (bs.getD i 0)) : Nat) : Int)] (fun _ => by kernel_rfl) fun g13 v14 nb => ?_
        have hb15 := nb.bk
        have e16 := nb.ext
        clear nb
        have hw3 : Ext w v14 := hw2.trans e16
        have ow17 := (hO.ext (e10.trans e16))
        refine wl_app rfl rfl rfl un_u8 info8 rfl (by decide) (by decide) ow17 hw3.size [.int .u8 ((sgn (dv (bs.getD i 0)) : Nat) : Int)] rfl (one_news _ hb15) rfl (by omega) (by decide) fun A18 c19 v20 ho21 uo22 kp23 => ?_
        have hw4 : Ext w v20 := uo22.ext hw3 (fun p hp => (ow17.block p hp).1)
        have ho24 : Own v20 w.heap.size 5 1 A18 (on + 1) c19 ((((lead ((bs.take i).map dv)).map sgn) ++ [sgn (dv (bs.getD i 0))]).map B8) := by have h := ho21; simp only [List.map_append, List.map_cons, List.map_nil] at h ⊢; exact h
        refine wl_assign rfl rfl (by decide) ?_
        refine wl_nil ?_
        refine eo_block_normal ?_
        refine eo_then ?_
        refine cw_region ?_
        refine wl_move rfl rfl (by decide) ?_
        refine wl_ar rfl rfl rfl ((i + 1 : Nat) : Int) (ai_add (a := i) (b := 1) rfl rfl (by omega)) (by decide) ?_
        refine wl_assign rfl rfl (by decide) ?_
        refine wl_nil ?_
        have htk : (bs.take (i + 1)).map dv = (bs.take i).map dv ++ [dv (bs.getD i 0)] := by rw [take_snoc4 hlt, List.map_append]; rfl
        refine eo_round (⟨v20, i + 1, A18, on + 1, c19⟩ : World × Nat × Option Addr × Nat × Nat) ⟨hw4, (by rw [htk, lead_snoc, if_neg (fun h => by omega), List.map_append, List.map_cons, List.map_nil]; exact ho24), (by omega), (fun c hc => by rw [take_snoc4 hlt] at hc; rcases List.mem_append.1 hc with h | h; (· exact hok c h); (· rw [List.mem_singleton.1 h]; exact hdc)), ((hao.ext (e10.trans e16)).updOT ow17 (by decide) uo22)⟩ (show bs.length - (i + 1) < bs.length - i by omega) rfl ⟨rfl, rfl, rfl, rfl, rfl, rfl, rfl, trivial⟩
      ·
        refine cw_region ?_
        refine wl_move rfl rfl (by decide) ?_
        refine wl_cmp rfl rfl rfl false (cb_gt_f (a := dv (bs.getD i 0)) (b := 9) rfl rfl (by omega)) (by decide) ?_
        refine wl_nil ?_
        refine eo_then ?_
        refine cw_false rfl ?_
        refine cw_skip ?_
        refine eo_then ?_
        have hsg : 48 + (dv (bs.getD i 0)) = sgn (dv (bs.getD i 0)) := by unfold sgn; split <;> omega
        refine cw_keep [(0, .string (strB bs)), (1, .int .i64 ((base : Nat) : Int)), (5, .slice A8 n8 c8), (6, .int .i64 0), (7, .bool true), (8, .slice OA on oc), (9, .int .i64 ((i : Nat) : Int)), (38, .int .i64 ((i : Nat) : Int)), (39, .string (strB bs)), (40, .int .i64 ((bs.length : Nat) : Int)), (41, .bool true), (45, .string (strB bs)), (46, .int .i64 ((i : Nat) : Int)), (47, .int .u8 ((bs.getD i 0 : Nat) : Int)), (48, .int .i64 ((base : Nat) : Int)), (49, .tuple #[.int .i64 ((dv (bs.getD i 0) : Nat) : Int), .bool true]), (44, .tuple #[.int .i64 ((dv (bs.getD i 0) : Nat) : Int), .bool true]), (50, .int .i64 ((dv (bs.getD i 0) : Nat) : Int)), (51, .bool true), (10, .int .i64 ((dv (bs.getD i 0) : Nat) : Int)), (11, .bool true), (52, .bool true), (53, .bool false), (54, .int .i64 ((dv (bs.getD i 0) : Nat) : Int)), (55, .bool true), (56, .bool true), (57, undef), (58, undef), (59, undef), (60, .bool true), (61, .int .i64 ((dv (bs.getD i 0) : Nat) : Int)), (62, .int .i64 ((48 + (dv (bs.getD i 0)) : Nat) : Int)), (63, .int .u8 ((48 + (dv (bs.getD i 0)) : Nat) : Int)), (12, .int .u8 ((48 + (dv (bs.getD i 0)) : Nat) : Int)), (64, .int .i64 ((dv (bs.getD i 0) : Nat) : Int)), (65, .bool false)] ⟨rfl, rfl, rfl, rfl, rfl, rfl, rfl, rfl, rfl, rfl, rfl, rfl, rfl, rfl, rfl, rfl, rfl, rfl, rfl, rfl, rfl, rfl, rfl, rfl, rfl, rfl, rfl, rfl, rfl, rfl, rfl, rfl, rfl, rfl, rfl, rfl, trivial⟩ ?_
        rw [hsg]
        refine cw_region ?_
        refine wl_move rfl rfl (by decide) ?_
        refine wl_move rfl rfl (by decide) ?_
        refine wl_bslice rfl rfl (by decide) (k := 1) (e := 5) [.int .u8 ((sgn (dv (bs.getD i 0)) : Nat) : Int)] (fun _ => by kernel_rfl) fun g25 v26 nb => ?_
        have hb27 := nb.bk
        have e28 := nb.ext
        clear nb
        have hw3 : Ext w v26 := hw2.trans e28
        have ow29 := (hO.ext (e10.trans e28))
        refine wl_app rfl rfl rfl un_u8 info8 rfl (by decide) (by decide) ow29 hw3.size [.int .u8 ((sgn (dv (bs.getD i 0)) : Nat) : Int)] rfl (one_news _ hb27) rfl (by omega) (by decide) fun A30 c31 v32 ho33 uo34 kp35 => ?_
        have hw4 : Ext w v32 := uo34.ext hw3 (fun p hp => (ow29.block p hp).1)
        have ho36 : Own v32 w.heap.size 5 1 A30 (on + 1) c31 ((((lead ((bs.take i).map dv)).map sgn) ++ [sgn (dv (bs.getD i 0))]).map B8) := by have h := ho33; simp only [List.map_append, List.map_cons, List.map_nil] at h ⊢; exact h
        refine wl_assign rfl rfl (by decide) ?_
        refine wl_nil ?_
        refine eo_block_normal ?_
        refine eo_then ?_
        refine cw_region ?_
        refine wl_move rfl rfl (by decide) ?_
        refine wl_ar rfl rfl rfl ((i + 1 : Nat) : Int) (ai_add (a := i) (b := 1) rfl rfl (by omega)) (by decide) ?_
        refine wl_assign rfl rfl (by decide) ?_
        refine wl_nil ?_
        have htk : (bs.take (i + 1)).map dv = (bs.take i).map dv ++ [dv (bs.getD i 0)] := by rw [take_snoc4 hlt, List.map_append]; rfl
        refine eo_round (⟨v32, i + 1, A30, on + 1, c31⟩ : World × Nat × Option Addr × Nat × Nat) ⟨hw4, (by rw [htk, lead_snoc, if_neg (fun h => by omega), List.map_append, List.map_cons, List.map_nil]; exact ho36), (by omega), (fun c hc => by rw [take_snoc4 hlt] at hc; rcases List.mem_append.1 hc with h | h; (· exact hok c h); (· rw [List.mem_singleton.1 h]; exact hdc)), ((hao.ext (e10.trans e28)).updOT ow29 (by decide) uo34)⟩ (show bs.length - (i + 1) < bs.length - i by omega) rfl ⟨rfl, rfl, rfl, rfl, rfl, rfl, rfl, trivial⟩
    ·
      have hd0 : dv (bs.getD i 0) = 0 := by omega
      by_cases hon0 : on > 0
      ·
        have hl0 : lead ((bs.take i).map dv) ≠ [] := fun e => by rw [e] at hon; simp at hon; omega
        refine cw_region ?_
        refine wl_move rfl rfl (by decide) ?_
        refine wl_cmp rfl rfl rfl false (cb_gt_f (a := dv (bs.getD i 0)) (b := 0) rfl rfl (by omega)) (by decide) ?_
        refine wl_move rfl rfl (by decide) ?_
        refine wl_move rfl rfl (by decide) ?_
        refine wl_pure rfl rfl (v := .int .i64 ((on : Nat) : Int)) (by decide) (by kernel_rfl) ?_
        refine wl_cmp rfl rfl rfl true (cb_gt_t (a := on) (b := 0) rfl rfl (by omega)) (by decide) ?_
        refine wl_pure rfl rfl (v := .bool true) (by decide) (by kernel_rfl) ?_
        refine wl_nil ?_
        refine eo_then ?_
        refine cw_true rfl ?_
        refine cw_seq ?_
        have hd36 : dv (bs.getD i 0) < 36 := by omega
        refine cw_region ?_
        refine wl_move rfl rfl (by decide) ?_
        refine wl_ar rfl rfl rfl ((48 + (dv (bs.getD i 0)) : Nat) : Int) (ai_add (a := 48) (b := dv (bs.getD i 0)) rfl rfl (by omega)) (by decide) ?_
        refine wl_pureE rfl rfl (v := .int .u8 (IntKind.u8.wrap ((48 + (dv (bs.getD i 0)) : Nat) : Int))) (v' := .int .u8 ((48 + (dv (bs.getD i 0)) : Nat) : Int)) (by decide) (by kernel_rfl) (cv_u8 (by omega)) ?_
        refine wl_assign rfl rfl (by decide) ?_
        refine wl_nil ?_
        refine eo_then ?_
        refine cw_seq ?_
        refine cw_seq ?_
        by_cases hd9 : dv (bs.getD i 0) > 9
        ·
          refine cw_region ?_
          refine wl_move rfl rfl (by decide) ?_
          refine wl_cmp rfl rfl rfl true (cb_gt_t (a := dv (bs.getD i 0)) (b := 9) rfl rfl (by omega)) (by decide) ?_
          refine wl_nil ?_
          refine eo_then ?_
          refine cw_true rfl ?_
          refine cw_region ?_
          refine wl_move rfl rfl (by decide) ?_
          refine wl_ar rfl rfl rfl ((97 + (dv (bs.getD i 0)) : Nat) : Int) (ai_add (a := 97) (b := dv (bs.getD i 0)) rfl rfl (by omega)) (by decide) ?_
          refine wl_ar rfl rfl rfl (((97 + (dv (bs.getD i 0))) - 10 : Nat) : Int) (ai_sub (a := 97 + (dv (bs.getD i 0))) (b := 10) rfl rfl (by omega) (by omega)) (by decide) ?_
          refine wl_pureE rfl rfl (v := .int .u8 (IntKind.u8.wrap (((97 + (dv (bs.getD i 0))) - 10 : Nat) : Int))) (v' := .int .u8 (((97 + (dv (bs.getD i 0))) - 10 : Nat) : Int)) (by decide) (by kernel_rfl) (cv_u8 (by omega)) ?_
          refine wl_assign rfl rfl (by decide) ?_
          refine wl_nil ?_
          refine eo_then ?_
          have hsg : (97 + (dv (bs.getD i 0))) - 10 = sgn (dv (bs.getD i 0)) := by unfold sgn; split <;> omega
          refine cw_keep [(0, .string (strB bs)), (1, .int .i64 ((base : Nat) : Int)), (5, .slice A8 n8 c8), (6, .int .i64 0), (7, .bool true), (8, .slice OA on oc), (9, .int .i64 ((i : Nat) : Int)), (38, .int .i64 ((i : Nat) : Int)), (39, .string (strB bs)), (40, .int .i64 ((bs.length : Nat) : Int)), (41, .bool true), (45, .string (strB bs)), (46, .int .i64 ((i : Nat) : Int)), (47, .int .u8 ((bs.getD i 0 : Nat) : Int)), (48, .int .i64 ((base : Nat) : Int)), (49, .tuple #[.int .i64 ((dv (bs.getD i 0) : Nat) : Int), .bool true]), (44, .tuple #[.int .i64 ((dv (bs.getD i 0) : Nat) : Int), .bool true]), (50, .int .i64 ((dv (bs.getD i 0) : Nat) : Int)), (51, .bool true), (10, .int .i64 ((dv (bs.getD i 0) : Nat) : Int)), (11, .bool true), (52, .bool true), (53, .bool false), (54, .int .i64 ((dv (bs.getD i 0) : Nat) : Int)), (55, .bool false), (56, .bool false), (57, .slice OA on oc), (58, .int .i64 ((on : Nat) : Int)), (59, .bool true), (60, .bool true), (61, .int .i64 ((dv (bs.getD i 0) : Nat) : Int)), (62, .int .i64 ((48 + (dv (bs.getD i 0)) : Nat) : Int)), (63, .int .u8 ((48 + (dv (bs.getD i 0)) : Nat) : Int)), (12, .int .u8 (((97 + (dv (bs.getD i 0))) - 10 : Nat) : Int)), (64, .int .i64 ((dv (bs.getD i 0) : Nat) : Int)), (65, .bool true), (66, .int .i64 ((dv (bs.getD i 0) : Nat) : Int)), (67, .int .i64 ((97 + (dv (bs.getD i 0)) : Nat) : Int)), (68, .int .i64 (((97 + (dv (bs.getD i 0))) - 10 : Nat) : Int)), (69, .int .u8 (((97 + (dv (bs.getD i 0))) - 10 : Nat) : Int))] ⟨rfl, rfl, rfl, rfl, rfl, rfl, rfl, rfl, rfl, rfl, rfl, rfl, rfl, rfl, rfl, rfl, rfl, rfl, rfl, rfl, rfl, rfl, rfl, rfl, rfl, rfl, rfl, rfl, rfl, rfl, rfl, rfl, rfl, rfl, rfl, rfl, rfl, rfl, rfl, rfl, trivial⟩ ?_
          rw [hsg]
          refine cw_region ?_
          refine wl_move rfl rfl (by decide) ?_
          refine wl_move rfl rfl (by decide) ?_
          refine wl_bslice rfl rfl (by decide) (k := 1) (e := 5) [.int .u8 ((sgn (dv (bs.getD i 0)) : Nat) : Int)] (fun _ => by kernel_rfl) fun g37 v38 nb => ?_
          have hb39 := nb.bk
          have e40 := nb.ext
          clear nb
          have hw3 : Ext w v38 := hw2.trans e40
          have ow41 := (hO.ext (e10.trans e40))
          refine wl_app rfl rfl rfl un_u8 info8 rfl (by decide) (by decide) ow41 hw3.size [.int .u8 ((sgn (dv (bs.getD i 0)) : Nat) : Int)] rfl (one_news _ hb39) rfl (by omega) (by decide) fun A42 c43 v44 ho45 uo46 kp47 => ?_
          have hw4 : Ext w v44 := uo46.ext hw3 (fun p hp => (ow41.block p hp).1)
          have ho48 : Own v44 w.heap.size 5 1 A42 (on + 1) c43 ((((lead ((bs.take i).map dv)).map sgn) ++ [sgn (dv (bs.getD i 0))]).map B8) := by have h := ho45; simp only [List.map_append, List.map_cons, List.map_nil] at h ⊢; exact h
          refine wl_assign rfl rfl (by decide) ?_
          refine wl_nil ?_
          refine eo_block_normal ?_
          refine eo_then ?_
          refine cw_region ?_
          refine wl_move rfl rfl (by decide) ?_
          refine wl_ar rfl rfl rfl ((i + 1 : Nat) : Int) (ai_add (a := i) (b := 1) rfl rfl (by omega)) (by decide) ?_
          refine wl_assign rfl rfl (by decide) ?_
          refine wl_nil ?_
          have htk : (bs.take (i + 1)).map dv = (bs.take i).map dv ++ [dv (bs.getD i 0)] := by rw [take_snoc4 hlt, List.map_append]; rfl
          refine eo_round (⟨v44, i + 1, A42, on + 1, c43⟩ : World × Nat × Option Addr × Nat × Nat) ⟨hw4, (by rw [htk, lead_snoc, if_neg (fun h => hl0 h.1), List.map_append, List.map_cons, List.map_nil]; exact ho48), (by omega), (fun c hc => by rw [take_snoc4 hlt] at hc; rcases List.mem_append.1 hc with h | h; (· exact hok c h); (· rw [List.mem_singleton.1 h]; exact hdc)), ((hao.ext (e10.trans e40)).updOT ow41 (by decide) uo46)⟩ (show bs.length - (i + 1) < bs.length - i by omega) rfl ⟨rfl, rfl, rfl, rfl, rfl, rfl, rfl, trivial⟩
        ·
          refine cw_region ?_
          refine wl_move rfl rfl (by decide) ?_
          refine wl_cmp rfl rfl rfl false (cb_gt_f (a := dv (bs.getD i 0)) (b := 9) rfl rfl (by omega)) (by decide) ?_
          refine wl_nil ?_
          refine eo_then ?_
          refine cw_false rfl ?_
          refine cw_skip ?_
          refine eo_then ?_
          have hsg : 48 + (dv (bs.getD i 0)) = sgn (dv (bs.getD i 0)) := by unfold sgn; split <;> omega
          refine cw_keep [(0, .string (strB bs)), (1, .int .i64 ((base : Nat) : Int)), (5, .slice A8 n8 c8), (6, .int .i64 0), (7, .bool true), (8, .slice OA on oc), (9, .int .i64 ((i : Nat) : Int)), (38, .int .i64 ((i : Nat) : Int)), (39, .string (strB bs)), (40, .int .i64 ((bs.length : Nat) : Int)), (41, .bool true), (45, .string (strB bs)), (46, .int .i64 ((i : Nat) : Int)), (47, .int .u8 ((bs.getD i 0 : Nat) : Int)), (48, .int .i64 ((base : Nat) : Int)), (49, .tuple #[.int .i64 ((dv (bs.getD i 0) : Nat) : Int), .bool true]), (44, .tuple #[.int .i64 ((dv (bs.getD i 0) : Nat) : Int), .bool true]), (50, .int .i64 ((dv (bs.getD i 0) : Nat) : Int)), (51, .bool true), (10, .int .i64 ((dv (bs.getD i 0) : Nat) : Int)), (11, .bool true), (52, .bool true), (53, .bool false), (54, .int .i64 ((dv (bs.getD i 0) : Nat) : Int)), (55, .bool false), (56, .bool false), (57, .slice OA on oc), (58, .int .i64 ((on : Nat) : Int)), (59, .bool true), (60, .bool true), (61, .int .i64 ((dv (bs.getD i 0) : Nat) : Int)), (62, .int .i64 ((48 + (dv (bs.getD i 0)) : Nat) : Int)), (63, .int .u8 ((48 + (dv (bs.getD i 0)) : Nat) : Int)), (12, .int .u8 ((48 + (dv (bs.getD i 0)) : Nat) : Int)), (64, .int .i64 ((dv (bs.getD i 0) : Nat) : Int)), (65, .bool false)] ⟨rfl, rfl, rfl, rfl, rfl, rfl, rfl, rfl, rfl, rfl, rfl, rfl, rfl, rfl, rfl, rfl, rfl, rfl, rfl, rfl, rfl, rfl, rfl, rfl, rfl, rfl, rfl, rfl, rfl, rfl, rfl, rfl, rfl, rfl, rfl, rfl, trivial⟩ ?_
          rw [hsg]
          refine cw_region ?_
          refine wl_move rfl rfl (by decide) ?_
          refine wl_move rfl rfl (by decide) ?_
          refine wl_bslice rfl rfl (by decide) (k := 1) (e := 5) [.int .u8 ((sgn (dv (bs.getD i 0)) : Nat) : Int)] (fun _ => by kernel_rfl) fun g49 v50 nb => ?_
          have hb51 := nb.bk
          have e52 := nb.ext
          clear nb
          have hw3 : Ext w v50 := hw2.trans e52
          have ow53 := (hO.ext (e10.trans e52))
          refine wl_app rfl rfl rfl un_u8 info8 rfl (by decide) (by decide) ow53 hw3.size [.int .u8 ((sgn (dv (bs.getD i 0)) : Nat) : Int)] rfl (one_news _ hb51) rfl (by omega) (by decide) fun A54 c55 v56 ho57 uo58 kp59 => ?_
          have hw4 : Ext w v56 := uo58.ext hw3 (fun p hp => (ow53.block p hp).1)
          have ho60 : Own v56 w.heap.size 5 1 A54 (on + 1) c55 ((((lead ((bs.take i).map dv)).map sgn) ++ [sgn (dv (bs.getD i 0))]).map B8) := by have h := ho57; simp only [List.map_append, List.map_cons, List.map_nil] at h ⊢; exact h
          refine wl_assign rfl rfl (by decide) ?_
          refine wl_nil ?_
          refine eo_block_normal ?_
          refine eo_then ?_
          refine cw_region ?_
          refine wl_move rfl rfl (by decide) ?_
          refine wl_ar rfl rfl rfl ((i + 1 : Nat) : Int) (ai_add (a := i) (b := 1) rfl rfl (by omega)) (by decide) ?_
          refine wl_assign rfl rfl (by decide) ?_
          refine wl_nil ?_
          have htk : (bs.take (i + 1)).map dv = (bs.take i).map dv ++ [dv (bs.getD i 0)] := by rw [take_snoc4 hlt, List.map_append]; rfl
          refine eo_round (⟨v56, i + 1, A54, on + 1, c55⟩ : World × Nat × Option Addr × Nat × Nat) ⟨hw4, (by rw [htk, lead_snoc, if_neg (fun h => hl0 h.1), List.map_append, List.map_cons, List.map_nil]; exact ho60), (by omega), (fun c hc => by rw [take_snoc4 hlt] at hc; rcases List.mem_append.1 hc with h | h; (· exact hok c h); (· rw [List.mem_singleton.1 h]; exact hdc)), ((hao.ext (e10.trans e52)).updOT ow53 (by decide) uo58)⟩ (show bs.length - (i + 1) < bs.length - i by omega) rfl ⟨rfl, rfl, rfl, rfl, rfl, rfl, rfl, trivial⟩
      ·
        have hl0 : lead ((bs.take i).map dv) = [] := by rw [← List.length_eq_zero_iff]; omega
        refine cw_region ?_
        refine wl_move rfl rfl (by decide) ?_
        refine wl_cmp rfl rfl rfl false (cb_gt_f (a := dv (bs.getD i 0)) (b := 0) rfl rfl (by omega)) (by decide) ?_
        refine wl_move rfl rfl (by decide) ?_
        refine wl_move rfl rfl (by decide) ?_
        refine wl_pure rfl rfl (v := .int .i64 ((on : Nat) : Int)) (by decide) (by kernel_rfl) ?_
        refine wl_cmp rfl rfl rfl false (cb_gt_f (a := on) (b := 0) rfl rfl (by omega)) (by decide) ?_
        refine wl_pure rfl rfl (v := .bool false) (by decide) (by kernel_rfl) ?_
        refine wl_nil ?_
        refine eo_then ?_
        refine cw_false rfl ?_
        refine cw_skip ?_
        refine eo_block_normal ?_
        refine eo_then ?_
        refine cw_region ?_
        refine wl_move rfl rfl (by decide) ?_
        refine wl_ar rfl rfl rfl ((i + 1 : Nat) : Int) (ai_add (a := i) (b := 1) rfl rfl (by omega)) (by decide) ?_
        refine wl_assign rfl rfl (by decide) ?_
        refine wl_nil ?_
        have htk : (bs.take (i + 1)).map dv = (bs.take i).map dv ++ [dv (bs.getD i 0)] := by rw [take_snoc4 hlt, List.map_append]; rfl
        refine eo_round (⟨v9, i + 1, OA, on, oc⟩ : World × Nat × Option Addr × Nat × Nat) ⟨hw2, (by rw [htk, lead_snoc, if_pos ⟨hl0, hd0⟩]; have h := (hO.ext e10); rwa [hl0] at h), (by omega), (fun c hc => by rw [take_snoc4 hlt] at hc; rcases List.mem_append.1 hc with h | h; (· exact hok c h); (· rw [List.mem_singleton.1 h]; exact hdc)), (hao.ext e10)⟩ (show bs.length - (i + 1) < bs.length - i by omega) rfl ⟨rfl, rfl, rfl, rfl, rfl, rfl, rfl, trivial⟩
  ·
    have hie : i = bs.length := by omega
    rw [hie, List.take_length] at hok
    rw [hie, List.take_length] at hO
    rw [hie, List.take_length] at hon
    refine cw_region ?_
    refine wl_move rfl rfl (by decide) ?_
    refine wl_move rfl rfl (by decide) ?_
    refine wl_pureE rfl rfl (v := .int .i64 (((strB bs).size : Nat) : Int)) (v' := .int .i64 ((bs.length : Nat) : Int)) (by decide) (by kernel_rfl) (by rw [strB_size]) ?_
    refine wl_cmp rfl rfl rfl false (cb_lt_f (a := i) (b := bs.length) rfl rfl (by omega)) (by decide) ?_
    refine wl_nil ?_
    refine eo_then ?_
    refine cw_false rfl ?_
    refine cw_exit ?_
    refine eo_thenX ?_
    refine eo_loopX ?_
    refine eo_block_here ?_
    refine eo_then ?_
    refine cw_seq ?_
    refine cw_seq ?_
    refine cw_region ?_
    refine wl_move rfl rfl (by decide) ?_
    refine wl_pure rfl rfl (v := .bool false) (by decide) (by kernel_rfl) ?_
    refine wl_nil ?_
    refine eo_then ?_
    refine cw_false rfl ?_
    refine cw_skip ?_
    refine eo_then ?_
    refine cw_seq ?_
    refine cw_seq ?_
    by_cases hon0 : on = 0
    ·
      have hl0 : lead (bs.map dv) = [] := by rw [← List.length_eq_zero_iff]; omega
      refine cw_region ?_
      refine wl_move rfl rfl (by decide) ?_
      refine wl_pure rfl rfl (v := .int .i64 ((on : Nat) : Int)) (by decide) (by kernel_rfl) ?_
      refine wl_cmp rfl rfl rfl true (cb_eq_t (a := on) (b := 0) rfl rfl (by omega)) (by decide) ?_
      refine wl_nil ?_
      refine eo_then ?_
      refine cw_true rfl ?_
      rw [hl0] at hO
      refine cw_region ?_
      refine wl_move rfl rfl (by decide) ?_
      refine wl_bslice rfl rfl (by decide) (k := 1) (e := 5) [.int .u8 48] (fun _ => by kernel_rfl) fun g61 v62 nb => ?_
      have hb63 := nb.bk
      have e64 := nb.ext
      clear nb
      have hw2 : Ext w v62 := hw1.trans e64
      have ow65 := (hO.ext e64)
      refine wl_app rfl rfl rfl un_u8 info8 rfl (by decide) (by decide) ow65 hw2.size [.int .u8 48] rfl (one_news _ hb63) rfl (by omega) (by decide) fun A66 c67 v68 ho69 uo70 kp71 => ?_
      have hw3 : Ext w v68 := uo70.ext hw2 (fun p hp => (ow65.block p hp).1)
      have ho72 : Own v68 w.heap.size 5 1 A66 (on + 1) c67 (([48]).map B8) := by have h := ho69; simp only [List.map_cons, List.map_nil] at h ⊢; exact h
      refine wl_assign rfl rfl (by decide) ?_
      refine wl_nil ?_
      refine eo_then ?_
      refine cw_seq ?_
      refine cw_region ?_
      refine wl_move rfl rfl (by decide) ?_
      refine wl_move rfl rfl (by decide) ?_
      refine wl_call rfl rfl (vs := [.slice A8 n8 c8, .int .i64 ((base : Nat) : Int)]) (by kernel_rfl) (by decide) (rx_Text (base := base) (hS.ext hw3) ((hao.ext e64).updOT ow65 (by decide) uo70).wi (by omega) (by omega) (by omega)) ?_
      rintro _ v73 ⟨xr75, rfl, r75, e74⟩
      refine ret_intro ?_
      have hw4 : Ext w v73 := hw3.trans e74
      obtain ⟨a76_0, a76_1, rfl, r76_0, r76_1⟩ := r75
      obtain rfl := r76_0
      obtain rfl := r76_1
      refine wl_move rfl rfl (by decide) ?_
      refine wl_pure rfl rfl (v := .string (strB (txtN base (vald base (bs.map dv))))) (by decide) (by kernel_rfl) ?_
      refine wl_pure rfl rfl (v := .int .i64 0) (by decide) (by kernel_rfl) ?_
      refine wl_assign rfl rfl (by decide) ?_
      refine wl_assign rfl rfl (by decide) ?_
      refine wl_nil ?_
      refine eo_then ?_
      refine cw_seq ?_
      refine cw_region ?_
      refine wl_move rfl rfl (by decide) ?_
      refine wl_cmp rfl rfl rfl true (by decide) (by decide) ?_
      refine wl_move rfl rfl (by decide) ?_
      refine wl_move rfl rfl (by decide) ?_
      refine wl_cmp rfl rfl rfl true (by decide) (by decide) ?_
      refine wl_pure rfl rfl (v := .bool true) (by decide) (by kernel_rfl) ?_
      refine wl_move rfl rfl (by decide) ?_
      refine wl_move rfl rfl (by decide) ?_
      refine wl_move rfl rfl (by decide) ?_
      refine wl_toStr rfl rfl (ho72.ext e74) (by decide) ?_
      refine wl_streq (a := txtN base (vald base (bs.map dv))) (b := [48]) rfl rfl rfl (txtN_lt hbl hbu) (by decide) true (strE_eql_t (by rw [txtN_lead hbl (dig_map hg.2), if_pos hl0])) (by decide) ?_
      refine wl_pure rfl rfl (v := .bool true) (by decide) (by kernel_rfl) ?_
      refine wl_assign rfl rfl (by decide) ?_
      refine wl_nil ?_
      refine eo_then ?_
      refine cw_ret ?_
      refine eo_ret [.bool true] rfl ⟨rfl, trivial⟩ ?_
      exact ⟨_, rfl, rfl, hw4⟩
    ·
      have hl0 : lead (bs.map dv) ≠ [] := fun e => by rw [e] at hon; simp at hon; omega
      refine cw_region ?_
      refine wl_move rfl rfl (by decide) ?_
      refine wl_pure rfl rfl (v := .int .i64 ((on : Nat) : Int)) (by decide) (by kernel_rfl) ?_
      refine wl_cmp rfl rfl rfl false (cb_eq_f (a := on) (b := 0) rfl rfl (by omega)) (by decide) ?_
      refine wl_nil ?_
      refine eo_then ?_
      refine cw_false rfl ?_
      refine cw_skip ?_
      refine eo_then ?_
      refine cw_seq ?_
      refine cw_region ?_
      refine wl_move rfl rfl (by decide) ?_
      refine wl_move rfl rfl (by decide) ?_
      refine wl_call rfl rfl (vs := [.slice A8 n8 c8, .int .i64 ((base : Nat) : Int)]) (by kernel_rfl) (by decide) (rx_Text (base := base) (hS.ext hw1) hao.wi (by omega) (by omega) (by omega)) ?_
      rintro _ v77 ⟨xr79, rfl, r79, e78⟩
      refine ret_intro ?_
      have hw2 : Ext w v77 := hw1.trans e78
      obtain ⟨a80_0, a80_1, rfl, r80_0, r80_1⟩ := r79
      obtain rfl := r80_0
      obtain rfl := r80_1
      refine wl_move rfl rfl (by decide) ?_
      refine wl_pure rfl rfl (v := .string (strB (txtN base (vald base (bs.map dv))))) (by decide) (by kernel_rfl) ?_
      refine wl_pure rfl rfl (v := .int .i64 0) (by decide) (by kernel_rfl) ?_
      refine wl_assign rfl rfl (by decide) ?_
      refine wl_assign rfl rfl (by decide) ?_
      refine wl_nil ?_
      refine eo_then ?_
      refine cw_seq ?_
      refine cw_region ?_
      refine wl_move rfl rfl (by decide) ?_
      refine wl_cmp rfl rfl rfl true (by decide) (by decide) ?_
      refine wl_move rfl rfl (by decide) ?_
      refine wl_move rfl rfl (by decide) ?_
      refine wl_cmp rfl rfl rfl true (by decide) (by decide) ?_
      refine wl_pure rfl rfl (v := .bool true) (by decide) (by kernel_rfl) ?_
      refine wl_move rfl rfl (by decide) ?_
      refine wl_move rfl rfl (by decide) ?_
      refine wl_move rfl rfl (by decide) ?_
      refine wl_toStr rfl rfl (hO.ext e78) (by decide) ?_
      refine wl_streq (a := txtN base (vald base (bs.map dv))) (b := (lead (bs.map dv)).map sgn) rfl rfl rfl (txtN_lt hbl hbu) (sgn_lt256 hbu hg.2) true (strE_eql_t (by rw [txtN_lead hbl (dig_map hg.2), if_neg hl0])) (by decide) ?_
      refine wl_pure rfl rfl (v := .bool true) (by decide) (by kernel_rfl) ?_
      refine wl_assign rfl rfl (by decide) ?_
      refine wl_nil ?_
      refine eo_then ?_
      refine cw_ret ?_
      refine eo_ret [.bool true] rfl ⟨rfl, trivial⟩ ?_
      exact ⟨_, rfl, rfl, hw2⟩
set_option maxHeartbeats 4000000 in
theorem law_RadixThere_no {w : World} {bs : List Nat} (hbs : ∀ b, b ∈ bs → b < 256) (hlen : bs.length ≤ 1048576) {base : Nat} (hbl : 2 ≤ base) (hbu : base ≤ 36) (hg : ¬ Good base bs) (hS : Signs w) :
    Calls Tryd.prog 5 #[.string (strB bs), .int .i64 ((base : Nat) : Int)] w (Gv w (Is (.bool true))) := by
  refine sx_enter Tryd.func5 rfl (n := 107) rfl (Nat.le_of_ble_eq_true rfl) (args := [.string (strB bs), .int .i64 ((base : Nat) : Int)]) ?_
  refine cw_keep [(0, .string (strB bs)), (1, .int .i64 ((base : Nat) : Int))] ⟨rfl, rfl, trivial⟩ ?_
  refine cw_seq ?_
  refine cw_region ?_
  refine wl_assign rfl rfl (by decide) ?_
  refine wl_nil ?_
  refine eo_then ?_
  refine cw_seq ?_
  refine cw_seq ?_
  refine cw_region ?_
  refine wl_call rfl rfl (vs := []) (by kernel_rfl) (by decide) (g_law4_awake (hS.ext (Ext.refl w))) ?_
  rintro _ v1 ⟨xr3, rfl, r3, e2⟩
  refine ret_intro ?_
  have hw1 : Ext w v1 := (Ext.refl w).trans e2
  obtain rfl := r3
  refine wl_pure rfl rfl (v := .bool false) (by decide) (by kernel_rfl) ?_
  refine wl_nil ?_
  refine eo_then ?_
  refine cw_false rfl ?_
  refine cw_skip ?_
  refine eo_then ?_
  refine cw_seq ?_
  refine cw_region ?_
  refine wl_move rfl rfl (by decide) ?_
  refine wl_move rfl rfl (by decide) ?_
  refine wl_call rfl rfl (vs := [.string (strB bs), .int .i64 ((base : Nat) : Int)]) (by kernel_rfl) (by decide) (rx_Read_bad hbl hbu hbs (by omega) hg) ?_
  rintro _ v4 ⟨xr6, rfl, r6, e5⟩
  refine ret_intro ?_
  have hw2 : Ext w v4 := hw1.trans e5
  obtain ⟨a7_0, a7_1, rfl, r7_0, r7_1⟩ := r6
  obtain rfl := r7_0
  obtain rfl := r7_1
  refine wl_move rfl rfl (by decide) ?_
  refine wl_pure rfl rfl (v := .slice none 0 0) (by decide) (by kernel_rfl) ?_
  refine wl_pure rfl rfl (v := .int .i64 7) (by decide) (by kernel_rfl) ?_
  refine wl_assign rfl rfl (by decide) ?_
  refine wl_assign rfl rfl (by decide) ?_
  refine wl_nil ?_
  refine eo_then ?_
  refine cw_seq ?_
  refine cw_seq ?_
  refine cw_region ?_
  refine wl_move rfl rfl (by decide) ?_
  refine wl_cmp rfl rfl rfl false (cb_lt_f (a := base) (b := 2) rfl rfl (by omega)) (by decide) ?_
  refine wl_move rfl rfl (by decide) ?_
  refine wl_move rfl rfl (by decide) ?_
  refine wl_cmp rfl rfl rfl false (cb_gt_f (a := base) (b := 36) rfl rfl (by omega)) (by decide) ?_
  refine wl_pure rfl rfl (v := .bool false) (by decide) (by kernel_rfl) ?_
  refine wl_nil ?_
  refine eo_then ?_
  refine cw_false rfl ?_
  refine cw_skip ?_
  refine eo_then ?_
  refine cw_seq ?_
  by_cases hne : bs = []
  ·
    refine cw_region ?_
    refine wl_move rfl rfl (by decide) ?_
    refine wl_streq (a := bs) (b := []) rfl rfl rfl hbs (by decide) false (strE_neq_t (hne)) (by decide) ?_
    refine wl_assign rfl rfl (by decide) ?_
    refine wl_nil ?_
    refine eo_then ?_
    refine cw_seq ?_
    refine cw_region ?_
    refine wl_assign rfl rfl (by decide) ?_
    refine wl_nil ?_
    refine eo_then ?_
    refine cw_seq ?_
    refine cw_seq ?_
    refine cw_region ?_
    refine wl_assign rfl rfl (by decide) ?_
    refine wl_nil ?_
    refine eo_then ?_
    refine cw_block ?_
    refine cw_loop (T := World × Nat × Option Addr × Nat × Nat)
      (fun ⟨wr, i, OA, on, oc⟩ => [(0, .string (strB bs)), (1, .int .i64 ((base : Nat) : Int)), (5, .slice none 0 0), (6, .int .i64 7), (7, .bool false), (8, .slice OA on oc), (9, .int .i64 ((i : Nat) : Int))])
      (fun ⟨wr, i, OA, on, oc⟩ => wr)
      (fun ⟨wr, i, OA, on, oc⟩ => (Ext w wr) ∧ (Own wr w.heap.size 5 1 OA on oc (((lead ((bs.take i).map dv)).map sgn).map B8)) ∧ (i ≤ bs.length) ∧ (∀ c, c ∈ bs.take i → dv c < base))
      (fun ⟨wr, i, OA, on, oc⟩ => bs.length - i)
      (⟨v4, 0, none, 0, 0⟩ : World × Nat × Option Addr × Nat × Nat) ⟨hw2, (Own.nil _ _ _ _), (Nat.zero_le _), (fun c hc => absurd hc (by simp))⟩ rfl ⟨rfl, rfl, rfl, rfl, rfl, rfl, rfl, trivial⟩ ?_
    rintro ⟨wr, i, OA, on, oc⟩ ⟨hw1, hO, hi, hok⟩
    refine cw_re [(0, .string (strB bs)), (1, .int .i64 ((base : Nat) : Int)), (5, .slice none 0 0), (6, .int .i64 7), (7, .bool false), (8, .slice OA on oc), (9, .int .i64 ((i : Nat) : Int))] wr rfl ⟨rfl, rfl, rfl, rfl, rfl, rfl, rfl, trivial⟩ ?_
    have hon := own_len hO
    simp only [List.length_map] at hon
    have hon2 : on ≤ 1048576 := by have h1 := lead_len ((bs.take i).map dv); rw [List.length_map, List.length_take] at h1; omega
    refine cw_seq ?_
    refine cw_seq ?_
    by_cases hlt : i < bs.length
    ·
      refine cw_region ?_
      refine wl_move rfl rfl (by decide) ?_
      refine wl_move rfl rfl (by decide) ?_
      refine wl_pureE rfl rfl (v := .int .i64 (((strB bs).size : Nat) : Int)) (v' := .int .i64 ((bs.length : Nat) : Int)) (by decide) (by kernel_rfl) (by rw [strB_size]) ?_
      refine wl_cmp rfl rfl rfl true (cb_lt_t (a := i) (b := bs.length) rfl rfl (by omega)) (by decide) ?_
      refine wl_nil ?_
      refine eo_then ?_
      refine cw_true rfl ?_
      refine cw_skip ?_
      refine eo_then ?_
      refine cw_seq ?_
      refine cw_block ?_
      refine cw_seq ?_
      have hc255 : bs.getD i 0 ≤ 255 := by have := hbs _ (getD_mem hlt); omega
      by_cases hdc : dv (bs.getD i 0) < base
      ·
        refine cw_region ?_
        refine wl_move rfl rfl (by decide) ?_
        refine wl_move rfl rfl (by decide) ?_
        refine wl_strix (bs := bs) (i := i) rfl rfl rfl Tryd.underlying9 hbs (by omega) (by decide) ?_
        refine wl_move rfl rfl (by decide) ?_
        refine wl_call rfl rfl (vs := [.int .u8 ((bs.getD i 0 : Nat) : Int), .int .i64 ((base : Nat) : Int)]) (by kernel_rfl) (by decide) (g_sign_ok hc255 hbu hdc) ?_
        rintro _ v8 ⟨xr10, rfl, r10, e9⟩
        refine ret_intro ?_
        have hw2 : Ext w v8 := hw1.trans e9
        obtain ⟨a11_0, a11_1, rfl, r11_0, r11_1⟩ := r10
        obtain rfl := r11_0
        obtain rfl := r11_1
        refine wl_move rfl rfl (by decide) ?_
        refine wl_pure rfl rfl (v := .int .i64 ((dv (bs.getD i 0) : Nat) : Int)) (by decide) (by kernel_rfl) ?_
        refine wl_pure rfl rfl (v := .bool true) (by decide) (by kernel_rfl) ?_
        refine wl_assign rfl rfl (by decide) ?_
        refine wl_assign rfl rfl (by decide) ?_
        refine wl_nil ?_
        refine eo_then ?_
        refine cw_seq ?_
        refine cw_seq ?_
        refine cw_region ?_
        refine wl_move rfl rfl (by decide) ?_
        refine wl_pure rfl rfl (v := .bool false) (by decide) (by kernel_rfl) ?_
        refine wl_nil ?_
        refine eo_then ?_
        refine cw_false rfl ?_
        refine cw_skip ?_
        refine eo_then ?_
        refine cw_seq ?_
        by_cases hdp : dv (bs.getD i 0) > 0
        ·
          refine cw_region ?_
          refine wl_move rfl rfl (by decide) ?_
          refine wl_cmp rfl rfl rfl true (cb_gt_t (a := dv (bs.getD i 0)) (b := 0) rfl rfl (by omega)) (by decide) ?_
          refine wl_move rfl rfl (by decide) ?_
          refine wl_off rfl (by decide) ?_
          refine wl_off rfl (by decide) ?_
          refine wl_off rfl (by decide) ?_
          refine wl_pure rfl rfl (v := .bool true) (by decide) (by kernel_rfl) ?_
          refine wl_nil ?_
          refine eo_then ?_
          refine cw_true rfl ?_
          refine cw_seq ?_
          have hd36 : dv (bs.getD i 0) < 36 := by omega
          refine cw_region ?_
          refine wl_move rfl rfl (by decide) ?_
          refine wl_ar rfl rfl rfl ((48 + (dv (bs.getD i 0)) : Nat) : Int) (ai_add (a := 48) (b := dv (bs.getD i 0)) rfl rfl (by omega)) (by decide) ?_
          refine wl_pureE rfl rfl (v := .int .u8 (IntKind.u8.wrap ((48 + (dv (bs.getD i 0)) : Nat) : Int))) (v' := .int .u8 ((48 + (dv (bs.getD i 0)) : Nat) : Int)) (by decide) (by kernel_rfl) (cv_u8 (by omega)) ?_
          refine wl_assign rfl rfl (by decide) ?_
          refine wl_nil ?_
          refine eo_then ?_
          refine cw_seq ?_
          refine cw_seq ?_
          by_cases hd9 : dv (bs.getD i 0) > 9
          ·
            refine cw_region ?_
            refine wl_move rfl rfl (by decide) ?_
            refine wl_cmp rfl rfl rfl true (cb_gt_t (a := dv (bs.getD i 0)) (b := 9) rfl rfl (by omega)) (by decide) ?_
            refine wl_nil ?_
            refine eo_then ?_
            refine cw_true rfl ?_
            refine cw_region ?_
            refine wl_move rfl rfl (by decide) ?_
            refine wl_ar rfl rfl rfl ((97 + (dv (bs.getD i 0)) : Nat) : Int) (ai_add (a := 97) (b := dv (bs.getD i 0)) rfl rfl (by omega)) (by decide) ?_
            refine wl_ar rfl rfl rfl (((97 + (dv (bs.getD i 0))) - 10 : Nat) : Int) (ai_sub (a := 97 + (dv (bs.getD i 0))) (b := 10) rfl rfl (by omega) (by omega)) (by decide) ?_
            refine wl_pureE rfl rfl (v := .int .u8 (IntKind.u8.wrap (((97 + (dv (bs.getD i 0))) - 10 : Nat) : Int))) (v' := .int .u8 (((97 + (dv (bs.getD i 0))) - 10 : Nat) : Int)) (by decide) (by kernel_rfl) (cv_u8 (by omega)) ?_
            refine wl_assign rfl rfl (by decide) ?_
            refine wl_nil ?_
            refine eo_then ?_
            have hsg : (97 + (dv (bs.getD i 0))) - 10 = sgn (dv (bs.getD i 0)) := by unfold sgn; split <;> omega
            refine cw_keep [(0, .string (strB bs)), (1, .int .i64 ((base : Nat) : Int)), (5, .slice none 0 0), (6, .int .i64 7), (7, .bool false), (8, .slice OA on oc), (9, .int .i64 ((i : Nat) : Int)), (38, .int .i64 ((i : Nat) : Int)), (39, .string (strB bs)), (40, .int .i64 ((bs.length : Nat) : Int)), (41, .bool true), (45, .string (strB bs)), (46, .int .i64 ((i : Nat) : Int)), (47, .int .u8 ((bs.getD i 0 : Nat) : Int)), (48, .int .i64 ((base : Nat) : Int)), (49, .tuple #[.int .i64 ((dv (bs.getD i 0) : Nat) : Int), .bool true]), (44, .tuple #[.int .i64 ((dv (bs.getD i 0) : Nat) : Int), .bool true]), (50, .int .i64 ((dv (bs.getD i 0) : Nat) : Int)), (51, .bool true), (10, .int .i64 ((dv (bs.getD i 0) : Nat) : Int)), (11, .bool true), (52, .bool true), (53, .bool false), (54, .int .i64 ((dv (bs.getD i 0) : Nat) : Int)), (55, .bool true), (56, .bool true), (57, undef), (58, undef), (59, undef), (60, .bool true), (61, .int .i64 ((dv (bs.getD i 0) : Nat) : Int)), (62, .int .i64 ((48 + (dv (bs.getD i 0)) : Nat) : Int)), (63, .int .u8 ((48 + (dv (bs.getD i 0)) : Nat) : Int)), (12, .int .u8 (((97 + (dv (bs.getD i 0))) - 10 : Nat) : Int)), (64, .int .i64 ((dv (bs.getD i 0) : Nat) : Int)), (65, .bool true), (66, .int .i64 ((dv (bs.getD i 0) : Nat) : Int)), (67, .int .i64 ((97 + (dv (bs.getD i 0)) : Nat) : Int)), (68, .int .i64 (((97 + (dv (bs.getD i 0))) - 10 : Nat) : Int)), (69, .int .u8 (((97 + (dv (bs.getD i 0))) - 10 : Nat) : Int))] ⟨rfl, rfl, rfl, rfl, rfl, rfl, rfl, rfl, rfl, rfl, rfl, rfl, rfl, rfl, rfl, rfl, rfl, rfl, rfl, rfl, rfl, rfl, rfl, rfl, rfl, rfl, rfl, rfl, rfl, rfl, rfl, rfl, rfl, rfl, rfl, rfl, rfl, rfl, rfl, rfl, trivial⟩ ?_
            rw [hsg]
            refine cw_region ?_
            refine wl_move rfl rfl (by decide) ?_
            refine wl_move rfl rfl (by decide) ?_
            refine wl_bslice rfl rfl (by decide) (k := 1) (e := 5) [.int .u8 ((sgn (dv (bs.getD i 0)) : Nat) : Int)] (fun _ => by kernel_rfl) fun g12 v13 nb => ?_
            have hb14 := nb.bk
            have e15 := nb.ext
            clear nb
            have hw3 : Ext w v13 := hw2.trans e15
            have ow16 := (hO.ext (e9.trans e15))
            refine wl_app rfl rfl rfl un_u8 info8 rfl (by decide) (by decide) ow16 hw3.size [.int .u8 ((sgn (dv (bs.getD i 0)) : Nat) : Int)] rfl (one_news _ hb14) rfl (by omega) (by decide) fun A17 c18 v19 ho20 uo21 kp22 => ?_
            have hw4 : Ext w v19 := uo21.ext hw3 (fun p hp => (ow16.block p hp).1)
            have ho23 : Own v19 w.heap.size 5 1 A17 (on + 1) c18 ((((lead ((bs.take i).map dv)).map sgn) ++ [sgn (dv (bs.getD i 0))]).map B8) := by have h := ho20; simp only [List.map_append, List.map_cons, List.map_nil] at h ⊢; exact h
            refine wl_assign rfl rfl (by decide) ?_
            refine wl_nil ?_
            refine eo_block_normal ?_
            refine eo_then ?_
            refine cw_region ?_
            refine wl_move rfl rfl (by decide) ?_
            refine wl_ar rfl rfl rfl ((i + 1 : Nat) : Int) (ai_add (a := i) (b := 1) rfl rfl (by omega)) (by decide) ?_
            refine wl_assign rfl rfl (by decide) ?_
            refine wl_nil ?_
            have htk : (bs.take (i + 1)).map dv = (bs.take i).map dv ++ [dv (bs.getD i 0)] := by rw [take_snoc4 hlt, List.map_append]; rfl
            refine eo_round (⟨v19, i + 1, A17, on + 1, c18⟩ : World × Nat × Option Addr × Nat × Nat) ⟨hw4, (by rw [htk, lead_snoc, if_neg (fun h => by omega), List.map_append, List.map_cons, List.map_nil]; exact ho23), (by omega), (fun c hc => by rw [take_snoc4 hlt] at hc; rcases List.mem_append.1 hc with h | h; (· exact hok c h); (· rw [List.mem_singleton.1 h]; exact hdc))⟩ (show bs.length - (i + 1) < bs.length - i by omega) rfl ⟨rfl, rfl, rfl, rfl, rfl, rfl, rfl, trivial⟩
          ·
            refine cw_region ?_
            refine wl_move rfl rfl (by decide) ?_
            refine wl_cmp rfl rfl rfl false (cb_gt_f (a := dv (bs.getD i 0)) (b := 9) rfl rfl (by omega)) (by decide) ?_
            refine wl_nil ?_
            refine eo_then ?_
            refine cw_false rfl ?_
            refine cw_skip ?_
            refine eo_then ?_
            have hsg : 48 + (dv (bs.getD i 0)) = sgn (dv (bs.getD i 0)) := by unfold sgn; split <;> omega
            refine cw_keep [(0, .string (strB bs)), (1, .int .i64 ((base : Nat) : Int)), (5, .slice none 0 0), (6, .int .i64 7), (7, .bool false), (8, .slice OA on oc), (9, .int .i64 ((i : Nat) : Int)), (38, .int .i64 ((i : Nat) : Int)), (39, .string (strB bs)), (40, .int .i64 ((bs.length : Nat) : Int)), (41, .bool true), (45, .string (strB bs)), (46, .int .i64 ((i : Nat) : Int)), (47, .int .u8 ((bs.getD i 0 : Nat) : Int)), (48, .int .i64 ((base : Nat) : Int)), (49, .tuple #[.int .i64 ((dv (bs.getD i 0) : Nat) : Int), .bool true]), (44, .tuple #[.int .i64 ((dv (bs.getD i 0) : Nat) : Int), .bool true]), (50, .int .i64 ((dv (bs.getD i 0) : Nat) : Int)), (51, .bool true), (10, .int .i64 ((dv (bs.getD i 0) : Nat) : Int)), (11, .bool true), (52, .bool true), (53, .bool false), (54, .int .i64 ((dv (bs.getD i 0) : Nat) : Int)), (55, .bool true), (56, .bool true), (57, undef), (58, undef), (59, undef), (60, .bool true), (61, .int .i64 ((dv (bs.getD i 0) : Nat) : Int)), (62, .int .i64 ((48 + (dv (bs.getD i 0)) : Nat) : Int)), (63, .int .u8 ((48 + (dv (bs.getD i 0)) : Nat) : Int)), (12, .int .u8 ((48 + (dv (bs.getD i 0)) : Nat) : Int)), (64, .int .i64 ((dv (bs.getD i 0) : Nat) : Int)), (65, .bool false)] ⟨rfl, rfl, rfl, rfl, rfl, rfl, rfl, rfl, rfl, rfl, rfl, rfl, rfl, rfl, rfl, rfl, rfl, rfl, rfl, rfl, rfl, rfl, rfl, rfl, rfl, rfl, rfl, rfl, rfl, rfl, rfl, rfl, rfl, rfl, rfl, rfl, trivial⟩ ?_
            rw [hsg]
            refine cw_region ?_
            refine wl_move rfl rfl (by decide) ?_
            refine wl_move rfl rfl (by decide) ?_
            refine wl_bslice rfl rfl (by decide) (k := 1) (e := 5) [.int .u8 ((sgn (dv (bs.getD i 0)) : Nat) : Int)] (fun _ => by kernel_rfl) fun g24 v25 nb => ?_
            have hb26 := nb.bk
            have e27 := nb.ext
            clear nb
            have hw3 : Ext w v25 := hw2.trans e27
            have ow28 := (hO.ext (e9.trans e27))
            refine wl_app rfl rfl rfl un_u8 info8 rfl (by decide) (by decide) ow28 hw3.size [.int .u8 ((sgn (dv (bs.getD i 0)) : Nat) : Int)] rfl (one_news _ hb26) rfl (by omega) (by decide) fun A29 c30 v31 ho32 uo33 kp34 => ?_
            have hw4 : Ext w v31 := uo33.ext hw3 (fun p hp => (ow28.block p hp).1)
            have ho35 : Own v31 w.heap.size 5 1 A29 (on + 1) c30 ((((lead ((bs.take i).map dv)).map sgn) ++ [sgn (dv (bs.getD i 0))]).map B8) := by have h := ho32; simp only [List.map_append, List.map_cons, List.map_nil] at h ⊢; exact h
            refine wl_assign rfl rfl (by decide) ?_
            refine wl_nil ?_
            refine eo_block_normal ?_
            refine eo_then ?_
            refine cw_region ?_
            refine wl_move rfl rfl (by decide) ?_
            refine wl_ar rfl rfl rfl ((i + 1 : Nat) : Int) (ai_add (a := i) (b := 1) rfl rfl (by omega)) (by decide) ?_
            refine wl_assign rfl rfl (by decide) ?_
            refine wl_nil ?_
            have htk : (bs.take (i + 1)).map dv = (bs.take i).map dv ++ [dv (bs.getD i 0)] := by rw [take_snoc4 hlt, List.map_append]; rfl
            refine eo_round (⟨v31, i + 1, A29, on + 1, c30⟩ : World × Nat × Option Addr × Nat × Nat) ⟨hw4, (by rw [htk, lead_snoc, if_neg (fun h => by omega), List.map_append, List.map_cons, List.map_nil]; exact ho35), (by omega), (fun c hc => by rw [take_snoc4 hlt] at hc; rcases List.mem_append.1 hc with h | h; (· exact hok c h); (· rw [List.mem_singleton.1 h]; exact hdc))⟩ (show bs.length - (i + 1) < bs.length - i by omega) rfl ⟨rfl, rfl, rfl, rfl, rfl, rfl, rfl, trivial⟩
        ·
          have hd0 : dv (bs.getD i 0) = 0 := by omega
          by_cases hon0 : on > 0
          ·
            have hl0 : lead ((bs.take i).map dv) ≠ [] := fun e => by rw [e] at hon; simp at hon; omega
            refine cw_region ?_
            refine wl_move rfl rfl (by decide) ?_
            refine wl_cmp rfl rfl rfl false (cb_gt_f (a := dv (bs.getD i 0)) (b := 0) rfl rfl (by omega)) (by decide) ?_
            refine wl_move rfl rfl (by decide) ?_
            refine wl_move rfl rfl (by decide) ?_
            refine wl_pure rfl rfl (v := .int .i64 ((on : Nat) : Int)) (by decide) (by kernel_rfl) ?_
            refine wl_cmp rfl rfl rfl true (cb_gt_t (a := on) (b := 0) rfl rfl (by omega)) (by decide) ?_
            refine wl_pure rfl rfl (v := .bool true) (by decide) (by kernel_rfl) ?_
            refine wl_nil ?_
            refine eo_then ?_
            refine cw_true rfl ?_
            refine cw_seq ?_
            have hd36 : dv (bs.getD i 0) < 36 := by omega
            refine cw_region ?_
            refine wl_move rfl rfl (by decide) ?_
            refine wl_ar rfl rfl rfl ((48 + (dv (bs.getD i 0)) : Nat) : Int) (ai_add (a := 48) (b := dv (bs.getD i 0)) rfl rfl (by omega)) (by decide) ?_
            refine wl_pureE rfl rfl (v := .int .u8 (IntKind.u8.wrap ((48 + (dv (bs.getD i 0)) : Nat) : Int))) (v' := .int .u8 ((48 + (dv (bs.getD i 0)) : Nat) : Int)) (by decide) (by kernel_rfl) (cv_u8 (by omega)) ?_
            refine wl_assign rfl rfl (by decide) ?_
            refine wl_nil ?_
            refine eo_then ?_
            refine cw_seq ?_
            refine cw_seq ?_
            by_cases hd9 : dv (bs.getD i 0) > 9
            ·
              refine cw_region ?_
              refine wl_move rfl rfl (by decide) ?_
              refine wl_cmp rfl rfl rfl true (cb_gt_t (a := dv (bs.getD i 0)) (b := 9) rfl rfl (by omega)) (by decide) ?_
              refine wl_nil ?_
              refine eo_then ?_
              refine cw_true rfl ?_
              refine cw_region ?_
              refine wl_move rfl rfl (by decide) ?_
              refine wl_ar rfl rfl rfl ((97 + (dv (bs.getD i 0)) : Nat) : Int) (ai_add (a := 97) (b := dv (bs.getD i 0)) rfl rfl (by omega)) (by decide) ?_
              refine wl_ar rfl rfl rfl (((97 + (dv (bs.getD i 0))) - 10 : Nat) : Int) (ai_sub (a := 97 + (dv (bs.getD i 0))) (b := 10) rfl rfl (by omega) (by omega)) (by decide) ?_
              refine wl_pureE rfl rfl (v := .int .u8 (IntKind.u8.wrap (((97 + (dv (bs.getD i 0))) - 10 : Nat) : Int))) (v' := .int .u8 (((97 + (dv (bs.getD i 0))) - 10 : Nat) : Int)) (by decide) (by kernel_rfl) (cv_u8 (by omega)) ?_
              refine wl_assign rfl rfl (by decide) ?_
              refine wl_nil ?_
              refine eo_then ?_
              have hsg : (97 + (dv (bs.getD i 0))) - 10 = sgn (dv (bs.getD i 0)) := by unfold sgn; split <;> omega
              refine cw_keep [(0, .string (strB bs)), (1, .int .i64 ((base : Nat) : Int)), (5, .slice none 0 0), (6, .int .i64 7), (7, .bool false), (8, .slice OA on oc), (9, .int .i64 ((i : Nat) : Int)), (38, .int .i64 ((i : Nat) : Int)), (39, .string (strB bs)), (40, .int .i64 ((bs.length : Nat) : Int)), (41, .bool true), (45, .string (strB bs)), (46, .int .i64 ((i : Nat) : Int)), (47, .int .u8 ((bs.getD i 0 : Nat) : Int)), (48, .int .i64 ((base : Nat) : Int)), (49, .tuple #[.int .i64 ((dv (bs.getD i 0) : Nat) : Int), .bool true]), (44, .tuple #[.int .i64 ((dv (bs.getD i 0) : Nat) : Int), .bool true]), (50, .int .i64 ((dv (bs.getD i 0) : Nat) : Int)), (51, .bool true), (10, .int .i64 ((dv (bs.getD i 0) : Nat) : Int)), (11, .bool true), (52, .bool true), (53, .bool false), (54, .int .i64 ((dv (bs.getD i 0) : Nat) : Int)), (55, .bool false), (56, .bool false), (57, .slice OA on oc), (58, .int .i64 ((on : Nat) : Int)), (59, .bool true), (60, .bool true), (61, .int .i64 ((dv (bs.getD i 0) : Nat) : Int)), (62, .int .i64 ((48 + (dv (bs.getD i 0)) : Nat) : Int)), (63, .int .u8 ((48 + (dv (bs.getD i 0)) : Nat) : Int)), (12, .int .u8 (((97 + (dv (bs.getD i 0))) - 10 : Nat) : Int)), (64, .int .i64 ((dv (bs.getD i 0) : Nat) : Int)), (65, .bool true), (66, .int .i64 ((dv (bs.getD i 0) : Nat) : Int)), (67, .int .i64 ((97 + (dv (bs.getD i 0)) : Nat) : Int)), (68, .int .i64 (((97 + (dv (bs.getD i 0))) - 10 : Nat) : Int)), (69, .int .u8 (((97 + (dv (bs.getD i 0))) - 10 : Nat) : Int))] ⟨rfl, rfl, rfl, rfl, rfl, rfl, rfl, rfl, rfl, rfl, rfl, rfl, rfl, rfl, rfl, rfl, rfl, rfl, rfl, rfl, rfl, rfl, rfl, rfl, rfl, rfl, rfl, rfl, rfl, rfl, rfl, rfl, rfl, rfl, rfl, rfl, rfl, rfl, rfl, rfl, trivial⟩ ?_
              rw [hsg]
              refine cw_region ?_
              refine wl_move rfl rfl (by decide) ?_
              refine wl_move rfl rfl (by decide) ?_
              refine wl_bslice rfl rfl (by decide) (k := 1) (e := 5) [.int .u8 ((sgn (dv (bs.getD i 0)) : Nat) : Int)] (fun _ => by kernel_rfl) fun g36 v37 nb => ?_
              have hb38 := nb.bk
              have e39 := nb.ext
              clear nb
              have hw3 : Ext w v37 := hw2.trans e39
              have ow40 := (hO.ext (e9.trans e39))
              refine wl_app rfl rfl rfl un_u8 info8 rfl (by decide) (by decide) ow40 hw3.size [.int .u8 ((sgn (dv (bs.getD i 0)) : Nat) : Int)] rfl (one_news _ hb38) rfl (by omega) (by decide) fun A41 c42 v43 ho44 uo45 kp46 => ?_
              have hw4 : Ext w v43 := uo45.ext hw3 (fun p hp => (ow40.block p hp).1)
              have ho47 : Own v43 w.heap.size 5 1 A41 (on + 1) c42 ((((lead ((bs.take i).map dv)).map sgn) ++ [sgn (dv (bs.getD i 0))]).map B8) := by have h := ho44; simp only [List.map_append, List.map_cons, List.map_nil] at h ⊢; exact h
              refine wl_assign rfl rfl (by decide) ?_
              refine wl_nil ?_
              refine eo_block_normal ?_
              refine eo_then ?_
              refine cw_region ?_
              refine wl_move rfl rfl (by decide) ?_
              refine wl_ar rfl rfl rfl ((i + 1 : Nat) : Int) (ai_add (a := i) (b := 1) rfl rfl (by omega)) (by decide) ?_
              refine wl_assign rfl rfl (by decide) ?_
              refine wl_nil ?_
              have htk : (bs.take (i + 1)).map dv = (bs.take i).map dv ++ [dv (bs.getD i 0)] := by rw [take_snoc4 hlt, List.map_append]; rfl
              refine eo_round (⟨v43, i + 1, A41, on + 1, c42⟩ : World × Nat × Option Addr × Nat × Nat) ⟨hw4, (by rw [htk, lead_snoc, if_neg (fun h => hl0 h.1), List.map_append, List.map_cons, List.map_nil]; exact ho47), (by omega), (fun c hc => by rw [take_snoc4 hlt] at hc; rcases List.mem_append.1 hc with h | h; (· exact hok c h); (· rw [List.mem_singleton.1 h]; exact hdc))⟩ (show bs.length - (i + 1) < bs.length - i by omega) rfl ⟨rfl, rfl, rfl, rfl, rfl, rfl, rfl, trivial⟩
            ·
              refine cw_region ?_
              refine wl_move rfl rfl (by decide) ?_
              refine wl_cmp rfl rfl rfl false (cb_gt_f (a := dv (bs.getD i 0)) (b := 9) rfl rfl (by omega)) (by decide) ?_
              refine wl_nil ?_
              refine eo_then ?_
              refine cw_false rfl ?_
              refine cw_skip ?_
              refine eo_then ?_
              have hsg : 48 + (dv (bs.getD i 0)) = sgn (dv (bs.getD i 0)) := by unfold sgn; split <;> omega
              refine cw_keep [(0, .string (strB bs)), (1, .int .i64 ((base : Nat) : Int)), (5, .slice none 0 0), (6, .int .i64 7), (7, .bool false), (8, .slice OA on oc), (9, .int .i64 ((i : Nat) : Int)), (38, .int .i64 ((i : Nat) : Int)), (39, .string (strB bs)), (40, .int .i64 ((bs.length : Nat) : Int)), (41, .bool true), (45, .string (strB bs)), (46, .int .i64 ((i : Nat) : Int)), (47, .int .u8 ((bs.getD i 0 : Nat) : Int)), (48, .int .i64 ((base : Nat) : Int)), (49, .tuple #[.int .i64 ((dv (bs.getD i 0) : Nat) : Int), .bool true]), (44, .tuple #[.int .i64 ((dv (bs.getD i 0) : Nat) : Int), .bool true]), (50, .int .i64 ((dv (bs.getD i 0) : Nat) : Int)), (51, .bool true), (10, .int .i64 ((dv (bs.getD i 0) : Nat) : Int)), (11, .bool true), (52, .bool true), (53, .bool false), (54, .int .i64 ((dv (bs.getD i 0) : Nat) : Int)), (55, .bool false), (56, .bool false), (57, .slice OA on oc), (58, .int .i64 ((on : Nat) : Int)), (59, .bool true), (60, .bool true), (61, .int .i64 ((dv (bs.getD i 0) : Nat) : Int)), (62, .int .i64 ((48 + (dv (bs.getD i 0)) : Nat) : Int)), (63, .int .u8 ((48 + (dv (bs.getD i 0)) : Nat) : Int)), (12, .int .u8 ((48 + (dv (bs.getD i 0)) : Nat) : Int)), (64, .int .i64 ((dv (bs.getD i 0) : Nat) : Int)), (65, .bool false)] ⟨rfl, rfl, rfl, rfl, rfl, rfl, rfl, rfl, rfl, rfl, rfl, rfl, rfl, rfl, rfl, rfl, rfl, rfl, rfl, rfl, rfl, rfl, rfl, rfl, rfl, rfl, rfl, rfl, rfl, rfl, rfl, rfl, rfl, rfl, rfl, rfl, trivial⟩ ?_
              rw [hsg]
              refine cw_region ?_
              refine wl_move rfl rfl (by decide) ?_
              refine wl_move rfl rfl (by decide) ?_
              refine wl_bslice rfl rfl (by decide) (k := 1) (e := 5) [.int .u8 ((sgn (dv (bs.getD i 0)) : Nat) : Int)] (fun _ => by kernel_rfl) fun g48 v49 nb => ?_
              have hb50 := nb.bk
              have e51 := nb.ext
              clear nb
              have hw3 : Ext w v49 := hw2.trans e51
              have ow52 := (hO.ext (e9.trans e51))
              refine wl_app rfl rfl rfl un_u8 info8 rfl (by decide) (by decide) ow52 hw3.size [.int .u8 ((sgn (dv (bs.getD i 0)) : Nat) : Int)] rfl (one_news _ hb50) rfl (by omega) (by decide) fun A53 c54 v55 ho56 uo57 kp58 => ?_
              have hw4 : Ext w v55 := uo57.ext hw3 (fun p hp => (ow52.block p hp).1)
              have ho59 : Own v55 w.heap.size 5 1 A53 (on + 1) c54 ((((lead ((bs.take i).map dv)).map sgn) ++ [sgn (dv (bs.getD i 0))]).map B8) := by have h := ho56; simp only [List.map_append, List.map_cons, List.map_nil] at h ⊢; exact h
              refine wl_assign rfl rfl (by decide) ?_
              refine wl_nil ?_
              refine eo_block_normal ?_
              refine eo_then ?_
              refine cw_region ?_
              refine wl_move rfl rfl (by decide) ?_
              refine wl_ar rfl rfl rfl ((i + 1 : Nat) : Int) (ai_add (a := i) (b := 1) rfl rfl (by omega)) (by decide) ?_
              refine wl_assign rfl rfl (by decide) ?_
              refine wl_nil ?_
              have htk : (bs.take (i + 1)).map dv = (bs.take i).map dv ++ [dv (bs.getD i 0)] := by rw [take_snoc4 hlt, List.map_append]; rfl
              refine eo_round (⟨v55, i + 1, A53, on + 1, c54⟩ : World × Nat × Option Addr × Nat × Nat) ⟨hw4, (by rw [htk, lead_snoc, if_neg (fun h => hl0 h.1), List.map_append, List.map_cons, List.map_nil]; exact ho59), (by omega), (fun c hc => by rw [take_snoc4 hlt] at hc; rcases List.mem_append.1 hc with h | h; (· exact hok c h); (· rw [List.mem_singleton.1 h]; exact hdc))⟩ (show bs.length - (i + 1) < bs.length - i by omega) rfl ⟨rfl, rfl, rfl, rfl, rfl, rfl, rfl, trivial⟩
          ·
            have hl0 : lead ((bs.take i).map dv) = [] := by rw [← List.length_eq_zero_iff]; omega
            refine cw_region ?_
            refine wl_move rfl rfl (by decide) ?_
            refine wl_cmp rfl rfl rfl false (cb_gt_f (a := dv (bs.getD i 0)) (b := 0) rfl rfl (by omega)) (by decide) ?_
            refine wl_move rfl rfl (by decide) ?_
            refine wl_move rfl rfl (by decide) ?_
            refine wl_pure rfl rfl (v := .int .i64 ((on : Nat) : Int)) (by decide) (by kernel_rfl) ?_
            refine wl_cmp rfl rfl rfl false (cb_gt_f (a := on) (b := 0) rfl rfl (by omega)) (by decide) ?_
            refine wl_pure rfl rfl (v := .bool false) (by decide) (by kernel_rfl) ?_
            refine wl_nil ?_
            refine eo_then ?_
            refine cw_false rfl ?_
            refine cw_skip ?_
            refine eo_block_normal ?_
            refine eo_then ?_
            refine cw_region ?_
            refine wl_move rfl rfl (by decide) ?_
            refine wl_ar rfl rfl rfl ((i + 1 : Nat) : Int) (ai_add (a := i) (b := 1) rfl rfl (by omega)) (by decide) ?_
            refine wl_assign rfl rfl (by decide) ?_
            refine wl_nil ?_
            have htk : (bs.take (i + 1)).map dv = (bs.take i).map dv ++ [dv (bs.getD i 0)] := by rw [take_snoc4 hlt, List.map_append]; rfl
            refine eo_round (⟨v8, i + 1, OA, on, oc⟩ : World × Nat × Option Addr × Nat × Nat) ⟨hw2, (by rw [htk, lead_snoc, if_pos ⟨hl0, hd0⟩]; have h := (hO.ext e9); rwa [hl0] at h), (by omega), (fun c hc => by rw [take_snoc4 hlt] at hc; rcases List.mem_append.1 hc with h | h; (· exact hok c h); (· rw [List.mem_singleton.1 h]; exact hdc))⟩ (show bs.length - (i + 1) < bs.length - i by omega) rfl ⟨rfl, rfl, rfl, rfl, rfl, rfl, rfl, trivial⟩
      ·
        refine cw_region ?_
        refine wl_move rfl rfl (by decide) ?_
        refine wl_move rfl rfl (by decide) ?_
        refine wl_strix (bs := bs) (i := i) rfl rfl rfl Tryd.underlying9 hbs (by omega) (by decide) ?_
        refine wl_move rfl rfl (by decide) ?_
        refine wl_call rfl rfl (vs := [.int .u8 ((bs.getD i 0 : Nat) : Int), .int .i64 ((base : Nat) : Int)]) (by kernel_rfl) (by decide) (g_sign_no hc255 hbu hdc) ?_
        rintro _ v60 ⟨xr62, rfl, r62, e61⟩
        refine ret_intro ?_
        have hw2 : Ext w v60 := hw1.trans e61
        obtain ⟨a63_0, a63_1, rfl, r63_0, r63_1⟩ := r62
        obtain rfl := r63_0
        obtain rfl := r63_1
        refine wl_move rfl rfl (by decide) ?_
        refine wl_pure rfl rfl (v := .int .i64 (sgv (bs.getD i 0))) (by decide) (by kernel_rfl) ?_
        refine wl_pure rfl rfl (v := .bool false) (by decide) (by kernel_rfl) ?_
        refine wl_assign rfl rfl (by decide) ?_
        refine wl_assign rfl rfl (by decide) ?_
        refine wl_nil ?_
        refine eo_then ?_
        refine cw_seq ?_
        refine cw_seq ?_
        refine cw_region ?_
        refine wl_move rfl rfl (by decide) ?_
        refine wl_pure rfl rfl (v := .bool true) (by decide) (by kernel_rfl) ?_
        refine wl_nil ?_
        refine eo_then ?_
        refine cw_true rfl ?_
        refine cw_seq ?_
        refine cw_region ?_
        refine wl_assign rfl rfl (by decide) ?_
        refine wl_nil ?_
        refine eo_then ?_
        refine cw_exit ?_
        refine eo_thenX ?_
        refine eo_block_far (by decide) ?_
        refine eo_thenX ?_
        refine eo_loopX ?_
        refine eo_block_here ?_
        refine eo_then ?_
        refine cw_seq ?_
        refine cw_seq ?_
        refine cw_region ?_
        refine wl_move rfl rfl (by decide) ?_
        refine wl_pure rfl rfl (v := .bool true) (by decide) (by kernel_rfl) ?_
        refine wl_nil ?_
        refine eo_then ?_
        refine cw_true rfl ?_
        refine cw_seq ?_
        refine cw_region ?_
        refine wl_move rfl rfl (by decide) ?_
        refine wl_cmp rfl rfl rfl true (by decide) (by decide) ?_
        refine wl_move rfl rfl (by decide) ?_
        refine wl_move rfl rfl (by decide) ?_
        refine wl_pure rfl rfl (v := .int .i64 0) (by decide) (by kernel_rfl) ?_
        refine wl_cmp rfl rfl rfl true (by decide) (by decide) ?_
        refine wl_pure rfl rfl (v := .bool true) (by decide) (by kernel_rfl) ?_
        refine wl_assign rfl rfl (by decide) ?_
        refine wl_nil ?_
        refine eo_then ?_
        refine cw_ret ?_
        refine eo_thenR ?_
        refine eo_ret [.bool true] rfl ⟨rfl, trivial⟩ ?_
        exact ⟨_, rfl, rfl, hw2⟩
    ·
      have hie : i = bs.length := by omega
      rw [hie, List.take_length] at hok
      refine cw_region ?_
      refine wl_move rfl rfl (by decide) ?_
      refine wl_move rfl rfl (by decide) ?_
      refine wl_pureE rfl rfl (v := .int .i64 (((strB bs).size : Nat) : Int)) (v' := .int .i64 ((bs.length : Nat) : Int)) (by decide) (by kernel_rfl) (by rw [strB_size]) ?_
      refine wl_cmp rfl rfl rfl false (cb_lt_f (a := i) (b := bs.length) rfl rfl (by omega)) (by decide) ?_
      refine wl_nil ?_
      refine eo_then ?_
      refine cw_false rfl ?_
      refine cw_exit ?_
      refine eo_thenX ?_
      refine eo_loopX ?_
      refine eo_block_here ?_
      refine eo_then ?_
      refine cw_seq ?_
      refine cw_seq ?_
      refine cw_region ?_
      refine wl_move rfl rfl (by decide) ?_
      refine wl_pure rfl rfl (v := .bool true) (by decide) (by kernel_rfl) ?_
      refine wl_nil ?_
      refine eo_then ?_
      refine cw_true rfl ?_
      refine cw_seq ?_
      refine cw_region ?_
      refine wl_move rfl rfl (by decide) ?_
      refine wl_cmp rfl rfl rfl true (by decide) (by decide) ?_
      refine wl_move rfl rfl (by decide) ?_
      refine wl_move rfl rfl (by decide) ?_
      refine wl_pure rfl rfl (v := .int .i64 0) (by decide) (by kernel_rfl) ?_
      refine wl_cmp rfl rfl rfl true (by decide) (by decide) ?_
      refine wl_pure rfl rfl (v := .bool true) (by decide) (by kernel_rfl) ?_
      refine wl_assign rfl rfl (by decide) ?_
      refine wl_nil ?_
      refine eo_then ?_
      refine cw_ret ?_
      refine eo_thenR ?_
      refine eo_ret [.bool true] rfl ⟨rfl, trivial⟩ ?_
      exact ⟨_, rfl, rfl, hw1⟩
  ·
    refine cw_region ?_
    refine wl_move rfl rfl (by decide) ?_
    refine wl_streq (a := bs) (b := []) rfl rfl rfl hbs (by decide) true (strE_neq_f (hne)) (by decide) ?_
    refine wl_assign rfl rfl (by decide) ?_
    refine wl_nil ?_
    refine eo_then ?_
    refine cw_seq ?_
    refine cw_region ?_
    refine wl_assign rfl rfl (by decide) ?_
    refine wl_nil ?_
    refine eo_then ?_
    refine cw_seq ?_
    refine cw_seq ?_
    refine cw_region ?_
    refine wl_assign rfl rfl (by decide) ?_
    refine wl_nil ?_
    refine eo_then ?_
    refine cw_block ?_
    refine cw_loop (T := World × Nat × Option Addr × Nat × Nat)
      (fun ⟨wr, i, OA, on, oc⟩ => [(0, .string (strB bs)), (1, .int .i64 ((base : Nat) : Int)), (5, .slice none 0 0), (6, .int .i64 7), (7, .bool true), (8, .slice OA on oc), (9, .int .i64 ((i : Nat) : Int))])
      (fun ⟨wr, i, OA, on, oc⟩ => wr)
      (fun ⟨wr, i, OA, on, oc⟩ => (Ext w wr) ∧ (Own wr w.heap.size 5 1 OA on oc (((lead ((bs.take i).map dv)).map sgn).map B8)) ∧ (i ≤ bs.length) ∧ (∀ c, c ∈ bs.take i → dv c < base))
      (fun ⟨wr, i, OA, on, oc⟩ => bs.length - i)
      (⟨v4, 0, none, 0, 0⟩ : World × Nat × Option Addr × Nat × Nat) ⟨hw2, (Own.nil _ _ _ _), (Nat.zero_le _), (fun c hc => absurd hc (by simp))⟩ rfl ⟨rfl, rfl, rfl, rfl, rfl, rfl, rfl, trivial⟩ ?_
    rintro ⟨wr, i, OA, on, oc⟩ ⟨hw1, hO, hi, hok⟩
    refine cw_re [(0, .string (strB bs)), (1, .int .i64 ((base : Nat) : Int)), (5, .slice none 0 0), (6, .int .i64 7), (7, .bool true), (8, .slice OA on oc), (9, .int .i64 ((i : Nat) : Int))] wr rfl ⟨rfl, rfl, rfl, rfl, rfl, rfl, rfl, trivial⟩ ?_
    have hon := own_len hO
    simp only [List.length_map] at hon
    have hon2 : on ≤ 1048576 := by have h1 := lead_len ((bs.take i).map dv); rw [List.length_map, List.length_take] at h1; omega
    refine cw_seq ?_
    refine cw_seq ?_
    by_cases hlt : i < bs.length
    ·
      refine cw_region ?_
      refine wl_move rfl rfl (by decide) ?_
      refine wl_move rfl rfl (by decide) ?_
      refine wl_pureE rfl rfl (v := .int .i64 (((strB bs).size : Nat) : Int)) (v' := .int .i64 ((bs.length : Nat) : Int)) (by decide) (by kernel_rfl) (by rw [strB_size]) ?_
      refine wl_cmp rfl rfl rfl true (cb_lt_t (a := i) (b := bs.length) rfl rfl (by omega)) (by decide) ?_
      refine wl_nil ?_
      refine eo_then ?_
      refine cw_true rfl ?_
      refine cw_skip ?_
      refine eo_then ?_
      refine cw_seq ?_
      refine cw_block ?_
      refine cw_seq ?_
      have hc255 : bs.getD i 0 ≤ 255 := by have := hbs _ (getD_mem hlt); omega
      by_cases hdc : dv (bs.getD i 0) < base
      ·
        refine cw_region ?_
        refine wl_move rfl rfl (by decide) ?_
        refine wl_move rfl rfl (by decide) ?_
        refine wl_strix (bs := bs) (i := i) rfl rfl rfl Tryd.underlying9 hbs (by omega) (by decide) ?_
        refine wl_move rfl rfl (by decide) ?_
        refine wl_call rfl rfl (vs := [.int .u8 ((bs.getD i 0 : Nat) : Int), .int .i64 ((base : Nat) : Int)]) (by kernel_rfl) (by decide) (g_sign_ok hc255 hbu hdc) ?_
        rintro _ v64 ⟨xr66, rfl, r66, e65⟩
        refine ret_intro ?_
        have hw2 : Ext w v64 := hw1.trans e65
        obtain ⟨a67_0, a67_1, rfl, r67_0, r67_1⟩ := r66
        obtain rfl := r67_0
        obtain rfl := r67_1
        refine wl_move rfl rfl (by decide) ?_
        refine wl_pure rfl rfl (v := .int .i64 ((dv (bs.getD i 0) : Nat) : Int)) (by decide) (by kernel_rfl) ?_
        refine wl_pure rfl rfl (v := .bool true) (by decide) (by kernel_rfl) ?_
        refine wl_assign rfl rfl (by decide) ?_
        refine wl_assign rfl rfl (by decide) ?_
        refine wl_nil ?_
        refine eo_then ?_
        refine cw_seq ?_
        refine cw_seq ?_
        refine cw_region ?_
        refine wl_move rfl rfl (by decide) ?_
        refine wl_pure rfl rfl (v := .bool false) (by decide) (by kernel_rfl) ?_
        refine wl_nil ?_
        refine eo_then ?_
        refine cw_false rfl ?_
        refine cw_skip ?_
        refine eo_then ?_
        refine cw_seq ?_
        by_cases hdp : dv (bs.getD i 0) > 0
        ·
          refine cw_region ?_
          refine wl_move rfl rfl (by decide) ?_
          refine wl_cmp rfl rfl rfl true (cb_gt_t (a := dv (bs.getD i 0)) (b := 0) rfl rfl (by omega)) (by decide) ?_
          refine wl_move rfl rfl (by decide) ?_
          refine wl_off rfl (by decide) ?_
          refine wl_off rfl (by decide) ?_
          refine wl_off rfl (by decide) ?_
          refine wl_pure rfl rfl (v := .bool true) (by decide) (by kernel_rfl) ?_
          refine wl_nil ?_
          refine eo_then ?_
          refine cw_true rfl ?_
          refine cw_seq ?_
          have hd36 : dv (bs.getD i 0) < 36 := by omega
          refine cw_region ?_
          refine wl_move rfl rfl (by decide) ?_
          refine wl_ar rfl rfl rfl ((48 + (dv (bs.getD i 0)) : Nat) : Int) (ai_add (a := 48) (b := dv (bs.getD i 0)) rfl rfl (by omega)) (by decide) ?_
          refine wl_pureE rfl rfl (v := .int .u8 (IntKind.u8.wrap ((48 + (dv (bs.getD i 0)) : Nat) : Int))) (v' := .int .u8 ((48 + (dv (bs.getD i 0)) : Nat) : Int)) (by decide) (by kernel_rfl) (cv_u8 (by omega)) ?_
          refine wl_assign rfl rfl (by decide) ?_
          refine wl_nil ?_
          refine eo_then ?_
          refine cw_seq ?_
          refine cw_seq ?_
          by_cases hd9 : dv (bs.getD i 0) > 9
          ·
            refine cw_region ?_
            refine wl_move rfl rfl (by decide) ?_
            refine wl_cmp rfl rfl rfl true (cb_gt_t (a := dv (bs.getD i 0)) (b := 9) rfl rfl (by omega)) (by decide) ?_
            refine wl_nil ?_
            refine eo_then ?_
            refine cw_true rfl ?_
            refine cw_region ?_
            refine wl_move rfl rfl (by decide) ?_
            refine wl_ar rfl rfl rfl ((97 + (dv (bs.getD i 0)) : Nat) : Int) (ai_add (a := 97) (b := dv (bs.getD i 0)) rfl rfl (by omega)) (by decide) ?_
            refine wl_ar rfl rfl rfl (((97 + (dv (bs.getD i 0))) - 10 : Nat) : Int) (ai_sub (a := 97 + (dv (bs.getD i 0))) (b := 10) rfl rfl (by omega) (by omega)) (by decide) ?_
            refine wl_pureE rfl rfl (v := .int .u8 (IntKind.u8.wrap (((97 + (dv (bs.getD i 0))) - 10 : Nat) : Int))) (v' := .int .u8 (((97 + (dv (bs.getD i 0))) - 10 : Nat) : Int)) (by decide) (by kernel_rfl) (cv_u8 (by omega)) ?_
            refine wl_assign rfl rfl (by decide) ?_
            refine wl_nil ?_
            refine eo_then ?_
            have hsg : (97 + (dv (bs.getD i 0))) - 10 = sgn (dv (bs.getD i 0)) := by unfold sgn; split <;> omega
            refine cw_keep [(0, .string (strB bs)), (1, .int .i64 ((base : Nat) : Int)), (5, .slice none 0 0), (6, .int .i64 7), (7, .bool true), (8, .slice OA on oc), (9, .int .i64 ((i : Nat) : Int)), (38, .int .i64 ((i : Nat) : Int)), (39, .string (strB bs)), (40, .int .i64 ((bs.length : Nat) : Int)), (41, .bool true), (45, .string (strB bs)), (46, .int .i64 ((i : Nat) : Int)), (47, .int .u8 ((bs.getD i 0 : Nat) : Int)), (48, .int .i64 ((base : Nat) : Int)), (49, .tuple #[.int .i64 ((dv (bs.getD i 0) : Nat) : Int), .bool true]), (44, .tuple #[.int .i64 ((dv (bs.getD i 0) : Nat) : Int), .bool true]), (50, .int .i64 ((dv (bs.getD i 0) : Nat) : Int)), (51, .bool true), (10, .int .i64 ((dv (bs.getD i 0) : Nat) : Int)), (11, .bool true), (52, .bool true), (53, .bool false), (54, .int .i64 ((dv (bs.getD i 0) : Nat) : Int)), (55, .bool true), (56, .bool true), (57, undef), (58, undef), (59, undef), (60, .bool true), (61, .int .i64 ((dv (bs.getD i 0) : Nat) : Int)), (62, .int .i64 ((48 + (dv (bs.getD i 0)) : Nat) : Int)), (63, .int .u8 ((48 + (dv (bs.getD i 0)) : Nat) : Int)), (12, .int .u8 (((97 + (dv (bs.getD i 0))) - 10 : Nat) : Int)), (64, .int .i64 ((dv (bs.getD i 0) : Nat) : Int)), (65, .bool true), (66, .int .i64 ((dv (bs.getD i 0) : Nat) : Int)), (67, .int .i64 ((97 + (dv (bs.getD i 0)) : Nat) : Int)), (68, .int .i64 (((97 + (dv (bs.getD i 0))) - 10 : Nat) : Int)), (69, .int .u8 (((97 + (dv (bs.getD i 0))) - 10 : Nat) : Int))] ⟨rfl, rfl, rfl, rfl, rfl, rfl, rfl, rfl, rfl, rfl, rfl, rfl, rfl, rfl, rfl, rfl, rfl, rfl, rfl, rfl, rfl, rfl, rfl, rfl, rfl, rfl, rfl, rfl, rfl, rfl, rfl, rfl, rfl, rfl, rfl, rfl, rfl, rfl, rfl, rfl, trivial⟩ ?_
            rw [hsg]
            refine cw_region ?_
            refine wl_move rfl rfl (by decide) ?_
            refine wl_move rfl rfl (by decide) ?_
            refine wl_bslice rfl rfl (by decide) (k := 1) (e := 5) [.int .u8 ((sgn (dv (bs.getD i 0)) : Nat) : Int)] (fun _ => by kernel_rfl) fun g68 v69 nb => ?_
            have hb70 := nb.bk
            have e71 := nb.ext
            clear nb
            have hw3 : Ext w v69 := hw2.trans e71
            have ow72 := (hO.ext (e65.trans e71))
            refine wl_app rfl rfl rfl un_u8 info8 rfl (by decide) (by decide) ow72 hw3.size [.int .u8 ((sgn (dv (bs.getD i 0)) : Nat) : Int)] rfl (one_news _ hb70) rfl (by omega) (by decide) fun A73 c74 v75 ho76 uo77 kp78 => ?_
            have hw4 : Ext w v75 := uo77.ext hw3 (fun p hp => (ow72.block p hp).1)
            have ho79 : Own v75 w.heap.size 5 1 A73 (on + 1) c74 ((((lead ((bs.take i).map dv)).map sgn) ++ [sgn (dv (bs.getD i 0))]).map B8) := by have h := ho76; simp only [List.map_append, List.map_cons, List.map_nil] at h ⊢; exact h
            refine wl_assign rfl rfl (by decide) ?_
            refine wl_nil ?_
            refine eo_block_normal ?_
            refine eo_then ?_
            refine cw_region ?_
            refine wl_move rfl rfl (by decide) ?_
            refine wl_ar rfl rfl rfl ((i + 1 : Nat) : Int) (ai_add (a := i) (b := 1) rfl rfl (by omega)) (by decide) ?_
            refine wl_assign rfl rfl (by decide) ?_
            refine wl_nil ?_
            have htk : (bs.take (i + 1)).map dv = (bs.take i).map dv ++ [dv (bs.getD i 0)] := by rw [take_snoc4 hlt, List.map_append]; rfl
            refine eo_round (⟨v75, i + 1, A73, on + 1, c74⟩ : World × Nat × Option Addr × Nat × Nat) ⟨hw4, (by rw [htk, lead_snoc, if_neg (fun h => by omega), List.map_append, List.map_cons, List.map_nil]; exact ho79), (by omega), (fun c hc => by rw [take_snoc4 hlt] at hc; rcases List.mem_append.1 hc with h | h; (· exact hok c h); (· rw [List.mem_singleton.1 h]; exact hdc))⟩ (show bs.length - (i + 1) < bs.length - i by omega) rfl ⟨rfl, rfl, rfl, rfl, rfl, rfl, rfl, trivial⟩
          ·
            refine cw_region ?_
            refine wl_move rfl rfl (by decide) ?_
            refine wl_cmp rfl rfl rfl false (cb_gt_f (a := dv (bs.getD i 0)) (b := 9) rfl rfl (by omega)) (by decide) ?_
            refine wl_nil ?_
            refine eo_then ?_
            refine cw_false rfl ?_
            refine cw_skip ?_
            refine eo_then ?_
            have hsg : 48 + (dv (bs.getD i 0)) = sgn (dv (bs.getD i 0)) := by unfold sgn; split <;> omega
            refine cw_keep [(0, .string (strB bs)), (1, .int .i64 ((base : Nat) : Int)), (5, .slice none 0 0), (6, .int .i64 7), (7, .bool true), (8, .slice OA on oc), (9, .int .i64 ((i : Nat) : Int)), (38, .int .i64 ((i : Nat) : Int)), (39, .string (strB bs)), (40, .int .i64 ((bs.length : Nat) : Int)), (41, .bool true), (45, .string (strB bs)), (46, .int .i64 ((i : Nat) : Int)), (47, .int .u8 ((bs.getD i 0 : Nat) : Int)), (48, .int .i64 ((base : Nat) : Int)), (49, .tuple #[.int .i64 ((dv (bs.getD i 0) : Nat) : Int), .bool true]), (44, .tuple #[.int .i64 ((dv (bs.getD i 0) : Nat) : Int), .bool true]), (50, .int .i64 ((dv (bs.getD i 0) : Nat) : Int)), (51, .bool true), (10, .int .i64 ((dv (bs.getD i 0) : Nat) : Int)), (11, .bool true), (52, .bool true), (53, .bool false), (54, .int .i64 ((dv (bs.getD i 0) : Nat) : Int)), (55, .bool true), (56, .bool true), (57, undef), (58, undef), (59, undef), (60, .bool true), (61, .int .i64 ((dv (bs.getD i 0) : Nat) : Int)), (62, .int .i64 ((48 + (dv (bs.getD i 0)) : Nat) : Int)), (63, .int .u8 ((48 + (dv (bs.getD i 0)) : Nat) : Int)), (12, .int .u8 ((48 + (dv (bs.getD i 0)) : Nat) : Int)), (64, .int .i64 ((dv (bs.getD i 0) : Nat) : Int)), (65, .bool false)] ⟨rfl, rfl, rfl, rfl, rfl, rfl, rfl, rfl, rfl, rfl, rfl, rfl, rfl, rfl, rfl, rfl, rfl, rfl, rfl, rfl, rfl, rfl, rfl, rfl, rfl, rfl, rfl, rfl, rfl, rfl, rfl, rfl, rfl, rfl, rfl, rfl, trivial⟩ ?_
            rw [hsg]
            refine cw_region ?_
            refine wl_move rfl rfl (by decide) ?_
            refine wl_move rfl rfl (by decide) ?_
            refine wl_bslice rfl rfl (by decide) (k := 1) (e := 5) [.int .u8 ((sgn (dv (bs.getD i 0)) : Nat) : Int)] (fun _ => by kernel_rfl) fun g80 v81 nb => ?_
            have hb82 := nb.bk
            have e83 := nb.ext
            clear nb
            have hw3 : Ext w v81 := hw2.trans e83
            have ow84 := (hO.ext (e65.trans e83))
            refine wl_app rfl rfl rfl un_u8 info8 rfl (by decide) (by decide) ow84 hw3.size [.int .u8 ((sgn (dv (bs.getD i 0)) : Nat) : Int)] rfl (one_news _ hb82) rfl (by omega) (by decide) fun A85 c86 v87 ho88 uo89 kp90 => ?_
            have hw4 : Ext w v87 := uo89.ext hw3 (fun p hp => (ow84.block p hp).1)
            have ho91 : Own v87 w.heap.size 5 1 A85 (on + 1) c86 ((((lead ((bs.take i).map dv)).map sgn) ++ [sgn (dv (bs.getD i 0))]).map B8) := by have h := ho88; simp only [List.map_append, List.map_cons, List.map_nil] at h ⊢; exact h
            refine wl_assign rfl rfl (by decide) ?_
            refine wl_nil ?_
            refine eo_block_normal ?_
            refine eo_then ?_
            refine cw_region ?_
            refine wl_move rfl rfl (by decide) ?_
            refine wl_ar rfl rfl rfl ((i + 1 : Nat) : Int) (ai_add (a := i) (b := 1) rfl rfl (by omega)) (by decide) ?_
            refine wl_assign rfl rfl (by decide) ?_
            refine wl_nil ?_
            have htk : (bs.take (i + 1)).map dv = (bs.take i).map dv ++ [dv (bs.getD i 0)] := by rw [take_snoc4 hlt, List.map_append]; rfl
            refine eo_round (⟨v87, i + 1, A85, on + 1, c86⟩ : World × Nat × Option Addr × Nat × Nat) ⟨hw4, (by rw [htk, lead_snoc, if_neg (fun h => by omega), List.map_append, List.map_cons, List.map_nil]; exact ho91), (by omega), (fun c hc => by rw [take_snoc4 hlt] at hc; rcases List.mem_append.1 hc with h | h; (· exact hok c h); (· rw [List.mem_singleton.1 h]; exact hdc))⟩ (show bs.length - (i + 1) < bs.length - i by omega) rfl ⟨rfl, rfl, rfl, rfl, rfl, rfl, rfl, trivial⟩
        ·
          have hd0 : dv (bs.getD i 0) = 0 := by omega
          by_cases hon0 : on > 0
          ·
            have hl0 : lead ((bs.take i).map dv) ≠ [] := fun e => by rw [e] at hon; simp at hon; omega
            refine cw_region ?_
            refine wl_move rfl rfl (by decide) ?_
            refine wl_cmp rfl rfl rfl false (cb_gt_f (a := dv (bs.getD i 0)) (b := 0) rfl rfl (by omega)) (by decide) ?_
            refine wl_move rfl rfl (by decide) ?_
            refine wl_move rfl rfl (by decide) ?_
            refine wl_pure rfl rfl (v := .int .i64 ((on : Nat) : Int)) (by decide) (by kernel_rfl) ?_
            refine wl_cmp rfl rfl rfl true (cb_gt_t (a := on) (b := 0) rfl rfl (by omega)) (by decide) ?_
            refine wl_pure rfl rfl (v := .bool true) (by decide) (by kernel_rfl) ?_
            refine wl_nil ?_
            refine eo_then ?_
            refine cw_true rfl ?_
            refine cw_seq ?_
            have hd36 : dv (bs.getD i 0) < 36 := by omega
            refine cw_region ?_
            refine wl_move rfl rfl (by decide) ?_
            refine wl_ar rfl rfl rfl ((48 + (dv (bs.getD i 0)) : Nat) : Int) (ai_add (a := 48) (b := dv (bs.getD i 0)) rfl rfl (by omega)) (by decide) ?_
            refine wl_pureE rfl rfl (v := .int .u8 (IntKind.u8.wrap ((48 + (dv (bs.getD i 0)) : Nat) : Int))) (v' := .int .u8 ((48 + (dv (bs.getD i 0)) : Nat) : Int)) (by decide) (by kernel_rfl) (cv_u8 (by omega)) ?_
            refine wl_assign rfl rfl (by decide) ?_
            refine wl_nil ?_
            refine eo_then ?_
            refine cw_seq ?_
            refine cw_seq ?_
            by_cases hd9 : dv (bs.getD i 0) > 9
            ·
              refine cw_region ?_
              refine wl_move rfl rfl (by decide) ?_
              refine wl_cmp rfl rfl rfl true (cb_gt_t (a := dv (bs.getD i 0)) (b := 9) rfl rfl (by omega)) (by decide) ?_
              refine wl_nil ?_
              refine eo_then ?_
              refine cw_true rfl ?_
              refine cw_region ?_
              refine wl_move rfl rfl (by decide) ?_
              refine wl_ar rfl rfl rfl ((97 + (dv (bs.getD i 0)) : Nat) : Int) (ai_add (a := 97) (b := dv (bs.getD i 0)) rfl rfl (by omega)) (by decide) ?_
              refine wl_ar rfl rfl rfl (((97 + (dv (bs.getD i 0))) - 10 : Nat) : Int) (ai_sub (a := 97 + (dv (bs.getD i 0))) (b := 10) rfl rfl (by omega) (by omega)) (by decide) ?_
              refine wl_pureE rfl rfl (v := .int .u8 (IntKind.u8.wrap (((97 + (dv (bs.getD i 0))) - 10 : Nat) : Int))) (v' := .int .u8 (((97 + (dv (bs.getD i 0))) - 10 : Nat) : Int)) (by decide) (by kernel_rfl) (cv_u8 (by omega)) ?_
              refine wl_assign rfl rfl (by decide) ?_
              refine wl_nil ?_
              refine eo_then ?_
              have hsg : (97 + (dv (bs.getD i 0))) - 10 = sgn (dv (bs.getD i 0)) := by unfold sgn; split <;> omega
              refine cw_keep [(0, .string (strB bs)), (1, .int .i64 ((base : Nat) : Int)), (5, .slice none 0 0), (6, .int .i64 7), (7, .bool true), (8, .slice OA on oc), (9, .int .i64 ((i : Nat) : Int)), (38, .int .i64 ((i : Nat) : Int)), (39, .string (strB bs)), (40, .int .i64 ((bs.length : Nat) : Int)), (41, .bool true), (45, .string (strB bs)), (46, .int .i64 ((i : Nat) : Int)), (47, .int .u8 ((bs.getD i 0 : Nat) : Int)), (48, .int .i64 ((base : Nat) : Int)), (49, .tuple #[.int .i64 ((dv (bs.getD i 0) : Nat) : Int), .bool true]), (44, .tuple #[.int .i64 ((dv (bs.getD i 0) : Nat) : Int), .bool true]), (50, .int .i64 ((dv (bs.getD i 0) : Nat) : Int)), (51, .bool true), (10, .int .i64 ((dv (bs.getD i 0) : Nat) : Int)), (11, .bool true), (52, .bool true), (53, .bool false), (54, .int .i64 ((dv (bs.getD i 0) : Nat) : Int)), (55, .bool false), (56, .bool false), (57, .slice OA on oc), (58, .int .i64 ((on : Nat) : Int)), (59, .bool true), (60, .bool true), (61, .int .i64 ((dv (bs.getD i 0) : Nat) : Int)), (62, .int .i64 ((48 + (dv (bs.getD i 0)) : Nat) : Int)), (63, .int .u8 ((48 + (dv (bs.getD i 0)) : Nat) : Int)), (12, .int .u8 (((97 + (dv (bs.getD i 0))) - 10 : Nat) : Int)), (64, .int .i64 ((dv (bs.getD i 0) : Nat) : Int)), (65, .bool true), (66, .int .i64 ((dv (bs.getD i 0) : Nat) : Int)), (67, .int .i64 ((97 + (dv (bs.getD i 0)) : Nat) : Int)), (68, .int .i64 (((97 + (dv (bs.getD i 0))) - 10 : Nat) : Int)), (69, .int .u8 (((97 + (dv (bs.getD i 0))) - 10 : Nat) : Int))] ⟨rfl, rfl, rfl, rfl, rfl, rfl, rfl, rfl, rfl, rfl, rfl, rfl, rfl, rfl, rfl, rfl, rfl, rfl, rfl, rfl, rfl, rfl, rfl, rfl, rfl, rfl, rfl, rfl, rfl, rfl, rfl, rfl, rfl, rfl, rfl, rfl, rfl, rfl, rfl, rfl, trivial⟩ ?_
              rw [hsg]
              refine cw_region ?_
              refine wl_move rfl rfl (by decide) ?_
              refine wl_move rfl rfl (by decide) ?_
              refine wl_bslice rfl rfl (by decide) (k := 1) (e := 5) [.int .u8 ((sgn (dv (bs.getD i 0)) : Nat) : Int)] (fun _ => by kernel_rfl) fun g92 v93 nb => ?_
              have hb94 := nb.bk
              have e95 := nb.ext
              clear nb
              have hw3 : Ext w v93 := hw2.trans e95
              have ow96 := (hO.ext (e65.trans e95))
              refine wl_app rfl rfl rfl un_u8 info8 rfl (by decide) (by decide) ow96 hw3.size [.int .u8 ((sgn (dv (bs.getD i 0)) : Nat) : Int)] rfl (one_news _ hb94) rfl (by omega) (by decide) fun A97 c98 v99 ho100 uo101 kp102 => ?_
              have hw4 : Ext w v99 := uo101.ext hw3 (fun p hp => (ow96.block p hp).1)
              have ho103 : Own v99 w.heap.size 5 1 A97 (on + 1) c98 ((((lead ((bs.take i).map dv)).map sgn) ++ [sgn (dv (bs.getD i 0))]).map B8) := by have h := ho100; simp only [List.map_append, List.map_cons, List.map_nil] at h ⊢; exact h
              refine wl_assign rfl rfl (by decide) ?_
              refine wl_nil ?_
              refine eo_block_normal ?_
              refine eo_then ?_
              refine cw_region ?_
              refine wl_move rfl rfl (by decide) ?_
              refine wl_ar rfl rfl rfl ((i + 1 : Nat) : Int) (ai_add (a := i) (b := 1) rfl rfl (by omega)) (by decide) ?_
              refine wl_assign rfl rfl (by decide) ?_
              refine wl_nil ?_
              have htk : (bs.take (i + 1)).map dv = (bs.take i).map dv ++ [dv (bs.getD i 0)] := by rw [take_snoc4 hlt, List.map_append]; rfl
              refine eo_round (⟨v99, i + 1, A97, on + 1, c98⟩ : World × Nat × Option Addr × Nat × Nat) ⟨hw4, (by rw [htk, lead_snoc, if_neg (fun h => hl0 h.1), List.map_append, List.map_cons, List.map_nil]; exact ho103), (by omega), (fun c hc => by rw [take_snoc4 hlt] at hc; rcases List.mem_append.1 hc with h | h; (· exact hok c h); (· rw [List.mem_singleton.1 h]; exact hdc))⟩ (show bs.length - (i + 1) < bs.length - i by omega) rfl ⟨rfl, rfl, rfl, rfl, rfl, rfl, rfl, trivial⟩
            ·
              refine cw_region ?_
              refine wl_move rfl rfl (by decide) ?_
              refine wl_cmp rfl rfl rfl false (cb_gt_f (a := dv (bs.getD i 0)) (b := 9) rfl rfl (by omega)) (by decide) ?_
              refine wl_nil ?_
              refine eo_then ?_
              refine cw_false rfl ?_
              refine cw_skip ?_
              refine eo_then ?_
              have hsg : 48 + (dv (bs.getD i 0)) = sgn (dv (bs.getD i 0)) := by unfold sgn; split <;> omega
              refine cw_keep [(0, .string (strB bs)), (1, .int .i64 ((base : Nat) : Int)), (5, .slice none 0 0), (6, .int .i64 7), (7, .bool true), (8, .slice OA on oc), (9, .int .i64 ((i : Nat) : Int)), (38, .int .i64 ((i : Nat) : Int)), (39, .string (strB bs)), (40, .int .i64 ((bs.length : Nat) : Int)), (41, .bool true), (45, .string (strB bs)), (46, .int .i64 ((i : Nat) : Int)), (47, .int .u8 ((bs.getD i 0 : Nat) : Int)), (48, .int .i64 ((base : Nat) : Int)), (49, .tuple #[.int .i64 ((dv (bs.getD i 0) : Nat) : Int), .bool true]), (44, .tuple #[.int .i64 ((dv (bs.getD i 0) : Nat) : Int), .bool true]), (50, .int .i64 ((dv (bs.getD i 0) : Nat) : Int)), (51, .bool true), (10, .int .i64 ((dv (bs.getD i 0) : Nat) : Int)), (11, .bool true), (52, .bool true), (53, .bool false), (54, .int .i64 ((dv (bs.getD i 0) : Nat) : Int)), (55, .bool false), (56, .bool false), (57, .slice OA on oc), (58, .int .i64 ((on : Nat) : Int)), (59, .bool true), (60, .bool true), (61, .int .i64 ((dv (bs.getD i 0) : Nat) : Int)), (62, .int .i64 ((48 + (dv (bs.getD i 0)) : Nat) : Int)), (63, .int .u8 ((48 + (dv (bs.getD i 0)) : Nat) : Int)), (12, .int .u8 ((48 + (dv (bs.getD i 0)) : Nat) : Int)), (64, .int .i64 ((dv (bs.getD i 0) : Nat) : Int)), (65, .bool false)] ⟨rfl, rfl, rfl, rfl, rfl, rfl, rfl, rfl, rfl, rfl, rfl, rfl, rfl, rfl, rfl, rfl, rfl, rfl, rfl, rfl, rfl, rfl, rfl, rfl, rfl, rfl, rfl, rfl, rfl, rfl, rfl, rfl, rfl, rfl, rfl, rfl, trivial⟩ ?_
              rw [hsg]
              refine cw_region ?_
              refine wl_move rfl rfl (by decide) ?_
              refine wl_move rfl rfl (by decide) ?_
              refine wl_bslice rfl rfl (by decide) (k := 1) (e := 5) [.int .u8 ((sgn (dv (bs.getD i 0)) : Nat) : Int)] (fun _ => by kernel_rfl) fun g104 v105 nb => ?_
              have hb106 := nb.bk
              have e107 := nb.ext
              clear nb
              have hw3 : Ext w v105 := hw2.trans e107
              have ow108 := (hO.ext (e65.trans e107))
              refine wl_app rfl rfl rfl un_u8 info8 rfl (by decide) (by decide) ow108 hw3.size [.int .u8 ((sgn (dv (bs.getD i 0)) : Nat) : Int)] rfl (one_news _ hb106) rfl (by omega) (by decide) fun A109 c110 v111 ho112 uo113 kp114 => ?_
              have hw4 : Ext w v111 := uo113.ext hw3 (fun p hp => (ow108.block p hp).1)
              have ho115 : Own v111 w.heap.size 5 1 A109 (on + 1) c110 ((((lead ((bs.take i).map dv)).map sgn) ++ [sgn (dv (bs.getD i 0))]).map B8) := by have h := ho112; simp only [List.map_append, List.map_cons, List.map_nil] at h ⊢; exact h
              refine wl_assign rfl rfl (by decide) ?_
              refine wl_nil ?_
              refine eo_block_normal ?_
              refine eo_then ?_
              refine cw_region ?_
              refine wl_move rfl rfl (by decide) ?_
              refine wl_ar rfl rfl rfl ((i + 1 : Nat) : Int) (ai_add (a := i) (b := 1) rfl rfl (by omega)) (by decide) ?_
              refine wl_assign rfl rfl (by decide) ?_
              refine wl_nil ?_
              have htk : (bs.take (i + 1)).map dv = (bs.take i).map dv ++ [dv (bs.getD i 0)] := by rw [take_snoc4 hlt, List.map_append]; rfl
              refine eo_round (⟨v111, i + 1, A109, on + 1, c110⟩ : World × Nat × Option Addr × Nat × Nat) ⟨hw4, (by rw [htk, lead_snoc, if_neg (fun h => hl0 h.1), List.map_append, List.map_cons, List.map_nil]; exact ho115), (by omega), (fun c hc => by rw [take_snoc4 hlt] at hc; rcases List.mem_append.1 hc with h | h; (· exact hok c h); (· rw [List.mem_singleton.1 h]; exact hdc))⟩ (show bs.length - (i + 1) < bs.length - i by omega) rfl ⟨rfl, rfl, rfl, rfl, rfl, rfl, rfl, trivial⟩
          ·
            have hl0 : lead ((bs.take i).map dv) = [] := by rw [← List.length_eq_zero_iff]; omega
            refine cw_region ?_
            refine wl_move rfl rfl (by decide) ?_
            refine wl_cmp rfl rfl rfl false (cb_gt_f (a := dv (bs.getD i 0)) (b := 0) rfl rfl (by omega)) (by decide) ?_
            refine wl_move rfl rfl (by decide) ?_
            refine wl_move rfl rfl (by decide) ?_
            refine wl_pure rfl rfl (v := .int .i64 ((on : Nat) : Int)) (by decide) (by kernel_rfl) ?_
            refine wl_cmp rfl rfl rfl false (cb_gt_f (a := on) (b := 0) rfl rfl (by omega)) (by decide) ?_
            refine wl_pure rfl rfl (v := .bool false) (by decide) (by kernel_rfl) ?_
            refine wl_nil ?_
            refine eo_then ?_
            refine cw_false rfl ?_
            refine cw_skip ?_
            refine eo_block_normal ?_
            refine eo_then ?_
            refine cw_region ?_
            refine wl_move rfl rfl (by decide) ?_
            refine wl_ar rfl rfl rfl ((i + 1 : Nat) : Int) (ai_add (a := i) (b := 1) rfl rfl (by omega)) (by decide) ?_
            refine wl_assign rfl rfl (by decide) ?_
            refine wl_nil ?_
            have htk : (bs.take (i + 1)).map dv = (bs.take i).map dv ++ [dv (bs.getD i 0)] := by rw [take_snoc4 hlt, List.map_append]; rfl
            refine eo_round (⟨v64, i + 1, OA, on, oc⟩ : World × Nat × Option Addr × Nat × Nat) ⟨hw2, (by rw [htk, lead_snoc, if_pos ⟨hl0, hd0⟩]; have h := (hO.ext e65); rwa [hl0] at h), (by omega), (fun c hc => by rw [take_snoc4 hlt] at hc; rcases List.mem_append.1 hc with h | h; (· exact hok c h); (· rw [List.mem_singleton.1 h]; exact hdc))⟩ (show bs.length - (i + 1) < bs.length - i by omega) rfl ⟨rfl, rfl, rfl, rfl, rfl, rfl, rfl, trivial⟩
      ·
        refine cw_region ?_
        refine wl_move rfl rfl (by decide) ?_
        refine wl_move rfl rfl (by decide) ?_
        refine wl_strix (bs := bs) (i := i) rfl rfl rfl Tryd.underlying9 hbs (by omega) (by decide) ?_
        refine wl_move rfl rfl (by decide) ?_
        refine wl_call rfl rfl (vs := [.int .u8 ((bs.getD i 0 : Nat) : Int), .int .i64 ((base : Nat) : Int)]) (by kernel_rfl) (by decide) (g_sign_no hc255 hbu hdc) ?_
        rintro _ v116 ⟨xr118, rfl, r118, e117⟩
        refine ret_intro ?_
        have hw2 : Ext w v116 := hw1.trans e117
        obtain ⟨a119_0, a119_1, rfl, r119_0, r119_1⟩ := r118
        obtain rfl := r119_0
        obtain rfl := r119_1
        refine wl_move rfl rfl (by decide) ?_
        refine wl_pure rfl rfl (v := .int .i64 (sgv (bs.getD i 0))) (by decide) (by kernel_rfl) ?_
        refine wl_pure rfl rfl (v := .bool false) (by decide) (by kernel_rfl) ?_
        refine wl_assign rfl rfl (by decide) ?_
        refine wl_assign rfl rfl (by decide) ?_
        refine wl_nil ?_
        refine eo_then ?_
        refine cw_seq ?_
        refine cw_seq ?_
        refine cw_region ?_
        refine wl_move rfl rfl (by decide) ?_
        refine wl_pure rfl rfl (v := .bool true) (by decide) (by kernel_rfl) ?_
        refine wl_nil ?_
        refine eo_then ?_
        refine cw_true rfl ?_
        refine cw_seq ?_
        refine cw_region ?_
        refine wl_assign rfl rfl (by decide) ?_
        refine wl_nil ?_
        refine eo_then ?_
        refine cw_exit ?_
        refine eo_thenX ?_
        refine eo_block_far (by decide) ?_
        refine eo_thenX ?_
        refine eo_loopX ?_
        refine eo_block_here ?_
        refine eo_then ?_
        refine cw_seq ?_
        refine cw_seq ?_
        refine cw_region ?_
        refine wl_move rfl rfl (by decide) ?_
        refine wl_pure rfl rfl (v := .bool true) (by decide) (by kernel_rfl) ?_
        refine wl_nil ?_
        refine eo_then ?_
        refine cw_true rfl ?_
        refine cw_seq ?_
        refine cw_region ?_
        refine wl_move rfl rfl (by decide) ?_
        refine wl_cmp rfl rfl rfl true (by decide) (by decide) ?_
        refine wl_move rfl rfl (by decide) ?_
        refine wl_move rfl rfl (by decide) ?_
        refine wl_pure rfl rfl (v := .int .i64 0) (by decide) (by kernel_rfl) ?_
        refine wl_cmp rfl rfl rfl true (by decide) (by decide) ?_
        refine wl_pure rfl rfl (v := .bool true) (by decide) (by kernel_rfl) ?_
        refine wl_assign rfl rfl (by decide) ?_
        refine wl_nil ?_
        refine eo_then ?_
        refine cw_ret ?_
        refine eo_thenR ?_
        refine eo_ret [.bool true] rfl ⟨rfl, trivial⟩ ?_
        exact ⟨_, rfl, rfl, hw2⟩
    ·
      have hie : i = bs.length := by omega
      rw [hie, List.take_length] at hok
      exact absurd ⟨hne, hok⟩ hg
theorem law_RadixThere {w : World} {bs : List Nat} (hbs : ∀ b, b ∈ bs → b < 256) (hlen : bs.length ≤ 1048576) {b : Int} (h1 : -9223372036854775808 ≤ b) (h2 : b ≤ 9223372036854775807) (hS : Signs w) : Calls Tryd.prog 5 #[.string (strB bs), .int .i64 b] w (BoolP true w) := by
  by_cases hbad : b < 2 ∨ 36 < b
  · exact (law_RadixThere_bad hbs hlen hbad hS).mono fun e w' h => bool_of _ _ h
  · obtain ⟨base, rfl⟩ := Int.eq_ofNat_of_zero_le (show 0 ≤ b by omega)
    by_cases hg : Good base bs
    · exact (law_RadixThere_good hbs hlen (by omega) (by omega) hg hS).mono fun e w' h => bool_of _ _ h
    · exact (law_RadixThere_no hbs hlen (by omega) (by omega) hg hS).mono fun e w' h => bool_of _ _ h
end Go.Proofs.YtmjdmjflgiicaaaDoor
