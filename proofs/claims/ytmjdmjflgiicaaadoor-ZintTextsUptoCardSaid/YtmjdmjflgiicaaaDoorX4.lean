/- Parts Law5s, Law4s, Law5u, joined. -/
import Derived.Test.YtmjdmjflgiicaaaDoorX3

namespace Go.Proofs.YtmjdmjflgiicaaaDoor
open Go.RowKit
theorem g_zint_of_false {w : World} {b m n c : Nat} {A : Option Addr} (hn : n = (wd m).length) (ho : Own w b 48 1 A n c ((wd m).map W64)) : Calls Tryd.prog 56 #[.bool false, .slice A n c] w (Gv w (ZR b ((m : Nat) : Int))) := by
  refine (zint_of (s := false) hn).mono ?_
  rintro e w' ⟨s', rfl, hs, hx⟩
  have e0 : s' = false := by rw [hs.out, sg_false]; exact decide_eq_false (by omega)
  subst e0
  exact ⟨_, rfl, ⟨_, _, _, _, rfl, (Zr_nat hn ho).ext hx⟩, hx⟩
theorem g_zint_of_true {w : World} {b m n c : Nat} {A : Option Addr} (hn : n = (wd m).length) (ho : Own w b 48 1 A n c ((wd m).map W64)) : Calls Tryd.prog 56 #[.bool true, .slice A n c] w (Gv w (ZR b (-((m : Nat) : Int)))) := by
  refine (zint_of (s := true) hn).mono ?_
  rintro e w' ⟨s', rfl, hs, hx⟩
  refine ⟨_, rfl, ⟨_, _, _, _, rfl, ?_⟩, hx⟩
  exact (Zr_of (m := m) (s := true) (by rw [hs.out]) hn ho (sg_true m)).ext hx
/-- a text's sign, and what stands behind it -/
def zng (bs : List Nat) : Bool := if bs.take 1 = [43] then false else if bs.take 1 = [45] then true else if bs.take 3 = [226, 136, 146] then true else false
def ztl (bs : List Nat) : List Nat := if bs.take 1 = [43] then bs.drop 1 else if bs.take 1 = [45] then bs.drop 1 else if bs.take 3 = [226, 136, 146] then bs.drop 3 else bs
def zval (bs : List Nat) : Int := if zng bs = true then -((vald 10 ((ztl bs).map dv) : Nat) : Int) else ((vald 10 ((ztl bs).map dv) : Nat) : Int)
set_option maxHeartbeats 4000000 in
theorem g_hasPrefixL {w : World} {bs ps : List Nat} (hbs : ∀ b, b ∈ bs → b < 256) (hps : ∀ b, b ∈ ps → b < 256) :
    Calls Tryd.prog 105 #[.string (strB bs), .string (strB ps)] w (Gv w (Is (.bool (decide (bs.take ps.length = ps))))) := by
  refine sx_enter Tryd.func105 rfl (n := 18) rfl (Nat.le_of_ble_eq_true rfl) (args := [.string (strB bs), .string (strB ps)]) ?_
  refine cw_keep [(0, .string (strB bs)), (1, .string (strB ps))] ⟨rfl, rfl, trivial⟩ ?_
  refine cw_seq ?_
  refine cw_region ?_
  refine wl_assign rfl rfl (by decide) ?_
  refine wl_nil ?_
  refine eo_then ?_
  refine cw_seq ?_
  by_cases hge : bs.length ≥ ps.length
  ·
    by_cases heq : bs.take ps.length = ps
    ·
      refine cw_region ?_
      refine wl_move rfl rfl (by decide) ?_
      refine wl_pureE rfl rfl (v := .int .i64 (((strB bs).size : Nat) : Int)) (v' := .int .i64 ((bs.length : Nat) : Int)) (by decide) (by kernel_rfl) (by rw [strB_size]) ?_
      refine wl_move rfl rfl (by decide) ?_
      refine wl_pureE rfl rfl (v := .int .i64 (((strB ps).size : Nat) : Int)) (v' := .int .i64 ((ps.length : Nat) : Int)) (by decide) (by kernel_rfl) (by rw [strB_size]) ?_
      refine wl_cmp rfl rfl rfl true (cb_ge_t (a := bs.length) (b := ps.length) rfl rfl (by omega)) (by decide) ?_
      refine wl_move rfl rfl (by decide) ?_
      refine wl_move rfl rfl (by decide) ?_
      refine wl_move rfl rfl (by decide) ?_
      refine wl_pureE rfl rfl (v := .int .i64 (((strB ps).size : Nat) : Int)) (v' := .int .i64 ((ps.length : Nat) : Int)) (by decide) (by kernel_rfl) (by rw [strB_size]) ?_
      refine wl_strhi (bs := bs) (i := ps.length) rfl rfl rfl Tryd.underlying9 (by omega) (by decide) ?_
      refine wl_move rfl rfl (by decide) ?_
      refine wl_streq (a := bs.take ps.length) (b := ps) rfl rfl rfl (fun b hb => hbs b (List.mem_of_mem_take hb)) hps true (strE_eql_t (heq)) (by decide) ?_
      refine wl_pure rfl rfl (v := .bool true) (by decide) (by kernel_rfl) ?_
      refine wl_assign rfl rfl (by decide) ?_
      refine wl_nil ?_
      refine eo_then ?_
      refine cw_ret ?_
      refine eo_ret [.bool true] rfl ⟨rfl, trivial⟩ ?_
      exact ⟨_, rfl, (show Value.bool true = _ by rw [decide_eq_true heq]), (Ext.refl w)⟩
    ·
      refine cw_region ?_
      refine wl_move rfl rfl (by decide) ?_
      refine wl_pureE rfl rfl (v := .int .i64 (((strB bs).size : Nat) : Int)) (v' := .int .i64 ((bs.length : Nat) : Int)) (by decide) (by kernel_rfl) (by rw [strB_size]) ?_
      refine wl_move rfl rfl (by decide) ?_
      refine wl_pureE rfl rfl (v := .int .i64 (((strB ps).size : Nat) : Int)) (v' := .int .i64 ((ps.length : Nat) : Int)) (by decide) (by kernel_rfl) (by rw [strB_size]) ?_
      refine wl_cmp rfl rfl rfl true (cb_ge_t (a := bs.length) (b := ps.length) rfl rfl (by omega)) (by decide) ?_
      refine wl_move rfl rfl (by decide) ?_
      refine wl_move rfl rfl (by decide) ?_
      refine wl_move rfl rfl (by decide) ?_
      refine wl_pureE rfl rfl (v := .int .i64 (((strB ps).size : Nat) : Int)) (v' := .int .i64 ((ps.length : Nat) : Int)) (by decide) (by kernel_rfl) (by rw [strB_size]) ?_
      refine wl_strhi (bs := bs) (i := ps.length) rfl rfl rfl Tryd.underlying9 (by omega) (by decide) ?_
      refine wl_move rfl rfl (by decide) ?_
      refine wl_streq (a := bs.take ps.length) (b := ps) rfl rfl rfl (fun b hb => hbs b (List.mem_of_mem_take hb)) hps false (strE_eql_f (heq)) (by decide) ?_
      refine wl_pure rfl rfl (v := .bool false) (by decide) (by kernel_rfl) ?_
      refine wl_assign rfl rfl (by decide) ?_
      refine wl_nil ?_
      refine eo_then ?_
      refine cw_ret ?_
      refine eo_ret [.bool false] rfl ⟨rfl, trivial⟩ ?_
      exact ⟨_, rfl, (show Value.bool false = _ by rw [decide_eq_false heq]), (Ext.refl w)⟩
  ·
    have heq : bs.take ps.length ≠ ps := fun e => by have h := congrArg List.length e; rw [List.length_take] at h; omega
    refine cw_region ?_
    refine wl_move rfl rfl (by decide) ?_
    refine wl_pureE rfl rfl (v := .int .i64 (((strB bs).size : Nat) : Int)) (v' := .int .i64 ((bs.length : Nat) : Int)) (by decide) (by kernel_rfl) (by rw [strB_size]) ?_
    refine wl_move rfl rfl (by decide) ?_
    refine wl_pureE rfl rfl (v := .int .i64 (((strB ps).size : Nat) : Int)) (v' := .int .i64 ((ps.length : Nat) : Int)) (by decide) (by kernel_rfl) (by rw [strB_size]) ?_
    refine wl_cmp rfl rfl rfl false (cb_ge_f (a := bs.length) (b := ps.length) rfl rfl (by omega)) (by decide) ?_
    refine wl_move rfl rfl (by decide) ?_
    refine wl_off rfl (by decide) ?_
    refine wl_off rfl (by decide) ?_
    refine wl_off rfl (by decide) ?_
    refine wl_off rfl (by decide) ?_
    refine wl_off rfl (by decide) ?_
    refine wl_off rfl (by decide) ?_
    refine wl_pure rfl rfl (v := .bool false) (by decide) (by kernel_rfl) ?_
    refine wl_assign rfl rfl (by decide) ?_
    refine wl_nil ?_
    refine eo_then ?_
    refine cw_ret ?_
    refine eo_ret [.bool false] rfl ⟨rfl, trivial⟩ ?_
    exact ⟨_, rfl, (show Value.bool false = _ by rw [decide_eq_false heq]), (Ext.refl w)⟩
set_option maxHeartbeats 4000000 in
theorem g_hasPrefix {w : World} {bs ps : List Nat} (hbs : ∀ b, b ∈ bs → b < 256) (hps : ∀ b, b ∈ ps → b < 256) :
    Calls Tryd.prog 83 #[.string (strB bs), .string (strB ps)] w (Gv w (Is (.bool (decide (bs.take ps.length = ps))))) := by
  refine sx_enter Tryd.func83 rfl (n := 8) rfl (Nat.le_of_ble_eq_true rfl) (args := [.string (strB bs), .string (strB ps)]) ?_
  refine cw_keep [(0, .string (strB bs)), (1, .string (strB ps))] ⟨rfl, rfl, trivial⟩ ?_
  refine cw_seq ?_
  refine cw_region ?_
  refine wl_assign rfl rfl (by decide) ?_
  refine wl_nil ?_
  refine eo_then ?_
  refine cw_seq ?_
  refine cw_region ?_
  refine wl_move rfl rfl (by decide) ?_
  refine wl_move rfl rfl (by decide) ?_
  refine wl_call rfl rfl (vs := [.string (strB bs), .string (strB ps)]) (by kernel_rfl) (by decide) (g_hasPrefixL hbs hps) ?_
  rintro _ v1 ⟨xr3, rfl, r3, e2⟩
  refine ret_intro ?_
  have hw1 : Ext w v1 := (Ext.refl w).trans e2
  obtain rfl := r3
  refine wl_assign rfl rfl (by decide) ?_
  refine wl_nil ?_
  refine eo_then ?_
  refine cw_ret ?_
  refine eo_ret [.bool (decide (bs.take ps.length = ps))] rfl ⟨rfl, trivial⟩ ?_
  exact ⟨_, rfl, rfl, hw1⟩
set_option maxHeartbeats 4000000 in
theorem rx_zRead_all {w : World} {bs : List Nat} (hbs : ∀ b, b ∈ bs → b < 256) (hlen : bs.length ≤ 17179869184) :
    Calls Tryd.prog 54 #[.string (strB bs)] w (fun e w' => (Good 10 (ztl bs) → Gv w (T2 (ZR w.heap.size (zval bs)) (Is (.int .i64 0))) e w') ∧ (¬ Good 10 (ztl bs) → Gv w (T2 (Is (.agg #[.bool false, .slice none 0 0])) (Is (.int .i64 7))) e w')) := by
  refine sx_enter Tryd.func54 rfl (n := 34) rfl (Nat.le_of_ble_eq_true rfl) (args := [.string (strB bs)]) ?_
  refine cw_keep [(0, .string (strB bs))] ⟨rfl, trivial⟩ ?_
  refine cw_seq ?_
  refine cw_region ?_
  refine wl_alloc rfl (z := .agg #[.bool false, .slice none 0 0]) (vs := [.bool false, .slice none 0 0]) (fun _ => by kernel_rfl) rfl (by decide) fun g1 v2 nb => ?_
  have hb4 := nb.bk
  have ge5 : w.heap.size ≤ g1 := by rw [← nb.at_]; exact (Ext.refl w).size
  have e3 := nb.ext
  clear nb
  have hw1 : Ext w v2 := (Ext.refl w).trans e3
  refine wl_assign rfl rfl (by decide) ?_
  refine wl_nil ?_
  refine eo_then ?_
  refine cw_seq ?_
  refine cw_region ?_
  refine wl_assign rfl rfl (by decide) ?_
  refine wl_nil ?_
  refine eo_then ?_
  refine cw_seq ?_
  refine cw_block ?_
  refine cw_seq ?_
  by_cases hf1 : bs.take 1 = [43]
  ·
    have hzl : ztl bs = bs.drop 1 := by unfold ztl; rw [if_pos hf1]
    have hzn : zng bs = false := by unfold zng; rw [if_pos hf1]
    have hln : 1 ≤ bs.length := by have h := congrArg List.length hf1; rw [List.length_take] at h; simp only [List.length_cons, List.length_nil] at h; omega
    refine cw_region ?_
    refine wl_move rfl rfl (by decide) ?_
    refine wl_call rfl rfl (vs := [.string (strB bs), .string (strB ([43]))]) (by kernel_rfl) (by decide) (by have h := g_hasPrefix (w := v2) (bs := bs) (ps := [43]) hbs (by decide); rw [decide_eq_true (show bs.take ([43] : List Nat).length = [43] by exact hf1)] at h; exact h) ?_
    rintro _ v6 ⟨xr8, rfl, r8, e7⟩
    refine ret_intro ?_
    have hw2 : Ext w v6 := hw1.trans e7
    obtain rfl := r8
    refine wl_assign rfl rfl (by decide) ?_
    refine wl_nil ?_
    refine eo_then ?_
    refine cw_true rfl ?_
    refine cw_region ?_
    refine wl_move rfl rfl (by decide) ?_
    refine wl_strlo (bs := bs) (i := 1) rfl rfl rfl Tryd.underlying9 (by omega) (by decide) ?_
    refine wl_assign rfl rfl (by decide) ?_
    refine wl_nil ?_
    refine eo_block_normal ?_
    refine eo_then ?_
    refine cw_seq ?_
    have hbt : ∀ b, b ∈ bs.drop 1 → b < 256 := fun b hb => hbs b (List.mem_of_mem_drop hb)
    have hlt : (bs.drop 1).length ≤ 17179869184 := by rw [List.length_drop]; omega
    by_cases hg : Good 10 (bs.drop 1)
    ·
      have hnz := len_wd_dv (base := 10) (by decide) (by decide) hg.2
      refine cw_region ?_
      refine wl_move rfl rfl (by decide) ?_
      refine wl_call rfl rfl (vs := [.string (strB (bs.drop 1))]) (by kernel_rfl) (by decide) ((rx_ReadDec_good hbt hlt hg).mono (Gv.imp (T2.imp (WR.imp hw2.size) Is.imp))) ?_
      rintro _ v9 ⟨xr11, rfl, r11, e10⟩
      refine ret_intro ?_
      have hw3 : Ext w v9 := hw2.trans e10
      obtain ⟨a12_0, a12_1, rfl, r12_0, r12_1⟩ := r11
      obtain ⟨A13, n13, c13, rfl, j13, o13⟩ := r12_0
      obtain rfl := r12_1
      refine wl_move rfl rfl (by decide) ?_
      refine wl_pure rfl rfl (v := .slice A13 n13 c13) (by decide) (by kernel_rfl) ?_
      refine wl_pure rfl rfl (v := .int .i64 0) (by decide) (by kernel_rfl) ?_
      refine wl_assign rfl rfl (by decide) ?_
      refine wl_assign rfl rfl (by decide) ?_
      refine wl_nil ?_
      refine eo_then ?_
      refine cw_seq ?_
      refine cw_seq ?_
      refine cw_region ?_
      refine wl_move rfl rfl (by decide) ?_
      refine wl_cmp rfl rfl rfl false (by decide) (by decide) ?_
      refine wl_nil ?_
      refine eo_then ?_
      refine cw_false rfl ?_
      refine cw_skip ?_
      refine eo_then ?_
      refine cw_seq ?_
      refine cw_region ?_
      refine wl_move rfl rfl (by decide) ?_
      refine wl_move rfl rfl (by decide) ?_
      refine wl_call rfl rfl (vs := [.bool false, .slice A13 n13 c13]) (by kernel_rfl) (by decide) (g_zint_of_false j13 o13) ?_
      rintro _ v14 ⟨xr16, rfl, r16, e15⟩
      refine ret_intro ?_
      have hw4 : Ext w v14 := hw3.trans e15
      obtain ⟨s17, A17, n17, c17, rfl, z17⟩ := r16
      have hb19 := (hb4.ext (e7.trans (e10.trans e15)))
      refine wl_stored rfl rfl rfl aggInt rfl hb19 (Nat.le_of_ble_eq_true rfl) rfl [.bool s17, .slice A17 n17 c17] rfl fun v18 hb20 u21 hs22 => ?_
      have hw5 : Ext w v18 := u21.ext hw4 ge5
      refine wl_assign rfl rfl (by decide) ?_
      refine wl_nil ?_
      refine eo_then ?_
      refine cw_ret ?_
      refine eo_ret [.agg #[.bool s17, .slice A17 n17 c17], .int .i64 0] rfl ⟨⟨_, rfl, load_agg aggInt hb20 [.bool s17, .slice A17 n17 c17] rfl (Nat.le_of_ble_eq_true rfl) rfl⟩, rfl, trivial⟩ ?_
      refine ⟨fun _ => ⟨_, rfl, ⟨_, _, rfl, ⟨_, _, _, _, rfl, ?_⟩, rfl⟩, hw5⟩, fun h => absurd (show Good 10 (ztl bs) by rw [hzl]; exact hg) h⟩
      have h := (z17.updT hb19 u21)
      rw [zval, hzn, hzl]
      exact h
    ·
      refine cw_region ?_
      refine wl_move rfl rfl (by decide) ?_
      refine wl_call rfl rfl (vs := [.string (strB (bs.drop 1))]) (by kernel_rfl) (by decide) (rx_ReadDec_bad hbt hlt hg) ?_
      rintro _ v23 ⟨xr25, rfl, r25, e24⟩
      refine ret_intro ?_
      have hw3 : Ext w v23 := hw2.trans e24
      obtain ⟨a26_0, a26_1, rfl, r26_0, r26_1⟩ := r25
      obtain rfl := r26_0
      obtain rfl := r26_1
      refine wl_move rfl rfl (by decide) ?_
      refine wl_pure rfl rfl (v := .slice none 0 0) (by decide) (by kernel_rfl) ?_
      refine wl_pure rfl rfl (v := .int .i64 7) (by decide) (by kernel_rfl) ?_
      refine wl_assign rfl rfl (by decide) ?_
      refine wl_assign rfl rfl (by decide) ?_
      refine wl_nil ?_
      refine eo_then ?_
      refine cw_seq ?_
      refine cw_seq ?_
      refine cw_region ?_
      refine wl_move rfl rfl (by decide) ?_
      refine wl_cmp rfl rfl rfl true (by decide) (by decide) ?_
      refine wl_nil ?_
      refine eo_then ?_
      refine cw_true rfl ?_
      refine cw_seq ?_
      refine cw_region ?_
      refine wl_pure rfl rfl (v := .agg #[.bool false, .slice none 0 0]) (by decide) (by kernel_rfl) ?_
      refine wl_move rfl rfl (by decide) ?_
      have hb28 := (hb4.ext (e7.trans e24))
      refine wl_stored rfl rfl rfl aggInt rfl hb28 (Nat.le_of_ble_eq_true rfl) rfl [.bool false, .slice none 0 0] rfl fun v27 hb29 u30 hs31 => ?_
      have hw4 : Ext w v27 := u30.ext hw3 ge5
      refine wl_assign rfl rfl (by decide) ?_
      refine wl_nil ?_
      refine eo_then ?_
      refine cw_ret ?_
      refine eo_thenR ?_
      refine eo_ret [.agg #[.bool false, .slice none 0 0], .int .i64 7] rfl ⟨⟨_, rfl, load_agg aggInt hb29 [.bool false, .slice none 0 0] rfl (Nat.le_of_ble_eq_true rfl) rfl⟩, rfl, trivial⟩ ?_
      exact ⟨fun h => absurd (by rw [hzl] at h; exact h) hg, fun _ => ⟨_, rfl, ⟨_, _, rfl, rfl, rfl⟩, hw4⟩⟩
  ·
    by_cases hf2 : bs.take 1 = [45]
    ·
      have hzl : ztl bs = bs.drop 1 := by unfold ztl; rw [if_neg hf1, if_pos hf2]
      have hzn : zng bs = true := by unfold zng; rw [if_neg hf1, if_pos hf2]
      have hln : 1 ≤ bs.length := by have h := congrArg List.length hf2; rw [List.length_take] at h; simp only [List.length_cons, List.length_nil] at h; omega
      refine cw_region ?_
      refine wl_move rfl rfl (by decide) ?_
      refine wl_call rfl rfl (vs := [.string (strB bs), .string (strB ([43]))]) (by kernel_rfl) (by decide) (by have h := g_hasPrefix (w := v2) (bs := bs) (ps := [43]) hbs (by decide); rw [decide_eq_false (show ¬ bs.take ([43] : List Nat).length = [43] by exact hf1)] at h; exact h) ?_
      rintro _ v32 ⟨xr34, rfl, r34, e33⟩
      refine ret_intro ?_
      have hw2 : Ext w v32 := hw1.trans e33
      obtain rfl := r34
      refine wl_assign rfl rfl (by decide) ?_
      refine wl_nil ?_
      refine eo_then ?_
      refine cw_false rfl ?_
      refine cw_seq ?_
      refine cw_region ?_
      refine wl_move rfl rfl (by decide) ?_
      refine wl_call rfl rfl (vs := [.string (strB bs), .string (strB ([45]))]) (by kernel_rfl) (by decide) (by have h := g_hasPrefix (w := v32) (bs := bs) (ps := [45]) hbs (by decide); rw [decide_eq_true (show bs.take ([45] : List Nat).length = [45] by exact hf2)] at h; exact h) ?_
      rintro _ v35 ⟨xr37, rfl, r37, e36⟩
      refine ret_intro ?_
      have hw3 : Ext w v35 := hw2.trans e36
      obtain rfl := r37
      refine wl_assign rfl rfl (by decide) ?_
      refine wl_nil ?_
      refine eo_then ?_
      refine cw_true rfl ?_
      refine cw_region ?_
      refine wl_move rfl rfl (by decide) ?_
      refine wl_strlo (bs := bs) (i := 1) rfl rfl rfl Tryd.underlying9 (by omega) (by decide) ?_
      refine wl_assign rfl rfl (by decide) ?_
      refine wl_assign rfl rfl (by decide) ?_
      refine wl_nil ?_
      refine eo_block_normal ?_
      refine eo_then ?_
      refine cw_seq ?_
      have hbt : ∀ b, b ∈ bs.drop 1 → b < 256 := fun b hb => hbs b (List.mem_of_mem_drop hb)
      have hlt : (bs.drop 1).length ≤ 17179869184 := by rw [List.length_drop]; omega
      by_cases hg : Good 10 (bs.drop 1)
      ·
        have hnz := len_wd_dv (base := 10) (by decide) (by decide) hg.2
        refine cw_region ?_
        refine wl_move rfl rfl (by decide) ?_
        refine wl_call rfl rfl (vs := [.string (strB (bs.drop 1))]) (by kernel_rfl) (by decide) ((rx_ReadDec_good hbt hlt hg).mono (Gv.imp (T2.imp (WR.imp hw3.size) Is.imp))) ?_
        rintro _ v38 ⟨xr40, rfl, r40, e39⟩
        refine ret_intro ?_
        have hw4 : Ext w v38 := hw3.trans e39
        obtain ⟨a41_0, a41_1, rfl, r41_0, r41_1⟩ := r40
        obtain ⟨A42, n42, c42, rfl, j42, o42⟩ := r41_0
        obtain rfl := r41_1
        refine wl_move rfl rfl (by decide) ?_
        refine wl_pure rfl rfl (v := .slice A42 n42 c42) (by decide) (by kernel_rfl) ?_
        refine wl_pure rfl rfl (v := .int .i64 0) (by decide) (by kernel_rfl) ?_
        refine wl_assign rfl rfl (by decide) ?_
        refine wl_assign rfl rfl (by decide) ?_
        refine wl_nil ?_
        refine eo_then ?_
        refine cw_seq ?_
        refine cw_seq ?_
        refine cw_region ?_
        refine wl_move rfl rfl (by decide) ?_
        refine wl_cmp rfl rfl rfl false (by decide) (by decide) ?_
        refine wl_nil ?_
        refine eo_then ?_
        refine cw_false rfl ?_
        refine cw_skip ?_
        refine eo_then ?_
        refine cw_seq ?_
        refine cw_region ?_
        refine wl_move rfl rfl (by decide) ?_
        refine wl_move rfl rfl (by decide) ?_
        refine wl_call rfl rfl (vs := [.bool true, .slice A42 n42 c42]) (by kernel_rfl) (by decide) (g_zint_of_true j42 o42) ?_
        rintro _ v43 ⟨xr45, rfl, r45, e44⟩
        refine ret_intro ?_
        have hw5 : Ext w v43 := hw4.trans e44
        obtain ⟨s46, A46, n46, c46, rfl, z46⟩ := r45
        have hb48 := (hb4.ext (e33.trans (e36.trans (e39.trans e44))))
        refine wl_stored rfl rfl rfl aggInt rfl hb48 (Nat.le_of_ble_eq_true rfl) rfl [.bool s46, .slice A46 n46 c46] rfl fun v47 hb49 u50 hs51 => ?_
        have hw6 : Ext w v47 := u50.ext hw5 ge5
        refine wl_assign rfl rfl (by decide) ?_
        refine wl_nil ?_
        refine eo_then ?_
        refine cw_ret ?_
        refine eo_ret [.agg #[.bool s46, .slice A46 n46 c46], .int .i64 0] rfl ⟨⟨_, rfl, load_agg aggInt hb49 [.bool s46, .slice A46 n46 c46] rfl (Nat.le_of_ble_eq_true rfl) rfl⟩, rfl, trivial⟩ ?_
        refine ⟨fun _ => ⟨_, rfl, ⟨_, _, rfl, ⟨_, _, _, _, rfl, ?_⟩, rfl⟩, hw6⟩, fun h => absurd (show Good 10 (ztl bs) by rw [hzl]; exact hg) h⟩
        have h := (z46.updT hb48 u50)
        rw [zval, hzn, hzl]
        exact h
      ·
        refine cw_region ?_
        refine wl_move rfl rfl (by decide) ?_
        refine wl_call rfl rfl (vs := [.string (strB (bs.drop 1))]) (by kernel_rfl) (by decide) (rx_ReadDec_bad hbt hlt hg) ?_
        rintro _ v52 ⟨xr54, rfl, r54, e53⟩
        refine ret_intro ?_
        have hw4 : Ext w v52 := hw3.trans e53
        obtain ⟨a55_0, a55_1, rfl, r55_0, r55_1⟩ := r54
        obtain rfl := r55_0
        obtain rfl := r55_1
        refine wl_move rfl rfl (by decide) ?_
        refine wl_pure rfl rfl (v := .slice none 0 0) (by decide) (by kernel_rfl) ?_
        refine wl_pure rfl rfl (v := .int .i64 7) (by decide) (by kernel_rfl) ?_
        refine wl_assign rfl rfl (by decide) ?_
        refine wl_assign rfl rfl (by decide) ?_
        refine wl_nil ?_
        refine eo_then ?_
        refine cw_seq ?_
        refine cw_seq ?_
        refine cw_region ?_
        refine wl_move rfl rfl (by decide) ?_
        refine wl_cmp rfl rfl rfl true (by decide) (by decide) ?_
        refine wl_nil ?_
        refine eo_then ?_
        refine cw_true rfl ?_
        refine cw_seq ?_
        refine cw_region ?_
        refine wl_pure rfl rfl (v := .agg #[.bool false, .slice none 0 0]) (by decide) (by kernel_rfl) ?_
        refine wl_move rfl rfl (by decide) ?_
        have hb57 := (hb4.ext (e33.trans (e36.trans e53)))
        refine wl_stored rfl rfl rfl aggInt rfl hb57 (Nat.le_of_ble_eq_true rfl) rfl [.bool false, .slice none 0 0] rfl fun v56 hb58 u59 hs60 => ?_
        have hw5 : Ext w v56 := u59.ext hw4 ge5
        refine wl_assign rfl rfl (by decide) ?_
        refine wl_nil ?_
        refine eo_then ?_
        refine cw_ret ?_
        refine eo_thenR ?_
        refine eo_ret [.agg #[.bool false, .slice none 0 0], .int .i64 7] rfl ⟨⟨_, rfl, load_agg aggInt hb58 [.bool false, .slice none 0 0] rfl (Nat.le_of_ble_eq_true rfl) rfl⟩, rfl, trivial⟩ ?_
        exact ⟨fun h => absurd (by rw [hzl] at h; exact h) hg, fun _ => ⟨_, rfl, ⟨_, _, rfl, rfl, rfl⟩, hw5⟩⟩
    ·
      by_cases hf3 : bs.take 3 = [226, 136, 146]
      ·
        have hzl : ztl bs = bs.drop 3 := by unfold ztl; rw [if_neg hf1, if_neg hf2, if_pos hf3]
        have hzn : zng bs = true := by unfold zng; rw [if_neg hf1, if_neg hf2, if_pos hf3]
        have hln : 3 ≤ bs.length := by have h := congrArg List.length hf3; rw [List.length_take] at h; simp only [List.length_cons, List.length_nil] at h; omega
        refine cw_region ?_
        refine wl_move rfl rfl (by decide) ?_
        refine wl_call rfl rfl (vs := [.string (strB bs), .string (strB ([43]))]) (by kernel_rfl) (by decide) (by have h := g_hasPrefix (w := v2) (bs := bs) (ps := [43]) hbs (by decide); rw [decide_eq_false (show ¬ bs.take ([43] : List Nat).length = [43] by exact hf1)] at h; exact h) ?_
        rintro _ v61 ⟨xr63, rfl, r63, e62⟩
        refine ret_intro ?_
        have hw2 : Ext w v61 := hw1.trans e62
        obtain rfl := r63
        refine wl_assign rfl rfl (by decide) ?_
        refine wl_nil ?_
        refine eo_then ?_
        refine cw_false rfl ?_
        refine cw_seq ?_
        refine cw_region ?_
        refine wl_move rfl rfl (by decide) ?_
        refine wl_call rfl rfl (vs := [.string (strB bs), .string (strB ([45]))]) (by kernel_rfl) (by decide) (by have h := g_hasPrefix (w := v61) (bs := bs) (ps := [45]) hbs (by decide); rw [decide_eq_false (show ¬ bs.take ([45] : List Nat).length = [45] by exact hf2)] at h; exact h) ?_
        rintro _ v64 ⟨xr66, rfl, r66, e65⟩
        refine ret_intro ?_
        have hw3 : Ext w v64 := hw2.trans e65
        obtain rfl := r66
        refine wl_assign rfl rfl (by decide) ?_
        refine wl_nil ?_
        refine eo_then ?_
        refine cw_false rfl ?_
        refine cw_seq ?_
        refine cw_region ?_
        refine wl_move rfl rfl (by decide) ?_
        refine wl_call rfl rfl (vs := [.string (strB bs), .string (strB ([226, 136, 146]))]) (by kernel_rfl) (by decide) (by have h := g_hasPrefix (w := v64) (bs := bs) (ps := [226, 136, 146]) hbs (by decide); rw [decide_eq_true (show bs.take ([226, 136, 146] : List Nat).length = [226, 136, 146] by exact hf3)] at h; exact h) ?_
        rintro _ v67 ⟨xr69, rfl, r69, e68⟩
        refine ret_intro ?_
        have hw4 : Ext w v67 := hw3.trans e68
        obtain rfl := r69
        refine wl_assign rfl rfl (by decide) ?_
        refine wl_nil ?_
        refine eo_then ?_
        refine cw_true rfl ?_
        refine cw_region ?_
        refine wl_move rfl rfl (by decide) ?_
        refine wl_strlo (bs := bs) (i := 3) rfl rfl rfl Tryd.underlying9 (by omega) (by decide) ?_
        refine wl_assign rfl rfl (by decide) ?_
        refine wl_assign rfl rfl (by decide) ?_
        refine wl_nil ?_
        refine eo_block_normal ?_
        refine eo_then ?_
        refine cw_seq ?_
        have hbt : ∀ b, b ∈ bs.drop 3 → b < 256 := fun b hb => hbs b (List.mem_of_mem_drop hb)
        have hlt : (bs.drop 3).length ≤ 17179869184 := by rw [List.length_drop]; omega
        by_cases hg : Good 10 (bs.drop 3)
        ·
          have hnz := len_wd_dv (base := 10) (by decide) (by decide) hg.2
          refine cw_region ?_
          refine wl_move rfl rfl (by decide) ?_
          refine wl_call rfl rfl (vs := [.string (strB (bs.drop 3))]) (by kernel_rfl) (by decide) ((rx_ReadDec_good hbt hlt hg).mono (Gv.imp (T2.imp (WR.imp hw4.size) Is.imp))) ?_
          rintro _ v70 ⟨xr72, rfl, r72, e71⟩
          refine ret_intro ?_
          have hw5 : Ext w v70 := hw4.trans e71
          obtain ⟨a73_0, a73_1, rfl, r73_0, r73_1⟩ := r72
          obtain ⟨A74, n74, c74, rfl, j74, o74⟩ := r73_0
          obtain rfl := r73_1
          refine wl_move rfl rfl (by decide) ?_
          refine wl_pure rfl rfl (v := .slice A74 n74 c74) (by decide) (by kernel_rfl) ?_
          refine wl_pure rfl rfl (v := .int .i64 0) (by decide) (by kernel_rfl) ?_
          refine wl_assign rfl rfl (by decide) ?_
          refine wl_assign rfl rfl (by decide) ?_
          refine wl_nil ?_
          refine eo_then ?_
          refine cw_seq ?_
          refine cw_seq ?_
          refine cw_region ?_
          refine wl_move rfl rfl (by decide) ?_
          refine wl_cmp rfl rfl rfl false (by decide) (by decide) ?_
          refine wl_nil ?_
          refine eo_then ?_
          refine cw_false rfl ?_
          refine cw_skip ?_
          refine eo_then ?_
          refine cw_seq ?_
          refine cw_region ?_
          refine wl_move rfl rfl (by decide) ?_
          refine wl_move rfl rfl (by decide) ?_
          refine wl_call rfl rfl (vs := [.bool true, .slice A74 n74 c74]) (by kernel_rfl) (by decide) (g_zint_of_true j74 o74) ?_
          rintro _ v75 ⟨xr77, rfl, r77, e76⟩
          refine ret_intro ?_
          have hw6 : Ext w v75 := hw5.trans e76
          obtain ⟨s78, A78, n78, c78, rfl, z78⟩ := r77
          have hb80 := (hb4.ext (e62.trans (e65.trans (e68.trans (e71.trans e76)))))
          refine wl_stored rfl rfl rfl aggInt rfl hb80 (Nat.le_of_ble_eq_true rfl) rfl [.bool s78, .slice A78 n78 c78] rfl fun v79 hb81 u82 hs83 => ?_
          have hw7 : Ext w v79 := u82.ext hw6 ge5
          refine wl_assign rfl rfl (by decide) ?_
          refine wl_nil ?_
          refine eo_then ?_
          refine cw_ret ?_
          refine eo_ret [.agg #[.bool s78, .slice A78 n78 c78], .int .i64 0] rfl ⟨⟨_, rfl, load_agg aggInt hb81 [.bool s78, .slice A78 n78 c78] rfl (Nat.le_of_ble_eq_true rfl) rfl⟩, rfl, trivial⟩ ?_
          refine ⟨fun _ => ⟨_, rfl, ⟨_, _, rfl, ⟨_, _, _, _, rfl, ?_⟩, rfl⟩, hw7⟩, fun h => absurd (show Good 10 (ztl bs) by rw [hzl]; exact hg) h⟩
          have h := (z78.updT hb80 u82)
          rw [zval, hzn, hzl]
          exact h
        ·
          refine cw_region ?_
          refine wl_move rfl rfl (by decide) ?_
          refine wl_call rfl rfl (vs := [.string (strB (bs.drop 3))]) (by kernel_rfl) (by decide) (rx_ReadDec_bad hbt hlt hg) ?_
          rintro _ v84 ⟨xr86, rfl, r86, e85⟩
          refine ret_intro ?_
          have hw5 : Ext w v84 := hw4.trans e85
          obtain ⟨a87_0, a87_1, rfl, r87_0, r87_1⟩ := r86
          obtain rfl := r87_0
          obtain rfl := r87_1
          refine wl_move rfl rfl (by decide) ?_
          refine wl_pure rfl rfl (v := .slice none 0 0) (by decide) (by kernel_rfl) ?_
          refine wl_pure rfl rfl (v := .int .i64 7) (by decide) (by kernel_rfl) ?_
          refine wl_assign rfl rfl (by decide) ?_
          refine wl_assign rfl rfl (by decide) ?_
          refine wl_nil ?_
          refine eo_then ?_
          refine cw_seq ?_
          refine cw_seq ?_
          refine cw_region ?_
          refine wl_move rfl rfl (by decide) ?_
          refine wl_cmp rfl rfl rfl true (by decide) (by decide) ?_
          refine wl_nil ?_
          refine eo_then ?_
          refine cw_true rfl ?_
          refine cw_seq ?_
          refine cw_region ?_
          refine wl_pure rfl rfl (v := .agg #[.bool false, .slice none 0 0]) (by decide) (by kernel_rfl) ?_
          refine wl_move rfl rfl (by decide) ?_
          have hb89 := (hb4.ext (e62.trans (e65.trans (e68.trans e85))))
          refine wl_stored rfl rfl rfl aggInt rfl hb89 (Nat.le_of_ble_eq_true rfl) rfl [.bool false, .slice none 0 0] rfl fun v88 hb90 u91 hs92 => ?_
          have hw6 : Ext w v88 := u91.ext hw5 ge5
          refine wl_assign rfl rfl (by decide) ?_
          refine wl_nil ?_
          refine eo_then ?_
          refine cw_ret ?_
          refine eo_thenR ?_
          refine eo_ret [.agg #[.bool false, .slice none 0 0], .int .i64 7] rfl ⟨⟨_, rfl, load_agg aggInt hb90 [.bool false, .slice none 0 0] rfl (Nat.le_of_ble_eq_true rfl) rfl⟩, rfl, trivial⟩ ?_
          exact ⟨fun h => absurd (by rw [hzl] at h; exact h) hg, fun _ => ⟨_, rfl, ⟨_, _, rfl, rfl, rfl⟩, hw6⟩⟩
      ·
        have hzl : ztl bs = bs := by unfold ztl; rw [if_neg hf1, if_neg hf2, if_neg hf3]
        have hzn : zng bs = false := by unfold zng; rw [if_neg hf1, if_neg hf2, if_neg hf3]
        refine cw_region ?_
        refine wl_move rfl rfl (by decide) ?_
        refine wl_call rfl rfl (vs := [.string (strB bs), .string (strB ([43]))]) (by kernel_rfl) (by decide) (by have h := g_hasPrefix (w := v2) (bs := bs) (ps := [43]) hbs (by decide); rw [decide_eq_false (show ¬ bs.take ([43] : List Nat).length = [43] by exact hf1)] at h; exact h) ?_
        rintro _ v93 ⟨xr95, rfl, r95, e94⟩
        refine ret_intro ?_
        have hw2 : Ext w v93 := hw1.trans e94
        obtain rfl := r95
        refine wl_assign rfl rfl (by decide) ?_
        refine wl_nil ?_
        refine eo_then ?_
        refine cw_false rfl ?_
        refine cw_seq ?_
        refine cw_region ?_
        refine wl_move rfl rfl (by decide) ?_
        refine wl_call rfl rfl (vs := [.string (strB bs), .string (strB ([45]))]) (by kernel_rfl) (by decide) (by have h := g_hasPrefix (w := v93) (bs := bs) (ps := [45]) hbs (by decide); rw [decide_eq_false (show ¬ bs.take ([45] : List Nat).length = [45] by exact hf2)] at h; exact h) ?_
        rintro _ v96 ⟨xr98, rfl, r98, e97⟩
        refine ret_intro ?_
        have hw3 : Ext w v96 := hw2.trans e97
        obtain rfl := r98
        refine wl_assign rfl rfl (by decide) ?_
        refine wl_nil ?_
        refine eo_then ?_
        refine cw_false rfl ?_
        refine cw_seq ?_
        refine cw_region ?_
        refine wl_move rfl rfl (by decide) ?_
        refine wl_call rfl rfl (vs := [.string (strB bs), .string (strB ([226, 136, 146]))]) (by kernel_rfl) (by decide) (by have h := g_hasPrefix (w := v96) (bs := bs) (ps := [226, 136, 146]) hbs (by decide); rw [decide_eq_false (show ¬ bs.take ([226, 136, 146] : List Nat).length = [226, 136, 146] by exact hf3)] at h; exact h) ?_
        rintro _ v99 ⟨xr101, rfl, r101, e100⟩
        refine ret_intro ?_
        have hw4 : Ext w v99 := hw3.trans e100
        obtain rfl := r101
        refine wl_assign rfl rfl (by decide) ?_
        refine wl_nil ?_
        refine eo_then ?_
        refine cw_false rfl ?_
        refine cw_skip ?_
        refine eo_block_normal ?_
        refine eo_then ?_
        refine cw_seq ?_
        have hbt : ∀ b, b ∈ bs → b < 256 := hbs
        have hlt : (bs).length ≤ 17179869184 := by omega
        by_cases hg : Good 10 (bs)
        ·
          have hnz := len_wd_dv (base := 10) (by decide) (by decide) hg.2
          refine cw_region ?_
          refine wl_move rfl rfl (by decide) ?_
          refine wl_call rfl rfl (vs := [.string (strB bs)]) (by kernel_rfl) (by decide) ((rx_ReadDec_good hbt hlt hg).mono (Gv.imp (T2.imp (WR.imp hw4.size) Is.imp))) ?_
          rintro _ v102 ⟨xr104, rfl, r104, e103⟩
          refine ret_intro ?_
          have hw5 : Ext w v102 := hw4.trans e103
          obtain ⟨a105_0, a105_1, rfl, r105_0, r105_1⟩ := r104
          obtain ⟨A106, n106, c106, rfl, j106, o106⟩ := r105_0
          obtain rfl := r105_1
          refine wl_move rfl rfl (by decide) ?_
          refine wl_pure rfl rfl (v := .slice A106 n106 c106) (by decide) (by kernel_rfl) ?_
          refine wl_pure rfl rfl (v := .int .i64 0) (by decide) (by kernel_rfl) ?_
          refine wl_assign rfl rfl (by decide) ?_
          refine wl_assign rfl rfl (by decide) ?_
          refine wl_nil ?_
          refine eo_then ?_
          refine cw_seq ?_
          refine cw_seq ?_
          refine cw_region ?_
          refine wl_move rfl rfl (by decide) ?_
          refine wl_cmp rfl rfl rfl false (by decide) (by decide) ?_
          refine wl_nil ?_
          refine eo_then ?_
          refine cw_false rfl ?_
          refine cw_skip ?_
          refine eo_then ?_
          refine cw_seq ?_
          refine cw_region ?_
          refine wl_move rfl rfl (by decide) ?_
          refine wl_move rfl rfl (by decide) ?_
          refine wl_call rfl rfl (vs := [.bool false, .slice A106 n106 c106]) (by kernel_rfl) (by decide) (g_zint_of_false j106 o106) ?_
          rintro _ v107 ⟨xr109, rfl, r109, e108⟩
          refine ret_intro ?_
          have hw6 : Ext w v107 := hw5.trans e108
          obtain ⟨s110, A110, n110, c110, rfl, z110⟩ := r109
          have hb112 := (hb4.ext (e94.trans (e97.trans (e100.trans (e103.trans e108)))))
          refine wl_stored rfl rfl rfl aggInt rfl hb112 (Nat.le_of_ble_eq_true rfl) rfl [.bool s110, .slice A110 n110 c110] rfl fun v111 hb113 u114 hs115 => ?_
          have hw7 : Ext w v111 := u114.ext hw6 ge5
          refine wl_assign rfl rfl (by decide) ?_
          refine wl_nil ?_
          refine eo_then ?_
          refine cw_ret ?_
          refine eo_ret [.agg #[.bool s110, .slice A110 n110 c110], .int .i64 0] rfl ⟨⟨_, rfl, load_agg aggInt hb113 [.bool s110, .slice A110 n110 c110] rfl (Nat.le_of_ble_eq_true rfl) rfl⟩, rfl, trivial⟩ ?_
          refine ⟨fun _ => ⟨_, rfl, ⟨_, _, rfl, ⟨_, _, _, _, rfl, ?_⟩, rfl⟩, hw7⟩, fun h => absurd (show Good 10 (ztl bs) by rw [hzl]; exact hg) h⟩
          have h := (z110.updT hb112 u114)
          rw [zval, hzn, hzl]
          exact h
        ·
          refine cw_region ?_
          refine wl_move rfl rfl (by decide) ?_
          refine wl_call rfl rfl (vs := [.string (strB bs)]) (by kernel_rfl) (by decide) (rx_ReadDec_bad hbt hlt hg) ?_
          rintro _ v116 ⟨xr118, rfl, r118, e117⟩
          refine ret_intro ?_
          have hw5 : Ext w v116 := hw4.trans e117
          obtain ⟨a119_0, a119_1, rfl, r119_0, r119_1⟩ := r118
          obtain rfl := r119_0
          obtain rfl := r119_1
          refine wl_move rfl rfl (by decide) ?_
          refine wl_pure rfl rfl (v := .slice none 0 0) (by decide) (by kernel_rfl) ?_
          refine wl_pure rfl rfl (v := .int .i64 7) (by decide) (by kernel_rfl) ?_
          refine wl_assign rfl rfl (by decide) ?_
          refine wl_assign rfl rfl (by decide) ?_
          refine wl_nil ?_
          refine eo_then ?_
          refine cw_seq ?_
          refine cw_seq ?_
          refine cw_region ?_
          refine wl_move rfl rfl (by decide) ?_
          refine wl_cmp rfl rfl rfl true (by decide) (by decide) ?_
          refine wl_nil ?_
          refine eo_then ?_
          refine cw_true rfl ?_
          refine cw_seq ?_
          refine cw_region ?_
          refine wl_pure rfl rfl (v := .agg #[.bool false, .slice none 0 0]) (by decide) (by kernel_rfl) ?_
          refine wl_move rfl rfl (by decide) ?_
          have hb121 := (hb4.ext (e94.trans (e97.trans (e100.trans e117))))
          refine wl_stored rfl rfl rfl aggInt rfl hb121 (Nat.le_of_ble_eq_true rfl) rfl [.bool false, .slice none 0 0] rfl fun v120 hb122 u123 hs124 => ?_
          have hw6 : Ext w v120 := u123.ext hw5 ge5
          refine wl_assign rfl rfl (by decide) ?_
          refine wl_nil ?_
          refine eo_then ?_
          refine cw_ret ?_
          refine eo_thenR ?_
          refine eo_ret [.agg #[.bool false, .slice none 0 0], .int .i64 7] rfl ⟨⟨_, rfl, load_agg aggInt hb122 [.bool false, .slice none 0 0] rfl (Nat.le_of_ble_eq_true rfl) rfl⟩, rfl, trivial⟩ ?_
          exact ⟨fun h => absurd (by rw [hzl] at h; exact h) hg, fun _ => ⟨_, rfl, ⟨_, _, rfl, rfl, rfl⟩, hw6⟩⟩
theorem rx_zRead {w : World} {b : Nat} (hb : b ≤ w.heap.size) {bs tl : List Nat} {z : Int} (hbs : ∀ b, b ∈ bs → b < 256) (hlen : bs.length ≤ 17179869184) (ht : ztl bs = tl) (hg : Good 10 tl) (hz : zval bs = z) : Calls Tryd.prog 54 #[.string (strB bs)] w (Gv w (T2 (ZR b z) (Is (.int .i64 0)))) :=
  (rx_zRead_all hbs hlen).mono fun e w' h => by have h2 := h.1 (by rw [ht]; exact hg); rw [hz] at h2; exact Gv.imp (T2.imp (ZR.imp hb) Is.imp) _ _ h2
theorem rx_zRead_bad {w : World} {bs tl : List Nat} (hbs : ∀ b, b ∈ bs → b < 256) (hlen : bs.length ≤ 17179869184) (ht : ztl bs = tl) (hg : ¬ Good 10 tl) : Calls Tryd.prog 54 #[.string (strB bs)] w (Gv w (T2 (Is (.agg #[.bool false, .slice none 0 0])) (Is (.int .i64 7)))) :=
  (rx_zRead_all hbs hlen).mono fun e w' h => h.2 (by rw [ht]; exact hg)
theorem zval_pos {bs tl : List Nat} (ht : ztl bs = tl) (hn : zng bs = false) : zval bs = ((vald 10 (tl.map dv) : Nat) : Int) := by rw [zval, hn, ht]; rfl
theorem zval_neg {bs tl : List Nat} (ht : ztl bs = tl) (hn : zng bs = true) : zval bs = -((vald 10 (tl.map dv) : Nat) : Int) := by rw [zval, hn, ht]; rfl
set_option maxHeartbeats 4000000 in
theorem rx_zTextF {w : World} {sa : Bool} {Aa : Option Addr} {na ca : Nat} {x : Int} (hx : Zi w sa Aa na ca x) (la : na ≤ 4194304) (hS : Signs w) :
    Calls Tryd.prog 53 #[.agg #[.bool sa, .slice Aa na ca]] w (Gv w (Is (.string (strB (txtZ x))))) := by
  have Lx : ln x ≤ 4194304 := Nat.le_trans hx.ln la
  refine sx_enter Tryd.func53 rfl (n := 13) rfl (Nat.le_of_ble_eq_true rfl) (args := [.agg #[.bool sa, .slice Aa na ca]]) ?_
  refine cw_keep [(0, .agg #[.bool sa, .slice Aa na ca])] ⟨rfl, trivial⟩ ?_
  refine cw_seq ?_
  refine cw_region ?_
  refine wl_box rfl rfl (vs := [.bool sa, .slice Aa na ca]) rfl (by decide) fun g1 v2 nb => ?_
  have hb4 := nb.bk
  have ge5 : w.heap.size ≤ g1 := by rw [← nb.at_]; exact (Ext.refl w).size
  have e3 := nb.ext
  clear nb
  have hw1 : Ext w v2 := (Ext.refl w).trans e3
  refine wl_assign rfl rfl (by decide) ?_
  refine wl_nil ?_
  refine eo_then ?_
  refine cw_seq ?_
  refine cw_region ?_
  refine wl_pure rfl rfl (v := .pointer (some ⟨g1, 1, none⟩)) (by decide) (by kernel_rfl) ?_
  refine wl_load rfl rfl (load_cell cellWords hb4 rfl) (by decide) ?_
  refine wl_call rfl rfl (vs := [.slice Aa na ca]) (by kernel_rfl) (by decide) (rx_DecF (hS.ext hw1) (hx.ext hw1).wi (by omega)) ?_
  rintro _ v6 ⟨xr8, rfl, r8, e7⟩
  refine ret_intro ?_
  have hw2 : Ext w v6 := hw1.trans e7
  obtain rfl := r8
  refine wl_assign rfl rfl (by decide) ?_
  refine wl_nil ?_
  refine eo_then ?_
  refine cw_seq ?_
  refine cw_seq ?_
  by_cases hx0 : x < 0
  ·
    refine cw_region ?_
    refine wl_load rfl rfl (load_agg aggInt (hb4.ext e7) [.bool sa, .slice Aa na ca] rfl (Nat.le_of_ble_eq_true rfl) rfl) (by decide) ?_
    refine wl_call rfl rfl (vs := [.agg #[.bool sa, .slice Aa na ca]]) (by kernel_rfl) (by decide) (g_zint_Sign (hx.ext hw2) (Nat.le_trans la (by decide))) ?_
    rintro _ v9 ⟨xr11, rfl, r11, e10⟩
    refine ret_intro ?_
    have hw3 : Ext w v9 := hw2.trans e10
    obtain rfl := r11
    refine wl_cmp rfl rfl rfl true (scmp_lt_t hx0) (by decide) ?_
    refine wl_nil ?_
    refine eo_then ?_
    refine cw_true rfl ?_
    refine cw_seq ?_
    refine cw_region ?_
    refine wl_move rfl rfl (by decide) ?_
    refine wl_op rfl rfl rfl (r := .string (strB (([45]) ++ (txtN 10 (Int.natAbs x))))) rfl (fun w => str_add (a := [45]) (b := txtN 10 (Int.natAbs x)) (by have := txtN_len (b := 10) (by decide) (show (wd (Int.natAbs x)).length ≤ 4194304 from Lx); show 1 + _ ≤ _; omega)) (by decide) ?_
    refine wl_assign rfl rfl (by decide) ?_
    refine wl_nil ?_
    refine eo_then ?_
    refine cw_ret ?_
    refine eo_thenR ?_
    refine eo_ret [.string (strB (([45]) ++ (txtN 10 (Int.natAbs x))))] rfl ⟨rfl, trivial⟩ ?_
    exact ⟨_, rfl, (show Value.string _ = .string (strB (txtZ x)) by rw [txtZ, if_pos hx0]), hw3⟩
  ·
    refine cw_region ?_
    refine wl_load rfl rfl (load_agg aggInt (hb4.ext e7) [.bool sa, .slice Aa na ca] rfl (Nat.le_of_ble_eq_true rfl) rfl) (by decide) ?_
    refine wl_call rfl rfl (vs := [.agg #[.bool sa, .slice Aa na ca]]) (by kernel_rfl) (by decide) (g_zint_Sign (hx.ext hw2) (Nat.le_trans la (by decide))) ?_
    rintro _ v12 ⟨xr14, rfl, r14, e13⟩
    refine ret_intro ?_
    have hw3 : Ext w v12 := hw2.trans e13
    obtain rfl := r14
    refine wl_cmp rfl rfl rfl false (scmp_lt_f (by omega)) (by decide) ?_
    refine wl_nil ?_
    refine eo_then ?_
    refine cw_false rfl ?_
    refine cw_skip ?_
    refine eo_then ?_
    refine cw_seq ?_
    refine cw_region ?_
    refine wl_move rfl rfl (by decide) ?_
    refine wl_assign rfl rfl (by decide) ?_
    refine wl_nil ?_
    refine eo_then ?_
    refine cw_ret ?_
    refine eo_ret [.string (strB (txtN 10 (Int.natAbs x)))] rfl ⟨rfl, trivial⟩ ?_
    exact ⟨_, rfl, (show Value.string _ = .string (strB (txtZ x)) by rw [txtZ, if_neg hx0]), hw3⟩
end Go.Proofs.YtmjdmjflgiicaaaDoor

namespace Go.Proofs.YtmjdmjflgiicaaaDoor
open Go.RowKit
theorem len_wd_w64 {x : Nat} (h : x ≤ 18446744073709551615) : (wd x).length ≤ 1 := len_wd_le (by rw [WB_def, Nat.pow_one]; omega)
end Go.Proofs.YtmjdmjflgiicaaaDoor

namespace Go.Proofs.YtmjdmjflgiicaaaDoor
open Go.RowKit
set_option maxHeartbeats 4000000 in
theorem g_law5_digitA {w : World} {c : Nat} (hc : c ≤ 255) :
    Calls Tryd.prog 104 #[.int .u8 ((c : Nat) : Int)] w (Gv w (Is (.int .i64 (if dv c < 10 then ((dv c : Nat) : Int) else -1)))) := by
  refine sx_enter Tryd.func104 rfl (n := 12) rfl (Nat.le_of_ble_eq_true rfl) (args := [.int .u8 ((c : Nat) : Int)]) ?_
  refine cw_keep [(0, .int .u8 ((c : Nat) : Int))] ⟨rfl, trivial⟩ ?_
  refine cw_seq ?_
  refine cw_region ?_
  refine wl_assign rfl rfl (by decide) ?_
  refine wl_nil ?_
  refine eo_then ?_
  refine cw_seq ?_
  refine cw_seq ?_
  by_cases hd48 : c < 48
  ·
    refine cw_region ?_
    refine wl_move rfl rfl (by decide) ?_
    refine wl_cmp rfl rfl rfl true (cb_lt_t (a := c) (b := 48) rfl rfl (by omega)) (by decide) ?_
    refine wl_move rfl rfl (by decide) ?_
    refine wl_off rfl (by decide) ?_
    refine wl_off rfl (by decide) ?_
    refine wl_pure rfl rfl (v := .bool true) (by decide) (by kernel_rfl) ?_
    refine wl_nil ?_
    refine eo_then ?_
    refine cw_true rfl ?_
    refine cw_seq ?_
    refine cw_region ?_
    refine wl_assign rfl rfl (by decide) ?_
    refine wl_nil ?_
    refine eo_then ?_
    refine cw_ret ?_
    refine eo_thenR ?_
    refine eo_ret [.int .i64 (-1)] rfl ⟨rfl, trivial⟩ ?_
    have hdv : ¬ dv c < 10 := by unfold dv; (repeat' split) <;> omega
    exact ⟨_, rfl, (show Value.int .i64 (-1) = _ by rw [if_neg hdv]), (Ext.refl w)⟩
  ·
    by_cases hd57 : c > 57
    ·
      refine cw_region ?_
      refine wl_move rfl rfl (by decide) ?_
      refine wl_cmp rfl rfl rfl false (cb_lt_f (a := c) (b := 48) rfl rfl (by omega)) (by decide) ?_
      refine wl_move rfl rfl (by decide) ?_
      refine wl_move rfl rfl (by decide) ?_
      refine wl_cmp rfl rfl rfl true (cb_gt_t (a := c) (b := 57) rfl rfl (by omega)) (by decide) ?_
      refine wl_pure rfl rfl (v := .bool true) (by decide) (by kernel_rfl) ?_
      refine wl_nil ?_
      refine eo_then ?_
      refine cw_true rfl ?_
      refine cw_seq ?_
      refine cw_region ?_
      refine wl_assign rfl rfl (by decide) ?_
      refine wl_nil ?_
      refine eo_then ?_
      refine cw_ret ?_
      refine eo_thenR ?_
      refine eo_ret [.int .i64 (-1)] rfl ⟨rfl, trivial⟩ ?_
      have hdv : ¬ dv c < 10 := by unfold dv; (repeat' split) <;> omega
      exact ⟨_, rfl, (show Value.int .i64 (-1) = _ by rw [if_neg hdv]), (Ext.refl w)⟩
    ·
      refine cw_region ?_
      refine wl_move rfl rfl (by decide) ?_
      refine wl_cmp rfl rfl rfl false (cb_lt_f (a := c) (b := 48) rfl rfl (by omega)) (by decide) ?_
      refine wl_move rfl rfl (by decide) ?_
      refine wl_move rfl rfl (by decide) ?_
      refine wl_cmp rfl rfl rfl false (cb_gt_f (a := c) (b := 57) rfl rfl (by omega)) (by decide) ?_
      refine wl_pure rfl rfl (v := .bool false) (by decide) (by kernel_rfl) ?_
      refine wl_nil ?_
      refine eo_then ?_
      refine cw_false rfl ?_
      refine cw_skip ?_
      refine eo_then ?_
      refine cw_seq ?_
      refine cw_region ?_
      refine wl_move rfl rfl (by decide) ?_
      refine wl_pureE rfl rfl (v := .int .i64 (IntKind.i64.wrap ((c : Nat) : Int))) (v' := .int .i64 ((c : Nat) : Int)) (by decide) (by kernel_rfl) (cv_i64 (by omega)) ?_
      refine wl_ar rfl rfl rfl ((c - 48 : Nat) : Int) (ai_sub (a := c) (b := 48) rfl rfl (by omega) (by omega)) (by decide) ?_
      refine wl_assign rfl rfl (by decide) ?_
      refine wl_nil ?_
      refine eo_then ?_
      refine cw_ret ?_
      refine eo_ret [.int .i64 ((c - 48 : Nat) : Int)] rfl ⟨rfl, trivial⟩ ?_
      have hdv : dv c = c - 48 := by unfold dv; rw [if_pos (by omega)]
      exact ⟨_, rfl, (show Value.int .i64 (((c - 48 : Nat) : Int)) = _ by rw [hdv, if_pos (by omega)]), (Ext.refl w)⟩
theorem g_digit_ok {w : World} {c : Nat} (hc : c ≤ 255) (h : dv c < 10) : Calls Tryd.prog 104 #[.int .u8 ((c : Nat) : Int)] w (Gv w (Is (.int .i64 ((dv c : Nat) : Int)))) := by
  have h1 := g_law5_digitA (w := w) hc
  rw [if_pos h] at h1; exact h1
theorem g_digit_no {w : World} {c : Nat} (hc : c ≤ 255) (h : ¬ dv c < 10) : Calls Tryd.prog 104 #[.int .u8 ((c : Nat) : Int)] w (Gv w (Is (.int .i64 (-1)))) := by
  have h1 := g_law5_digitA (w := w) hc
  rw [if_neg h] at h1; exact h1
theorem take_drop_snoc {l : List Nat} {a i : Nat} (h1 : a ≤ i) (h2 : i < l.length) : (l.drop a).take (i + 1 - a) = (l.drop a).take (i - a) ++ [l.getD i 0] := by
  rw [show i + 1 - a = (i - a) + 1 by omega, take_snoc4 (by rw [List.length_drop]; omega)]
  congr 2
  simp only [List.getD_eq_getElem?_getD, List.getElem?_drop]
  rw [show a + (i - a) = i by omega]
theorem ln_vald {l : List Nat} (h : ∀ c, c ∈ l → dv c < 10) (hl : l.length ≤ 1048576) : ln ((vald 10 (l.map dv) : Nat) : Int) ≤ 1048576 := by
  rw [ln_nat]; exact Nat.le_trans (len_wd_dv (by decide) (by decide) h) hl
theorem vald_step {l : List Nat} {a i : Nat} (h1 : a ≤ i) (h2 : i < l.length) : ((vald 10 (((l.drop a).take (i - a)).map dv) : Nat) : Int) * 10 + ((dv (l.getD i 0) : Nat) : Int) = ((vald 10 (((l.drop a).take (i + 1 - a)).map dv) : Nat) : Int) := by
  rw [take_drop_snoc h1 h2, List.map_append, List.map_cons, List.map_nil, vald_snoc]; omega
theorem getD_mem_drop {l : List Nat} {a i : Nat} (h1 : a ≤ i) (h2 : i < l.length) : l.getD i 0 ∈ l.drop a := by
  have e : l.getD i 0 = (l.drop a).getD (i - a) 0 := by
    simp only [List.getD_eq_getElem?_getD, List.getElem?_drop]
    rw [show a + (i - a) = i by omega]
  rw [e]; exact getD_mem (by rw [List.length_drop]; omega)
set_option maxHeartbeats 4000000 in
theorem g_written_ok {w : World} {bs : List Nat} {at0 : Nat} (hbs : ∀ b, b ∈ bs → b < 256) (hlen : bs.length ≤ 1048576) (hat : at0 ≤ bs.length) (hg : Good 10 (bs.drop at0)) :
    Calls Tryd.prog 82 #[.string (strB bs), .int .i64 ((at0 : Nat) : Int)] w (Gv w (T2 (ZR w.heap.size (((vald 10 ((bs.drop at0).map dv) : Nat) : Int))) (Is (.bool true)))) := by
  refine sx_enter Tryd.func82 rfl (n := 36) rfl (Nat.le_of_ble_eq_true rfl) (args := [.string (strB bs), .int .i64 ((at0 : Nat) : Int)]) ?_
  refine cw_keep [(0, .string (strB bs)), (1, .int .i64 ((at0 : Nat) : Int))] ⟨rfl, rfl, trivial⟩ ?_
  refine cw_seq ?_
  refine cw_region ?_
  refine wl_alloc rfl (z := .agg #[.bool false, .slice none 0 0]) (vs := [.bool false, .slice none 0 0]) (fun _ => by kernel_rfl) rfl (by decide) fun g1 v2 nb => ?_
  have hb4 := nb.bk
  have ge5 : w.heap.size ≤ g1 := by rw [← nb.at_]; exact (Ext.refl w).size
  have e3 := nb.ext
  clear nb
  have hw1 : Ext w v2 := (Ext.refl w).trans e3
  refine wl_assign rfl rfl (by decide) ?_
  refine wl_nil ?_
  refine eo_then ?_
  refine cw_seq ?_
  refine cw_region ?_
  refine wl_call rfl rfl (vs := [.int .i64 0]) (by kernel_rfl) (by decide) (g_zint_Of hw1.size (by decide) (by decide)) ?_
  rintro _ v6 ⟨xr8, rfl, r8, e7⟩
  refine ret_intro ?_
  have hw2 : Ext w v6 := hw1.trans e7
  obtain ⟨s9, A9, n9, c9, rfl, z9⟩ := r8
  refine wl_alloc rfl (z := .agg #[.bool false, .slice none 0 0]) (vs := [.bool false, .slice none 0 0]) (fun _ => by kernel_rfl) rfl (by decide) fun g10 v11 nb => ?_
  have hb13 := nb.bk
  have ge14 : w.heap.size ≤ g10 := by rw [← nb.at_]; exact hw2.size
  have q15 : g1 < g10 := by rw [← nb.at_]; exact (hb4.ext e7).lt
  have e12 := nb.ext
  clear nb
  have hw3 : Ext w v11 := hw2.trans e12
  have hb17 := hb13
  refine wl_stored rfl rfl rfl aggInt rfl hb17 (Nat.le_of_ble_eq_true rfl) rfl [.bool s9, .slice A9 n9 c9] rfl fun v16 hb18 u19 hs20 => ?_
  have hw4 : Ext w v16 := u19.ext hw3 ge14
  refine wl_nil ?_
  refine eo_then ?_
  refine cw_seq ?_
  refine cw_region ?_
  refine wl_call rfl rfl (vs := [.int .i64 10]) (by kernel_rfl) (by decide) (g_zint_Of hw4.size (by decide) (by decide)) ?_
  rintro _ v21 ⟨xr23, rfl, r23, e22⟩
  refine ret_intro ?_
  have hw5 : Ext w v21 := hw4.trans e22
  obtain ⟨s24, A24, n24, c24, rfl, z24⟩ := r23
  refine wl_alloc rfl (z := .agg #[.bool false, .slice none 0 0]) (vs := [.bool false, .slice none 0 0]) (fun _ => by kernel_rfl) rfl (by decide) fun g25 v26 nb => ?_
  have hb28 := nb.bk
  have ge29 : w.heap.size ≤ g25 := by rw [← nb.at_]; exact hw5.size
  have q30 : g10 < g25 := by rw [← nb.at_]; exact (hb18.ext e22).lt
  have e27 := nb.ext
  clear nb
  have hw6 : Ext w v26 := hw5.trans e27
  have hb32 := hb28
  refine wl_stored rfl rfl rfl aggInt rfl hb32 (Nat.le_of_ble_eq_true rfl) rfl [.bool s24, .slice A24 n24 c24] rfl fun v31 hb33 u34 hs35 => ?_
  have hw7 : Ext w v31 := u34.ext hw6 ge29
  refine wl_nil ?_
  refine eo_then ?_
  refine cw_seq ?_
  refine cw_seq ?_
  refine cw_region ?_
  refine wl_move rfl rfl (by decide) ?_
  refine wl_assign rfl rfl (by decide) ?_
  refine wl_nil ?_
  refine eo_then ?_
  refine cw_block ?_
  refine cw_loop (T := World × Nat × ZC)
    (fun ⟨wr, i, kg⟩ => [(0, .string (strB bs)), (1, .int .i64 ((at0 : Nat) : Int)), (4, .pointer (some ⟨g1, 0, none⟩)), (5, .bool false), (6, .pointer (some ⟨g10, 0, none⟩)), (7, .pointer (some ⟨g25, 0, none⟩)), (8, .int .i64 ((i : Nat) : Int))])
    (fun ⟨wr, i, kg⟩ => wr)
    (fun ⟨wr, i, kg⟩ => (Ext w wr) ∧ (at0 ≤ i) ∧ (i ≤ bs.length) ∧ (∀ c, c ∈ (bs.drop at0).take (i - at0) → dv c < 10) ∧ (Bk wr g1 24 [.bool false, .slice none 0 0]) ∧ (Bk wr g10 24 [.bool kg.s, .slice kg.A kg.n kg.c]) ∧ (Bk wr g25 24 [.bool s24, .slice A24 n24 c24]) ∧ (Zr wr w.heap.size kg.s kg.A kg.n kg.c (((vald 10 (((bs.drop at0).take (i - at0)).map dv) : Nat) : Int))) ∧ (Zr wr w.heap.size s24 A24 n24 c24 10))
    (fun ⟨wr, i, kg⟩ => bs.length - i)
    (⟨v31, at0, ⟨s9, A9, n9, c9⟩⟩ : World × Nat × ZC) ⟨hw7, (Nat.le_refl _), hat, (fun c hc => absurd hc (by simp)), ((((hb4.ext (e7.trans e12)).updN u19 (by omega)).ext (e22.trans e27)).updN u34 (by omega)), ((hb18.ext (e22.trans e27)).updN u34 (by omega)), hb33, (((((z9.ext e12).updT hb17 u19).ext (e22.trans e27)).updT hb32 u34)).cast (by rw [Nat.sub_self, List.take_zero]; rfl), ((z24.ext e27).updT hb32 u34)⟩ rfl ⟨rfl, rfl, rfl, rfl, rfl, rfl, rfl, trivial⟩ ?_
  rintro ⟨wr, i, kg⟩ ⟨hw1, hi1, hi2, hok, b_4, b_6, b_7, zg, z_7⟩
  refine cw_re [(0, .string (strB bs)), (1, .int .i64 ((at0 : Nat) : Int)), (4, .pointer (some ⟨g1, 0, none⟩)), (5, .bool false), (6, .pointer (some ⟨g10, 0, none⟩)), (7, .pointer (some ⟨g25, 0, none⟩)), (8, .int .i64 ((i : Nat) : Int))] wr rfl ⟨rfl, rfl, rfl, rfl, rfl, rfl, rfl, trivial⟩ ?_
  have hvl : ln (((vald 10 (((bs.drop at0).take (i - at0)).map dv) : Nat) : Int)) ≤ 1048576 := ln_vald hok (by rw [List.length_take, List.length_drop]; omega)
  refine cw_seq ?_
  refine cw_seq ?_
  by_cases hlt : i < bs.length
  ·
    refine cw_region ?_
    refine wl_move rfl rfl (by decide) ?_
    refine wl_move rfl rfl (by decide) ?_
    refine wl_pureE rfl rfl (v := .int .i64 (((strB bs).size : Nat) : Int)) (v' := .int .i64 ((bs.length : Nat) : Int)) (by decide) (by kernel_rfl) (by rw [strB_size]) ?_
    refine wl_cmp rfl rfl rfl true (cb_lt_t (a := i) (b := bs.length) rfl rfl (by omega)) (by decide) ?_
    refine wl_nil ?_
    refine eo_then ?_
    refine cw_true rfl ?_
    refine cw_skip ?_
    refine eo_then ?_
    refine cw_seq ?_
    refine cw_block ?_
    refine cw_seq ?_
    have hc255 : bs.getD i 0 ≤ 255 := by have := hbs _ (getD_mem hlt); omega
    have hdc : dv (bs.getD i 0) < 10 := hg.2 _ (getD_mem_drop hi1 hlt)
    refine cw_region ?_
    refine wl_move rfl rfl (by decide) ?_
    refine wl_move rfl rfl (by decide) ?_
    refine wl_strix (bs := bs) (i := i) rfl rfl rfl Tryd.underlying9 hbs (by omega) (by decide) ?_
    refine wl_call rfl rfl (vs := [.int .u8 ((bs.getD i 0 : Nat) : Int)]) (by kernel_rfl) (by decide) (g_digit_ok hc255 hdc) ?_
    rintro _ v36 ⟨xr38, rfl, r38, e37⟩
    refine ret_intro ?_
    have hw2 : Ext w v36 := hw1.trans e37
    obtain rfl := r38
    refine wl_assign rfl rfl (by decide) ?_
    refine wl_nil ?_
    refine eo_then ?_
    refine cw_seq ?_
    refine cw_seq ?_
    refine cw_region ?_
    refine wl_move rfl rfl (by decide) ?_
    refine wl_cmp rfl rfl rfl false (cb_lt_f (a := dv (bs.getD i 0)) (b := 0) rfl rfl (by omega)) (by decide) ?_
    refine wl_nil ?_
    refine eo_then ?_
    refine cw_false rfl ?_
    refine cw_skip ?_
    refine eo_then ?_
    have L40 : ln (((vald 10 (((bs.drop at0).take (i - at0)).map dv) : Nat) : Int) * 10 + ((dv (bs.getD i 0) : Nat) : Int)) ≤ 1048578 := Nat.le_trans (ln_add (ln_mul hvl (show ln (10) ≤ 1 by decide +kernel)) (show ln ((dv (bs.getD i 0) : Nat) : Int) ≤ 1 by rw [ln_nat]; exact len_wd_w64 (by omega))) (by decide)
    refine cw_draw mix 5 [] [Is (.agg #[.bool kg.s, .slice kg.A kg.n kg.c]), Is (.agg #[.bool s24, .slice A24 n24 c24]), Is (.int .i64 ((dv (bs.getD i 0) : Nat) : Int)), ZR w.heap.size (((dv (bs.getD i 0) : Nat) : Int)), ZR w.heap.size (((vald 10 (((bs.drop at0).take (i - at0)).map dv) : Nat) : Int) * 10 + ((dv (bs.getD i 0) : Nat) : Int))] [[], [], [], [2], [0, 1, 3]] [[], [], [], [2], [0, 1, 2, 3], [0, 1, 2, 3, 4]] rfl
      (obs_cons rfl rfl (hob rfl rfl ?_) (obs_cons rfl rfl (hob rfl rfl ?_) (obs_cons rfl rfl (hob rfl rfl ?_) (obs_cons rfl rfl (hob rfl rfl ?_) (obs_cons rfl rfl (hob rfl rfl ?_) obs_nil))))) ?_
    · -- 0
      intro v42 e43
      have hw3 : Ext w v42 := hw2.trans e43
      refine deps_nil ?_
      refine wl_load rfl rfl (load_agg aggInt (b_6.ext (e37.trans e43)) [.bool kg.s, .slice kg.A kg.n kg.c] rfl (Nat.le_of_ble_eq_true rfl) rfl) (by decide) ?_
      exact pi_done rfl (Ext.refl _) rfl
    · -- 1
      intro v44 e45
      have hw3 : Ext w v44 := hw2.trans e45
      refine deps_nil ?_
      refine wl_load rfl rfl (load_agg aggInt (b_7.ext (e37.trans e45)) [.bool s24, .slice A24 n24 c24] rfl (Nat.le_of_ble_eq_true rfl) rfl) (by decide) ?_
      exact pi_done rfl (Ext.refl _) rfl
    · -- 2
      intro v46 e47
      have hw3 : Ext w v46 := hw2.trans e47
      refine deps_nil ?_
      refine wl_move rfl rfl (by decide) ?_
      exact pi_done rfl (Ext.refl _) rfl
    · -- 3
      intro v48 e49
      have hw3 : Ext w v48 := hw2.trans e49
      refine deps_cons rfl rfl fun x50 y51 h52 e53 f54 => ?_
      obtain rfl := h52
      refine deps_nil ?_
      refine wl_call rfl rfl (vs := [.int .i64 ((dv (bs.getD i 0) : Nat) : Int)]) (by kernel_rfl) (by decide) (g_zint_Of hw3.size (by omega) (by omega)) ?_
      rintro _ v55 ⟨xr57, rfl, r57, e56⟩
      refine ret_intro ?_
      have hw4 : Ext w v55 := hw3.trans e56
      obtain ⟨s58, A58, n58, c58, rfl, z58⟩ := r57
      exact pi_done rfl e56 ⟨_, _, _, _, rfl, z58⟩
    · -- 4
      intro v59 e60
      have hw3 : Ext w v59 := hw2.trans e60
      refine deps_cons rfl rfl fun x61 y62 h63 e64 f65 => ?_
      obtain rfl := h63
      refine deps_cons rfl rfl fun x66 y67 h68 e69 f70 => ?_
      obtain rfl := h68
      refine deps_cons rfl rfl fun x71 y72 h73 e74 f75 => ?_
      obtain ⟨s76, A76, n76, c76, rfl, z76⟩ := h73
      have z76 := z76.ext f75
      refine deps_nil ?_
      have L77 : ln (((vald 10 (((bs.drop at0).take (i - at0)).map dv) : Nat) : Int) * 10 + ((dv (bs.getD i 0) : Nat) : Int)) ≤ 1048578 := Nat.le_trans (ln_add (ln_mul hvl (show ln (10) ≤ 1 by decide +kernel)) (show ln ((dv (bs.getD i 0) : Nat) : Int) ≤ 1 by rw [ln_nat]; exact len_wd_w64 (by omega))) (by decide)
      refine wl_call rfl rfl (vs := [.agg #[.bool kg.s, .slice kg.A kg.n kg.c], .agg #[.bool s24, .slice A24 n24 c24], .agg #[.bool s76, .slice A76 n76 c76]]) (by kernel_rfl) (by decide) (g_zint_MulAdd hw3.size (zg.ext (e37.trans e60)).zi (zg.le (Nat.le_trans hvl (by decide))) (z_7.ext (e37.trans e60)).zi (z_7.le (Nat.le_trans (show ln (10) ≤ 1 by decide +kernel) (by decide))) z76.zi (z76.le (Nat.le_trans (show ln ((dv (bs.getD i 0) : Nat) : Int) ≤ 1 by rw [ln_nat]; exact len_wd_w64 (by omega)) (by decide)))) ?_
      rintro _ v78 ⟨xr80, rfl, r80, e79⟩
      refine ret_intro ?_
      have hw4 : Ext w v78 := hw3.trans e79
      obtain ⟨s81, A81, n81, c81, rfl, z81⟩ := r80
      exact pi_done rfl e79 ⟨_, _, _, _, rfl, z81⟩
    · -- all
      intro v82 e83
      have hw3 : Ext w v82 := hw2.trans e83
      refine deps_cons rfl rfl fun x84 y85 h86 e87 f88 => ?_
      obtain rfl := h86
      refine deps_cons rfl rfl fun x89 y90 h91 e92 f93 => ?_
      obtain rfl := h91
      refine deps_cons rfl rfl fun x94 y95 h96 e97 f98 => ?_
      obtain rfl := h96
      refine deps_cons rfl rfl fun x99 y100 h101 e102 f103 => ?_
      obtain ⟨s104, A104, n104, c104, rfl, z104⟩ := h101
      have z104 := z104.ext f103
      refine deps_cons rfl rfl fun x105 y106 h107 e108 f109 => ?_
      obtain ⟨s110, A110, n110, c110, rfl, z110⟩ := h107
      have z110 := z110.ext f109
      refine deps_nil ?_
      have hb112 := (b_6.ext (e37.trans e83))
      refine wl_stored rfl rfl rfl aggInt rfl hb112 (Nat.le_of_ble_eq_true rfl) rfl [.bool s110, .slice A110 n110 c110] rfl fun v111 hb113 u114 hs115 => ?_
      have hw4 : Ext w v111 := u114.ext hw3 ge14
      refine wl_nil ?_
      refine eo_np ?_
      refine eo_block_normal ?_
      refine eo_then ?_
      refine cw_region ?_
      refine wl_move rfl rfl (by decide) ?_
      refine wl_ar rfl rfl rfl ((i + 1 : Nat) : Int) (ai_add (a := i) (b := 1) rfl rfl (by omega)) (by decide) ?_
      refine wl_assign rfl rfl (by decide) ?_
      refine wl_nil ?_
      refine eo_round (⟨v111, i + 1, ⟨s110, A110, n110, c110⟩⟩ : World × Nat × ZC) ⟨hw4, (by omega), (by omega), (fun c hc => by rw [take_drop_snoc hi1 hlt] at hc; rcases List.mem_append.1 hc with h | h; (· exact hok c h); (· rw [List.mem_singleton.1 h]; exact hdc)), ((b_4.ext (e37.trans e83)).updN u114 (by omega)), hb113, ((b_7.ext (e37.trans e83)).updN u114 (by omega)), ((z110.updT hb112 u114)).cast (vald_step hi1 hlt), ((z_7.ext (e37.trans e83)).updT hb112 u114)⟩ (show bs.length - (i + 1) < bs.length - i by omega) rfl ⟨rfl, rfl, rfl, rfl, rfl, rfl, rfl, trivial⟩
  ·
    have hie : i = bs.length := by omega
    have hta : (bs.drop at0).take (i - at0) = bs.drop at0 := List.take_of_length_le (by rw [List.length_drop, hie]; exact Nat.le_refl _)
    rw [hta] at hok
    have hat2 : at0 < bs.length := by have h := hg.1; rw [ne_eq, List.drop_eq_nil_iff] at h; omega
    refine cw_region ?_
    refine wl_move rfl rfl (by decide) ?_
    refine wl_move rfl rfl (by decide) ?_
    refine wl_pureE rfl rfl (v := .int .i64 (((strB bs).size : Nat) : Int)) (v' := .int .i64 ((bs.length : Nat) : Int)) (by decide) (by kernel_rfl) (by rw [strB_size]) ?_
    refine wl_cmp rfl rfl rfl false (cb_lt_f (a := i) (b := bs.length) rfl rfl (by omega)) (by decide) ?_
    refine wl_nil ?_
    refine eo_then ?_
    refine cw_false rfl ?_
    refine cw_exit ?_
    refine eo_thenX ?_
    refine eo_loopX ?_
    refine eo_block_here ?_
    refine eo_then ?_
    refine cw_seq ?_
    refine cw_region ?_
    refine wl_load rfl rfl (load_agg aggInt b_6 [.bool kg.s, .slice kg.A kg.n kg.c] rfl (Nat.le_of_ble_eq_true rfl) rfl) (by decide) ?_
    refine wl_move rfl rfl (by decide) ?_
    refine wl_move rfl rfl (by decide) ?_
    refine wl_pureE rfl rfl (v := .int .i64 (((strB bs).size : Nat) : Int)) (v' := .int .i64 ((bs.length : Nat) : Int)) (by decide) (by kernel_rfl) (by rw [strB_size]) ?_
    refine wl_cmp rfl rfl rfl true (cb_lt_t (a := at0) (b := bs.length) rfl rfl (by omega)) (by decide) ?_
    have hb117 := b_4
    refine wl_stored rfl rfl rfl aggInt rfl hb117 (Nat.le_of_ble_eq_true rfl) rfl [.bool kg.s, .slice kg.A kg.n kg.c] rfl fun v116 hb118 u119 hs120 => ?_
    have hw2 : Ext w v116 := u119.ext hw1 ge5
    refine wl_assign rfl rfl (by decide) ?_
    refine wl_nil ?_
    refine eo_then ?_
    refine cw_ret ?_
    refine eo_ret [.agg #[.bool kg.s, .slice kg.A kg.n kg.c], .bool true] rfl ⟨⟨_, rfl, load_agg aggInt hb118 [.bool kg.s, .slice kg.A kg.n kg.c] rfl (Nat.le_of_ble_eq_true rfl) rfl⟩, rfl, trivial⟩ ?_
    exact ⟨_, rfl, ⟨_, _, rfl, ⟨_, _, _, _, rfl, ((zg.updT hb117 u119)).cast (by rw [hta])⟩, rfl⟩, hw2⟩
set_option maxHeartbeats 4000000 in
theorem g_written_no {w : World} {bs : List Nat} {at0 : Nat} (hbs : ∀ b, b ∈ bs → b < 256) (hlen : bs.length ≤ 1048576) (hat : at0 ≤ bs.length) (hg : ¬ Good 10 (bs.drop at0)) :
    Calls Tryd.prog 82 #[.string (strB bs), .int .i64 ((at0 : Nat) : Int)] w (fun e w' => ∃ z : Int, ln z ≤ 1048576 ∧ Gv w (T2 (ZR w.heap.size z) (Is (.bool false))) e w') := by
  refine sx_enter Tryd.func82 rfl (n := 36) rfl (Nat.le_of_ble_eq_true rfl) (args := [.string (strB bs), .int .i64 ((at0 : Nat) : Int)]) ?_
  refine cw_keep [(0, .string (strB bs)), (1, .int .i64 ((at0 : Nat) : Int))] ⟨rfl, rfl, trivial⟩ ?_
  refine cw_seq ?_
  refine cw_region ?_
  refine wl_alloc rfl (z := .agg #[.bool false, .slice none 0 0]) (vs := [.bool false, .slice none 0 0]) (fun _ => by kernel_rfl) rfl (by decide) fun g1 v2 nb => ?_
  have hb4 := nb.bk
  have ge5 : w.heap.size ≤ g1 := by rw [← nb.at_]; exact (Ext.refl w).size
  have e3 := nb.ext
  clear nb
  have hw1 : Ext w v2 := (Ext.refl w).trans e3
  refine wl_assign rfl rfl (by decide) ?_
  refine wl_nil ?_
  refine eo_then ?_
  refine cw_seq ?_
  refine cw_region ?_
  refine wl_call rfl rfl (vs := [.int .i64 0]) (by kernel_rfl) (by decide) (g_zint_Of hw1.size (by decide) (by decide)) ?_
  rintro _ v6 ⟨xr8, rfl, r8, e7⟩
  refine ret_intro ?_
  have hw2 : Ext w v6 := hw1.trans e7
  obtain ⟨s9, A9, n9, c9, rfl, z9⟩ := r8
  refine wl_alloc rfl (z := .agg #[.bool false, .slice none 0 0]) (vs := [.bool false, .slice none 0 0]) (fun _ => by kernel_rfl) rfl (by decide) fun g10 v11 nb => ?_
  have hb13 := nb.bk
  have ge14 : w.heap.size ≤ g10 := by rw [← nb.at_]; exact hw2.size
  have q15 : g1 < g10 := by rw [← nb.at_]; exact (hb4.ext e7).lt
  have e12 := nb.ext
  clear nb
  have hw3 : Ext w v11 := hw2.trans e12
  have hb17 := hb13
  refine wl_stored rfl rfl rfl aggInt rfl hb17 (Nat.le_of_ble_eq_true rfl) rfl [.bool s9, .slice A9 n9 c9] rfl fun v16 hb18 u19 hs20 => ?_
  have hw4 : Ext w v16 := u19.ext hw3 ge14
  refine wl_nil ?_
  refine eo_then ?_
  refine cw_seq ?_
  refine cw_region ?_
  refine wl_call rfl rfl (vs := [.int .i64 10]) (by kernel_rfl) (by decide) (g_zint_Of hw4.size (by decide) (by decide)) ?_
  rintro _ v21 ⟨xr23, rfl, r23, e22⟩
  refine ret_intro ?_
  have hw5 : Ext w v21 := hw4.trans e22
  obtain ⟨s24, A24, n24, c24, rfl, z24⟩ := r23
  refine wl_alloc rfl (z := .agg #[.bool false, .slice none 0 0]) (vs := [.bool false, .slice none 0 0]) (fun _ => by kernel_rfl) rfl (by decide) fun g25 v26 nb => ?_
  have hb28 := nb.bk
  have ge29 : w.heap.size ≤ g25 := by rw [← nb.at_]; exact hw5.size
  have q30 : g10 < g25 := by rw [← nb.at_]; exact (hb18.ext e22).lt
  have e27 := nb.ext
  clear nb
  have hw6 : Ext w v26 := hw5.trans e27
  have hb32 := hb28
  refine wl_stored rfl rfl rfl aggInt rfl hb32 (Nat.le_of_ble_eq_true rfl) rfl [.bool s24, .slice A24 n24 c24] rfl fun v31 hb33 u34 hs35 => ?_
  have hw7 : Ext w v31 := u34.ext hw6 ge29
  refine wl_nil ?_
  refine eo_then ?_
  refine cw_seq ?_
  refine cw_seq ?_
  refine cw_region ?_
  refine wl_move rfl rfl (by decide) ?_
  refine wl_assign rfl rfl (by decide) ?_
  refine wl_nil ?_
  refine eo_then ?_
  refine cw_block ?_
  refine cw_loop (T := World × Nat × ZC)
    (fun ⟨wr, i, kg⟩ => [(0, .string (strB bs)), (1, .int .i64 ((at0 : Nat) : Int)), (4, .pointer (some ⟨g1, 0, none⟩)), (5, .bool false), (6, .pointer (some ⟨g10, 0, none⟩)), (7, .pointer (some ⟨g25, 0, none⟩)), (8, .int .i64 ((i : Nat) : Int))])
    (fun ⟨wr, i, kg⟩ => wr)
    (fun ⟨wr, i, kg⟩ => (Ext w wr) ∧ (at0 ≤ i) ∧ (i ≤ bs.length) ∧ (∀ c, c ∈ (bs.drop at0).take (i - at0) → dv c < 10) ∧ (Bk wr g1 24 [.bool false, .slice none 0 0]) ∧ (Bk wr g10 24 [.bool kg.s, .slice kg.A kg.n kg.c]) ∧ (Bk wr g25 24 [.bool s24, .slice A24 n24 c24]) ∧ (Zr wr w.heap.size kg.s kg.A kg.n kg.c (((vald 10 (((bs.drop at0).take (i - at0)).map dv) : Nat) : Int))) ∧ (Zr wr w.heap.size s24 A24 n24 c24 10))
    (fun ⟨wr, i, kg⟩ => bs.length - i)
    (⟨v31, at0, ⟨s9, A9, n9, c9⟩⟩ : World × Nat × ZC) ⟨hw7, (Nat.le_refl _), hat, (fun c hc => absurd hc (by simp)), ((((hb4.ext (e7.trans e12)).updN u19 (by omega)).ext (e22.trans e27)).updN u34 (by omega)), ((hb18.ext (e22.trans e27)).updN u34 (by omega)), hb33, (((((z9.ext e12).updT hb17 u19).ext (e22.trans e27)).updT hb32 u34)).cast (by rw [Nat.sub_self, List.take_zero]; rfl), ((z24.ext e27).updT hb32 u34)⟩ rfl ⟨rfl, rfl, rfl, rfl, rfl, rfl, rfl, trivial⟩ ?_
  rintro ⟨wr, i, kg⟩ ⟨hw1, hi1, hi2, hok, b_4, b_6, b_7, zg, z_7⟩
  refine cw_re [(0, .string (strB bs)), (1, .int .i64 ((at0 : Nat) : Int)), (4, .pointer (some ⟨g1, 0, none⟩)), (5, .bool false), (6, .pointer (some ⟨g10, 0, none⟩)), (7, .pointer (some ⟨g25, 0, none⟩)), (8, .int .i64 ((i : Nat) : Int))] wr rfl ⟨rfl, rfl, rfl, rfl, rfl, rfl, rfl, trivial⟩ ?_
  have hvl : ln (((vald 10 (((bs.drop at0).take (i - at0)).map dv) : Nat) : Int)) ≤ 1048576 := ln_vald hok (by rw [List.length_take, List.length_drop]; omega)
  refine cw_seq ?_
  refine cw_seq ?_
  by_cases hlt : i < bs.length
  ·
    refine cw_region ?_
    refine wl_move rfl rfl (by decide) ?_
    refine wl_move rfl rfl (by decide) ?_
    refine wl_pureE rfl rfl (v := .int .i64 (((strB bs).size : Nat) : Int)) (v' := .int .i64 ((bs.length : Nat) : Int)) (by decide) (by kernel_rfl) (by rw [strB_size]) ?_
    refine wl_cmp rfl rfl rfl true (cb_lt_t (a := i) (b := bs.length) rfl rfl (by omega)) (by decide) ?_
    refine wl_nil ?_
    refine eo_then ?_
    refine cw_true rfl ?_
    refine cw_skip ?_
    refine eo_then ?_
    refine cw_seq ?_
    refine cw_block ?_
    refine cw_seq ?_
    have hc255 : bs.getD i 0 ≤ 255 := by have := hbs _ (getD_mem hlt); omega
    by_cases hdc : dv (bs.getD i 0) < 10
    ·
      refine cw_region ?_
      refine wl_move rfl rfl (by decide) ?_
      refine wl_move rfl rfl (by decide) ?_
      refine wl_strix (bs := bs) (i := i) rfl rfl rfl Tryd.underlying9 hbs (by omega) (by decide) ?_
      refine wl_call rfl rfl (vs := [.int .u8 ((bs.getD i 0 : Nat) : Int)]) (by kernel_rfl) (by decide) (g_digit_ok hc255 hdc) ?_
      rintro _ v36 ⟨xr38, rfl, r38, e37⟩
      refine ret_intro ?_
      have hw2 : Ext w v36 := hw1.trans e37
      obtain rfl := r38
      refine wl_assign rfl rfl (by decide) ?_
      refine wl_nil ?_
      refine eo_then ?_
      refine cw_seq ?_
      refine cw_seq ?_
      refine cw_region ?_
      refine wl_move rfl rfl (by decide) ?_
      refine wl_cmp rfl rfl rfl false (cb_lt_f (a := dv (bs.getD i 0)) (b := 0) rfl rfl (by omega)) (by decide) ?_
      refine wl_nil ?_
      refine eo_then ?_
      refine cw_false rfl ?_
      refine cw_skip ?_
      refine eo_then ?_
      have L40 : ln (((vald 10 (((bs.drop at0).take (i - at0)).map dv) : Nat) : Int) * 10 + ((dv (bs.getD i 0) : Nat) : Int)) ≤ 1048578 := Nat.le_trans (ln_add (ln_mul hvl (show ln (10) ≤ 1 by decide +kernel)) (show ln ((dv (bs.getD i 0) : Nat) : Int) ≤ 1 by rw [ln_nat]; exact len_wd_w64 (by omega))) (by decide)
      refine cw_draw mix 5 [] [Is (.agg #[.bool kg.s, .slice kg.A kg.n kg.c]), Is (.agg #[.bool s24, .slice A24 n24 c24]), Is (.int .i64 ((dv (bs.getD i 0) : Nat) : Int)), ZR w.heap.size (((dv (bs.getD i 0) : Nat) : Int)), ZR w.heap.size (((vald 10 (((bs.drop at0).take (i - at0)).map dv) : Nat) : Int) * 10 + ((dv (bs.getD i 0) : Nat) : Int))] [[], [], [], [2], [0, 1, 3]] [[], [], [], [2], [0, 1, 2, 3], [0, 1, 2, 3, 4]] rfl
        (obs_cons rfl rfl (hob rfl rfl ?_) (obs_cons rfl rfl (hob rfl rfl ?_) (obs_cons rfl rfl (hob rfl rfl ?_) (obs_cons rfl rfl (hob rfl rfl ?_) (obs_cons rfl rfl (hob rfl rfl ?_) obs_nil))))) ?_
      · -- 0
        intro v42 e43
        have hw3 : Ext w v42 := hw2.trans e43
        refine deps_nil ?_
        refine wl_load rfl rfl (load_agg aggInt (b_6.ext (e37.trans e43)) [.bool kg.s, .slice kg.A kg.n kg.c] rfl (Nat.le_of_ble_eq_true rfl) rfl) (by decide) ?_
        exact pi_done rfl (Ext.refl _) rfl
      · -- 1
        intro v44 e45
        have hw3 : Ext w v44 := hw2.trans e45
        refine deps_nil ?_
        refine wl_load rfl rfl (load_agg aggInt (b_7.ext (e37.trans e45)) [.bool s24, .slice A24 n24 c24] rfl (Nat.le_of_ble_eq_true rfl) rfl) (by decide) ?_
        exact pi_done rfl (Ext.refl _) rfl
      · -- 2
        intro v46 e47
        have hw3 : Ext w v46 := hw2.trans e47
        refine deps_nil ?_
        refine wl_move rfl rfl (by decide) ?_
        exact pi_done rfl (Ext.refl _) rfl
      · -- 3
        intro v48 e49
        have hw3 : Ext w v48 := hw2.trans e49
        refine deps_cons rfl rfl fun x50 y51 h52 e53 f54 => ?_
        obtain rfl := h52
        refine deps_nil ?_
        refine wl_call rfl rfl (vs := [.int .i64 ((dv (bs.getD i 0) : Nat) : Int)]) (by kernel_rfl) (by decide) (g_zint_Of hw3.size (by omega) (by omega)) ?_
        rintro _ v55 ⟨xr57, rfl, r57, e56⟩
        refine ret_intro ?_
        have hw4 : Ext w v55 := hw3.trans e56
        obtain ⟨s58, A58, n58, c58, rfl, z58⟩ := r57
        exact pi_done rfl e56 ⟨_, _, _, _, rfl, z58⟩
      · -- 4
        intro v59 e60
        have hw3 : Ext w v59 := hw2.trans e60
        refine deps_cons rfl rfl fun x61 y62 h63 e64 f65 => ?_
        obtain rfl := h63
        refine deps_cons rfl rfl fun x66 y67 h68 e69 f70 => ?_
        obtain rfl := h68
        refine deps_cons rfl rfl fun x71 y72 h73 e74 f75 => ?_
        obtain ⟨s76, A76, n76, c76, rfl, z76⟩ := h73
        have z76 := z76.ext f75
        refine deps_nil ?_
        have L77 : ln (((vald 10 (((bs.drop at0).take (i - at0)).map dv) : Nat) : Int) * 10 + ((dv (bs.getD i 0) : Nat) : Int)) ≤ 1048578 := Nat.le_trans (ln_add (ln_mul hvl (show ln (10) ≤ 1 by decide +kernel)) (show ln ((dv (bs.getD i 0) : Nat) : Int) ≤ 1 by rw [ln_nat]; exact len_wd_w64 (by omega))) (by decide)
        refine wl_call rfl rfl (vs := [.agg #[.bool kg.s, .slice kg.A kg.n kg.c], .agg #[.bool s24, .slice A24 n24 c24], .agg #[.bool s76, .slice A76 n76 c76]]) (by kernel_rfl) (by decide) (g_zint_MulAdd hw3.size (zg.ext (e37.trans e60)).zi (zg.le (Nat.le_trans hvl (by decide))) (z_7.ext (e37.trans e60)).zi (z_7.le (Nat.le_trans (show ln (10) ≤ 1 by decide +kernel) (by decide))) z76.zi (z76.le (Nat.le_trans (show ln ((dv (bs.getD i 0) : Nat) : Int) ≤ 1 by rw [ln_nat]; exact len_wd_w64 (by omega)) (by decide)))) ?_
        rintro _ v78 ⟨xr80, rfl, r80, e79⟩
        refine ret_intro ?_
        have hw4 : Ext w v78 := hw3.trans e79
        obtain ⟨s81, A81, n81, c81, rfl, z81⟩ := r80
        exact pi_done rfl e79 ⟨_, _, _, _, rfl, z81⟩
      · -- all
        intro v82 e83
        have hw3 : Ext w v82 := hw2.trans e83
        refine deps_cons rfl rfl fun x84 y85 h86 e87 f88 => ?_
        obtain rfl := h86
        refine deps_cons rfl rfl fun x89 y90 h91 e92 f93 => ?_
        obtain rfl := h91
        refine deps_cons rfl rfl fun x94 y95 h96 e97 f98 => ?_
        obtain rfl := h96
        refine deps_cons rfl rfl fun x99 y100 h101 e102 f103 => ?_
        obtain ⟨s104, A104, n104, c104, rfl, z104⟩ := h101
        have z104 := z104.ext f103
        refine deps_cons rfl rfl fun x105 y106 h107 e108 f109 => ?_
        obtain ⟨s110, A110, n110, c110, rfl, z110⟩ := h107
        have z110 := z110.ext f109
        refine deps_nil ?_
        have hb112 := (b_6.ext (e37.trans e83))
        refine wl_stored rfl rfl rfl aggInt rfl hb112 (Nat.le_of_ble_eq_true rfl) rfl [.bool s110, .slice A110 n110 c110] rfl fun v111 hb113 u114 hs115 => ?_
        have hw4 : Ext w v111 := u114.ext hw3 ge14
        refine wl_nil ?_
        refine eo_np ?_
        refine eo_block_normal ?_
        refine eo_then ?_
        refine cw_region ?_
        refine wl_move rfl rfl (by decide) ?_
        refine wl_ar rfl rfl rfl ((i + 1 : Nat) : Int) (ai_add (a := i) (b := 1) rfl rfl (by omega)) (by decide) ?_
        refine wl_assign rfl rfl (by decide) ?_
        refine wl_nil ?_
        refine eo_round (⟨v111, i + 1, ⟨s110, A110, n110, c110⟩⟩ : World × Nat × ZC) ⟨hw4, (by omega), (by omega), (fun c hc => by rw [take_drop_snoc hi1 hlt] at hc; rcases List.mem_append.1 hc with h | h; (· exact hok c h); (· rw [List.mem_singleton.1 h]; exact hdc)), ((b_4.ext (e37.trans e83)).updN u114 (by omega)), hb113, ((b_7.ext (e37.trans e83)).updN u114 (by omega)), ((z110.updT hb112 u114)).cast (vald_step hi1 hlt), ((z_7.ext (e37.trans e83)).updT hb112 u114)⟩ (show bs.length - (i + 1) < bs.length - i by omega) rfl ⟨rfl, rfl, rfl, rfl, rfl, rfl, rfl, trivial⟩
    ·
      refine cw_region ?_
      refine wl_move rfl rfl (by decide) ?_
      refine wl_move rfl rfl (by decide) ?_
      refine wl_strix (bs := bs) (i := i) rfl rfl rfl Tryd.underlying9 hbs (by omega) (by decide) ?_
      refine wl_call rfl rfl (vs := [.int .u8 ((bs.getD i 0 : Nat) : Int)]) (by kernel_rfl) (by decide) (g_digit_no hc255 hdc) ?_
      rintro _ v116 ⟨xr118, rfl, r118, e117⟩
      refine ret_intro ?_
      have hw2 : Ext w v116 := hw1.trans e117
      obtain rfl := r118
      refine wl_assign rfl rfl (by decide) ?_
      refine wl_nil ?_
      refine eo_then ?_
      refine cw_seq ?_
      refine cw_seq ?_
      refine cw_region ?_
      refine wl_move rfl rfl (by decide) ?_
      refine wl_cmp rfl rfl rfl true (by decide) (by decide) ?_
      refine wl_nil ?_
      refine eo_then ?_
      refine cw_true rfl ?_
      refine cw_seq ?_
      refine cw_region ?_
      refine wl_load rfl rfl (load_agg aggInt (b_6.ext e117) [.bool kg.s, .slice kg.A kg.n kg.c] rfl (Nat.le_of_ble_eq_true rfl) rfl) (by decide) ?_
      have hb120 := (b_4.ext e117)
      refine wl_stored rfl rfl rfl aggInt rfl hb120 (Nat.le_of_ble_eq_true rfl) rfl [.bool kg.s, .slice kg.A kg.n kg.c] rfl fun v119 hb121 u122 hs123 => ?_
      have hw3 : Ext w v119 := u122.ext hw2 ge5
      refine wl_assign rfl rfl (by decide) ?_
      refine wl_nil ?_
      refine eo_then ?_
      refine cw_ret ?_
      refine eo_thenR ?_
      refine eo_block_ret ?_
      refine eo_thenR ?_
      refine eo_loopR ?_
      refine eo_block_ret ?_
      refine eo_thenR ?_
      refine eo_ret [.agg #[.bool kg.s, .slice kg.A kg.n kg.c], .bool false] rfl ⟨⟨_, rfl, load_agg aggInt hb121 [.bool kg.s, .slice kg.A kg.n kg.c] rfl (Nat.le_of_ble_eq_true rfl) rfl⟩, rfl, trivial⟩ ?_
      exact ⟨_, hvl, _, rfl, ⟨_, _, rfl, ⟨_, _, _, _, rfl, ((zg.ext e117).updT hb120 u122)⟩, rfl⟩, hw3⟩
  ·
    have hie : i = bs.length := by omega
    have hta : (bs.drop at0).take (i - at0) = bs.drop at0 := List.take_of_length_le (by rw [List.length_drop, hie]; exact Nat.le_refl _)
    rw [hta] at hok
    have hat2 : ¬ at0 < bs.length := fun h => hg ⟨fun e => by rw [List.drop_eq_nil_iff] at e; omega, hok⟩
    refine cw_region ?_
    refine wl_move rfl rfl (by decide) ?_
    refine wl_move rfl rfl (by decide) ?_
    refine wl_pureE rfl rfl (v := .int .i64 (((strB bs).size : Nat) : Int)) (v' := .int .i64 ((bs.length : Nat) : Int)) (by decide) (by kernel_rfl) (by rw [strB_size]) ?_
    refine wl_cmp rfl rfl rfl false (cb_lt_f (a := i) (b := bs.length) rfl rfl (by omega)) (by decide) ?_
    refine wl_nil ?_
    refine eo_then ?_
    refine cw_false rfl ?_
    refine cw_exit ?_
    refine eo_thenX ?_
    refine eo_loopX ?_
    refine eo_block_here ?_
    refine eo_then ?_
    refine cw_seq ?_
    refine cw_region ?_
    refine wl_load rfl rfl (load_agg aggInt b_6 [.bool kg.s, .slice kg.A kg.n kg.c] rfl (Nat.le_of_ble_eq_true rfl) rfl) (by decide) ?_
    refine wl_move rfl rfl (by decide) ?_
    refine wl_move rfl rfl (by decide) ?_
    refine wl_pureE rfl rfl (v := .int .i64 (((strB bs).size : Nat) : Int)) (v' := .int .i64 ((bs.length : Nat) : Int)) (by decide) (by kernel_rfl) (by rw [strB_size]) ?_
    refine wl_cmp rfl rfl rfl false (cb_lt_f (a := at0) (b := bs.length) rfl rfl (by omega)) (by decide) ?_
    have hb125 := b_4
    refine wl_stored rfl rfl rfl aggInt rfl hb125 (Nat.le_of_ble_eq_true rfl) rfl [.bool kg.s, .slice kg.A kg.n kg.c] rfl fun v124 hb126 u127 hs128 => ?_
    have hw2 : Ext w v124 := u127.ext hw1 ge5
    refine wl_assign rfl rfl (by decide) ?_
    refine wl_nil ?_
    refine eo_then ?_
    refine cw_ret ?_
    refine eo_ret [.agg #[.bool kg.s, .slice kg.A kg.n kg.c], .bool false] rfl ⟨⟨_, rfl, load_agg aggInt hb126 [.bool kg.s, .slice kg.A kg.n kg.c] rfl (Nat.le_of_ble_eq_true rfl) rfl⟩, rfl, trivial⟩ ?_
    exact ⟨_, hvl, _, rfl, ⟨_, _, rfl, ⟨_, _, _, _, rfl, (zg.updT hb125 u127)⟩, rfl⟩, hw2⟩
theorem g_written_nob {w : World} {b : Nat} (hb : b ≤ w.heap.size) {bs : List Nat} {at0 : Nat} (hbs : ∀ b, b ∈ bs → b < 256) (hlen : bs.length ≤ 1048576) (hat : at0 ≤ bs.length) (hg : ¬ Good 10 (bs.drop at0)) :
    Calls Tryd.prog 82 #[.string (strB bs), .int .i64 ((at0 : Nat) : Int)] w (fun e w' => ∃ z : Int, ln z ≤ 1048576 ∧ Gv w (T2 (ZR b z) (Is (.bool false))) e w') :=
  (g_written_no hbs hlen hat hg).mono fun e w' h => by
    obtain ⟨z, hz, h⟩ := h
    exact ⟨z, hz, Gv.imp (T2.imp (ZR.imp hb) Is.imp) _ _ h⟩
theorem take1_eq {bs : List Nat} {c : Nat} (h : bs.take 1 = [c]) : 0 < bs.length ∧ bs.getD 0 0 = c := by
  cases bs with
  | nil => cases h
  | cons x r => simp at h; exact ⟨by simp, h⟩
theorem take3_eq {bs : List Nat} {a b c : Nat} (h : bs.take 3 = [a, b, c]) : 3 ≤ bs.length ∧ bs.getD 0 0 = a := by
  match bs, h with
  | [], h => cases h
  | [_], h => cases h
  | [_, _], h => cases h
  | x :: y :: z :: r, h => simp at h; exact ⟨by simp, h.1⟩
theorem take1_of {bs : List Nat} {c : Nat} (h : bs.length > 0) (e : bs.getD 0 0 = c) : bs.take 1 = [c] := by
  cases bs with
  | nil => simp at h
  | cons x r => simp at e; simp [e]
set_option maxHeartbeats 4000000 in
theorem g_law5_reads {w : World} {bs : List Nat} (hbs : ∀ b, b ∈ bs → b < 256) (hlen : bs.length ≤ 1048576) :
    Calls Tryd.prog 52 #[.string (strB bs)] w (Gv w (Is (.bool true))) := by
  refine sx_enter Tryd.func52 rfl (n := 69) rfl (Nat.le_of_ble_eq_true rfl) (args := [.string (strB bs)]) ?_
  refine cw_keep [(0, .string (strB bs))] ⟨rfl, trivial⟩ ?_
  refine cw_seq ?_
  refine cw_region ?_
  refine wl_assign rfl rfl (by decide) ?_
  refine wl_nil ?_
  refine eo_then ?_
  refine cw_seq ?_
  refine cw_region ?_
  refine wl_assign rfl rfl (by decide) ?_
  refine wl_nil ?_
  refine eo_then ?_
  refine cw_seq ?_
  refine cw_region ?_
  refine wl_assign rfl rfl (by decide) ?_
  refine wl_nil ?_
  refine eo_then ?_
  refine cw_seq ?_
  refine cw_seq ?_
  by_cases hf1 : bs.take 1 = [43]
  ·
    have hzl : ztl bs = bs.drop 1 := by unfold ztl; rw [if_pos hf1]
    have hzn : zng bs = false := by unfold zng; rw [if_pos hf1]
    obtain ⟨h0l, h0v⟩ := take1_eq hf1
    refine cw_region ?_
    refine wl_move rfl rfl (by decide) ?_
    refine wl_pureE rfl rfl (v := .int .i64 (((strB bs).size : Nat) : Int)) (v' := .int .i64 ((bs.length : Nat) : Int)) (by decide) (by kernel_rfl) (by rw [strB_size]) ?_
    refine wl_cmp rfl rfl rfl true (cb_gt_t (a := bs.length) (b := 0) rfl rfl (by omega)) (by decide) ?_
    refine wl_move rfl rfl (by decide) ?_
    refine wl_move rfl rfl (by decide) ?_
    refine wl_strix (bs := bs) (i := 0) rfl rfl rfl Tryd.underlying9 hbs (by omega) (by decide) ?_
    refine wl_cmp rfl rfl rfl true (cb_eq_t (a := bs.getD 0 0) (b := 43) rfl rfl (by omega)) (by decide) ?_
    refine wl_move rfl rfl (by decide) ?_
    refine wl_off rfl (by decide) ?_
    refine wl_off rfl (by decide) ?_
    refine wl_off rfl (by decide) ?_
    refine wl_pure rfl rfl (v := .bool true) (by decide) (by kernel_rfl) ?_
    refine wl_pure rfl rfl (v := .bool true) (by decide) (by kernel_rfl) ?_
    refine wl_nil ?_
    refine eo_then ?_
    refine cw_true rfl ?_
    refine cw_seq ?_
    refine cw_region ?_
    refine wl_move rfl rfl (by decide) ?_
    refine wl_strix (bs := bs) (i := 0) rfl rfl rfl Tryd.underlying9 hbs (by omega) (by decide) ?_
    refine wl_cmp rfl rfl rfl false (cb_eq_f (a := bs.getD 0 0) (b := 45) rfl rfl (by omega)) (by decide) ?_
    refine wl_assign rfl rfl (by decide) ?_
    refine wl_nil ?_
    refine eo_then ?_
    refine cw_region ?_
    refine wl_assign rfl rfl (by decide) ?_
    refine wl_nil ?_
    refine eo_then ?_
    refine cw_seq ?_
    refine cw_seq ?_
    have hf3 : ¬ bs.take 3 = [226, 136, 146] := fun e => by have := (take3_eq e).2; omega
    by_cases hge3 : bs.length ≥ 3
    ·
      refine cw_region ?_
      refine wl_move rfl rfl (by decide) ?_
      refine wl_pureE rfl rfl (v := .int .i64 (((strB bs).size : Nat) : Int)) (v' := .int .i64 ((bs.length : Nat) : Int)) (by decide) (by kernel_rfl) (by rw [strB_size]) ?_
      refine wl_cmp rfl rfl rfl true (cb_ge_t (a := bs.length) (b := 3) rfl rfl (by omega)) (by decide) ?_
      refine wl_move rfl rfl (by decide) ?_
      refine wl_move rfl rfl (by decide) ?_
      refine wl_strhi (bs := bs) (i := 3) rfl rfl rfl Tryd.underlying9 (by omega) (by decide) ?_
      refine wl_streq (a := bs.take 3) (b := [226, 136, 146]) rfl rfl rfl (fun b hb => hbs b (List.mem_of_mem_take hb)) (by decide) false (strE_eql_f (hf3)) (by decide) ?_
      refine wl_pure rfl rfl (v := .bool false) (by decide) (by kernel_rfl) ?_
      refine wl_nil ?_
      refine eo_then ?_
      refine cw_false rfl ?_
      refine cw_skip ?_
      refine eo_then ?_
      refine cw_seq ?_
      have hatl : 1 ≤ bs.length := by omega
      by_cases hg : Good 10 (bs.drop 1)
      ·
        have hvl : ln ((vald 10 ((bs.drop 1).map dv) : Nat) : Int) ≤ 1048576 := ln_vald hg.2 (by rw [List.length_drop]; omega)
        refine cw_region ?_
        refine wl_move rfl rfl (by decide) ?_
        refine wl_move rfl rfl (by decide) ?_
        refine wl_call rfl rfl (vs := [.string (strB bs), .int .i64 1]) (by kernel_rfl) (by decide) ((g_written_ok hbs hlen hatl hg).mono (Gv.imp (T2.imp (ZR.imp (Ext.refl w).size) Is.imp))) ?_
        rintro _ v1 ⟨xr3, rfl, r3, e2⟩
        refine ret_intro ?_
        have hw1 : Ext w v1 := (Ext.refl w).trans e2
        obtain ⟨a4_0, a4_1, rfl, r4_0, r4_1⟩ := r3
        obtain ⟨s5, A5, n5, c5, rfl, z5⟩ := r4_0
        obtain rfl := r4_1
        refine wl_move rfl rfl (by decide) ?_
        refine wl_pure rfl rfl (v := .agg #[.bool s5, .slice A5 n5 c5]) (by decide) (by kernel_rfl) ?_
        refine wl_pure rfl rfl (v := .bool true) (by decide) (by kernel_rfl) ?_
        refine wl_alloc rfl (z := .agg #[.bool false, .slice none 0 0]) (vs := [.bool false, .slice none 0 0]) (fun _ => by kernel_rfl) rfl (by decide) fun g6 v7 nb => ?_
        have hb9 := nb.bk
        have ge10 : w.heap.size ≤ g6 := by rw [← nb.at_]; exact hw1.size
        have e8 := nb.ext
        clear nb
        have hw2 : Ext w v7 := hw1.trans e8
        have hb12 := hb9
        refine wl_stored rfl rfl rfl aggInt rfl hb12 (Nat.le_of_ble_eq_true rfl) rfl [.bool s5, .slice A5 n5 c5] rfl fun v11 hb13 u14 hs15 => ?_
        have hw3 : Ext w v11 := u14.ext hw2 ge10
        refine wl_assign rfl rfl (by decide) ?_
        refine wl_nil ?_
        refine eo_then ?_
        refine cw_seq ?_
        refine cw_region ?_
        refine wl_move rfl rfl (by decide) ?_
        refine wl_call rfl rfl (vs := [.string (strB bs)]) (by kernel_rfl) (by decide) (rx_zRead hw3.size hbs (by omega) hzl hg (zval_pos hzl hzn)) ?_
        rintro _ v16 ⟨xr18, rfl, r18, e17⟩
        refine ret_intro ?_
        have hw4 : Ext w v16 := hw3.trans e17
        obtain ⟨a19_0, a19_1, rfl, r19_0, r19_1⟩ := r18
        obtain ⟨s20, A20, n20, c20, rfl, z20⟩ := r19_0
        obtain rfl := r19_1
        refine wl_move rfl rfl (by decide) ?_
        refine wl_pure rfl rfl (v := .agg #[.bool s20, .slice A20 n20 c20]) (by decide) (by kernel_rfl) ?_
        refine wl_pure rfl rfl (v := .int .i64 0) (by decide) (by kernel_rfl) ?_
        refine wl_alloc rfl (z := .agg #[.bool false, .slice none 0 0]) (vs := [.bool false, .slice none 0 0]) (fun _ => by kernel_rfl) rfl (by decide) fun g21 v22 nb => ?_
        have hb24 := nb.bk
        have ge25 : w.heap.size ≤ g21 := by rw [← nb.at_]; exact hw4.size
        have q26 : g6 < g21 := by rw [← nb.at_]; exact (hb13.ext e17).lt
        have e23 := nb.ext
        clear nb
        have hw5 : Ext w v22 := hw4.trans e23
        have hb28 := hb24
        refine wl_stored rfl rfl rfl aggInt rfl hb28 (Nat.le_of_ble_eq_true rfl) rfl [.bool s20, .slice A20 n20 c20] rfl fun v27 hb29 u30 hs31 => ?_
        have hw6 : Ext w v27 := u30.ext hw5 ge25
        refine wl_assign rfl rfl (by decide) ?_
        refine wl_nil ?_
        refine eo_then ?_
        refine cw_seq ?_
        refine cw_seq ?_
        refine cw_region ?_
        refine wl_move rfl rfl (by decide) ?_
        refine wl_pure rfl rfl (v := .bool false) (by decide) (by kernel_rfl) ?_
        refine wl_nil ?_
        refine eo_then ?_
        refine cw_false rfl ?_
        refine cw_skip ?_
        refine eo_then ?_
        refine cw_seq ?_
        refine cw_seq ?_
        refine cw_region ?_
        refine wl_move rfl rfl (by decide) ?_
        refine wl_nil ?_
        refine eo_then ?_
        refine cw_false rfl ?_
        refine cw_skip ?_
        refine eo_then ?_
        refine cw_seq ?_
        refine cw_region ?_
        refine wl_move rfl rfl (by decide) ?_
        refine wl_cmp rfl rfl rfl true (by decide) (by decide) ?_
        refine wl_move rfl rfl (by decide) ?_
        refine wl_load rfl rfl (load_agg aggInt hb29 [.bool s20, .slice A20 n20 c20] rfl (Nat.le_of_ble_eq_true rfl) rfl) (by decide) ?_
        refine wl_load rfl rfl (load_agg aggInt ((hb13.ext (e17.trans e23)).updN u30 (by omega)) [.bool s5, .slice A5 n5 c5] rfl (Nat.le_of_ble_eq_true rfl) rfl) (by decide) ?_
        refine wl_call rfl rfl (vs := [.agg #[.bool s20, .slice A20 n20 c20], .agg #[.bool s5, .slice A5 n5 c5]]) (by kernel_rfl) (by decide) (g_law5_alike ((z20.ext e23).updT hb28 u30) (z20.le (Nat.le_trans hvl (by decide))) ((((z5.ext e8).updT hb12 u14).ext (e17.trans e23)).updT hb28 u30) (z5.le (Nat.le_trans hvl (by decide)))) ?_
        rintro _ v32 ⟨xr34, rfl, r34, e33⟩
        refine ret_intro ?_
        have hw7 : Ext w v32 := hw6.trans e33
        obtain rfl := r34
        refine wl_pure rfl rfl (v := .bool true) (by decide) (by kernel_rfl) ?_
        refine wl_assign rfl rfl (by decide) ?_
        refine wl_nil ?_
        refine eo_then ?_
        refine cw_ret ?_
        refine eo_ret [.bool true] rfl ⟨rfl, trivial⟩ ?_
        exact ⟨_, rfl, rfl, hw7⟩
      ·
        refine cw_region ?_
        refine wl_move rfl rfl (by decide) ?_
        refine wl_move rfl rfl (by decide) ?_
        refine wl_call rfl rfl (vs := [.string (strB bs), .int .i64 1]) (by kernel_rfl) (by decide) (g_written_nob (Ext.refl w).size hbs hlen hatl hg) ?_
        rintro _ v35 ⟨z38, p39, xr37, rfl, r37, e36⟩
        refine ret_intro ?_
        have hw1 : Ext w v35 := (Ext.refl w).trans e36
        obtain ⟨a40_0, a40_1, rfl, r40_0, r40_1⟩ := r37
        obtain ⟨s41, A41, n41, c41, rfl, z41⟩ := r40_0
        obtain rfl := r40_1
        refine wl_move rfl rfl (by decide) ?_
        refine wl_pure rfl rfl (v := .agg #[.bool s41, .slice A41 n41 c41]) (by decide) (by kernel_rfl) ?_
        refine wl_pure rfl rfl (v := .bool false) (by decide) (by kernel_rfl) ?_
        refine wl_alloc rfl (z := .agg #[.bool false, .slice none 0 0]) (vs := [.bool false, .slice none 0 0]) (fun _ => by kernel_rfl) rfl (by decide) fun g42 v43 nb => ?_
        have hb45 := nb.bk
        have ge46 : w.heap.size ≤ g42 := by rw [← nb.at_]; exact hw1.size
        have e44 := nb.ext
        clear nb
        have hw2 : Ext w v43 := hw1.trans e44
        have hb48 := hb45
        refine wl_stored rfl rfl rfl aggInt rfl hb48 (Nat.le_of_ble_eq_true rfl) rfl [.bool s41, .slice A41 n41 c41] rfl fun v47 hb49 u50 hs51 => ?_
        have hw3 : Ext w v47 := u50.ext hw2 ge46
        refine wl_assign rfl rfl (by decide) ?_
        refine wl_nil ?_
        refine eo_then ?_
        refine cw_seq ?_
        refine cw_region ?_
        refine wl_move rfl rfl (by decide) ?_
        refine wl_call rfl rfl (vs := [.string (strB bs)]) (by kernel_rfl) (by decide) (rx_zRead_bad hbs (by omega) hzl hg) ?_
        rintro _ v52 ⟨xr54, rfl, r54, e53⟩
        refine ret_intro ?_
        have hw4 : Ext w v52 := hw3.trans e53
        obtain ⟨a55_0, a55_1, rfl, r55_0, r55_1⟩ := r54
        obtain rfl := r55_0
        obtain rfl := r55_1
        refine wl_move rfl rfl (by decide) ?_
        refine wl_pure rfl rfl (v := .agg #[.bool false, .slice none 0 0]) (by decide) (by kernel_rfl) ?_
        refine wl_pure rfl rfl (v := .int .i64 7) (by decide) (by kernel_rfl) ?_
        refine wl_alloc rfl (z := .agg #[.bool false, .slice none 0 0]) (vs := [.bool false, .slice none 0 0]) (fun _ => by kernel_rfl) rfl (by decide) fun g56 v57 nb => ?_
        have hb59 := nb.bk
        have ge60 : w.heap.size ≤ g56 := by rw [← nb.at_]; exact hw4.size
        have q61 : g42 < g56 := by rw [← nb.at_]; exact (hb49.ext e53).lt
        have e58 := nb.ext
        clear nb
        have hw5 : Ext w v57 := hw4.trans e58
        have hb63 := hb59
        refine wl_stored rfl rfl rfl aggInt rfl hb63 (Nat.le_of_ble_eq_true rfl) rfl [.bool false, .slice none 0 0] rfl fun v62 hb64 u65 hs66 => ?_
        have hw6 : Ext w v62 := u65.ext hw5 ge60
        refine wl_assign rfl rfl (by decide) ?_
        refine wl_nil ?_
        refine eo_then ?_
        refine cw_seq ?_
        refine cw_seq ?_
        refine cw_region ?_
        refine wl_move rfl rfl (by decide) ?_
        refine wl_pure rfl rfl (v := .bool true) (by decide) (by kernel_rfl) ?_
        refine wl_nil ?_
        refine eo_then ?_
        refine cw_true rfl ?_
        refine cw_seq ?_
        refine cw_region ?_
        refine wl_move rfl rfl (by decide) ?_
        refine wl_cmp rfl rfl rfl true (by decide) (by decide) ?_
        refine wl_move rfl rfl (by decide) ?_
        refine wl_pure rfl rfl (v := .pointer (some ⟨g56, 1, none⟩)) (by decide) (by kernel_rfl) ?_
        refine wl_load rfl rfl (load_cell cellWords hb64 rfl) (by decide) ?_
        refine wl_pure rfl rfl (v := .int .i64 0) (by decide) (by kernel_rfl) ?_
        refine wl_cmp rfl rfl rfl true (by decide) (by decide) ?_
        refine wl_pure rfl rfl (v := .bool true) (by decide) (by kernel_rfl) ?_
        refine wl_move rfl rfl (by decide) ?_
        refine wl_pure rfl rfl (v := .pointer (some ⟨g56, 0, none⟩)) (by decide) (by kernel_rfl) ?_
        refine wl_load rfl rfl (load_cell cellBool hb64 rfl) (by decide) ?_
        refine wl_pure rfl rfl (v := .bool true) (by decide) (by kernel_rfl) ?_
        refine wl_pure rfl rfl (v := .bool true) (by decide) (by kernel_rfl) ?_
        refine wl_assign rfl rfl (by decide) ?_
        refine wl_nil ?_
        refine eo_then ?_
        refine cw_ret ?_
        refine eo_thenR ?_
        refine eo_ret [.bool true] rfl ⟨rfl, trivial⟩ ?_
        exact ⟨_, rfl, rfl, hw6⟩
    ·
      refine cw_region ?_
      refine wl_move rfl rfl (by decide) ?_
      refine wl_pureE rfl rfl (v := .int .i64 (((strB bs).size : Nat) : Int)) (v' := .int .i64 ((bs.length : Nat) : Int)) (by decide) (by kernel_rfl) (by rw [strB_size]) ?_
      refine wl_cmp rfl rfl rfl false (cb_ge_f (a := bs.length) (b := 3) rfl rfl (by omega)) (by decide) ?_
      refine wl_move rfl rfl (by decide) ?_
      refine wl_off rfl (by decide) ?_
      refine wl_off rfl (by decide) ?_
      refine wl_off rfl (by decide) ?_
      refine wl_pure rfl rfl (v := .bool false) (by decide) (by kernel_rfl) ?_
      refine wl_nil ?_
      refine eo_then ?_
      refine cw_false rfl ?_
      refine cw_skip ?_
      refine eo_then ?_
      refine cw_seq ?_
      have hatl : 1 ≤ bs.length := by omega
      by_cases hg : Good 10 (bs.drop 1)
      ·
        have hvl : ln ((vald 10 ((bs.drop 1).map dv) : Nat) : Int) ≤ 1048576 := ln_vald hg.2 (by rw [List.length_drop]; omega)
        refine cw_region ?_
        refine wl_move rfl rfl (by decide) ?_
        refine wl_move rfl rfl (by decide) ?_
        refine wl_call rfl rfl (vs := [.string (strB bs), .int .i64 1]) (by kernel_rfl) (by decide) ((g_written_ok hbs hlen hatl hg).mono (Gv.imp (T2.imp (ZR.imp (Ext.refl w).size) Is.imp))) ?_
        rintro _ v67 ⟨xr69, rfl, r69, e68⟩
        refine ret_intro ?_
        have hw1 : Ext w v67 := (Ext.refl w).trans e68
        obtain ⟨a70_0, a70_1, rfl, r70_0, r70_1⟩ := r69
        obtain ⟨s71, A71, n71, c71, rfl, z71⟩ := r70_0
        obtain rfl := r70_1
        refine wl_move rfl rfl (by decide) ?_
        refine wl_pure rfl rfl (v := .agg #[.bool s71, .slice A71 n71 c71]) (by decide) (by kernel_rfl) ?_
        refine wl_pure rfl rfl (v := .bool true) (by decide) (by kernel_rfl) ?_
        refine wl_alloc rfl (z := .agg #[.bool false, .slice none 0 0]) (vs := [.bool false, .slice none 0 0]) (fun _ => by kernel_rfl) rfl (by decide) fun g72 v73 nb => ?_
        have hb75 := nb.bk
        have ge76 : w.heap.size ≤ g72 := by rw [← nb.at_]; exact hw1.size
        have e74 := nb.ext
        clear nb
        have hw2 : Ext w v73 := hw1.trans e74
        have hb78 := hb75
        refine wl_stored rfl rfl rfl aggInt rfl hb78 (Nat.le_of_ble_eq_true rfl) rfl [.bool s71, .slice A71 n71 c71] rfl fun v77 hb79 u80 hs81 => ?_
        have hw3 : Ext w v77 := u80.ext hw2 ge76
        refine wl_assign rfl rfl (by decide) ?_
        refine wl_nil ?_
        refine eo_then ?_
        refine cw_seq ?_
        refine cw_region ?_
        refine wl_move rfl rfl (by decide) ?_
        refine wl_call rfl rfl (vs := [.string (strB bs)]) (by kernel_rfl) (by decide) (rx_zRead hw3.size hbs (by omega) hzl hg (zval_pos hzl hzn)) ?_
        rintro _ v82 ⟨xr84, rfl, r84, e83⟩
        refine ret_intro ?_
        have hw4 : Ext w v82 := hw3.trans e83
        obtain ⟨a85_0, a85_1, rfl, r85_0, r85_1⟩ := r84
        obtain ⟨s86, A86, n86, c86, rfl, z86⟩ := r85_0
        obtain rfl := r85_1
        refine wl_move rfl rfl (by decide) ?_
        refine wl_pure rfl rfl (v := .agg #[.bool s86, .slice A86 n86 c86]) (by decide) (by kernel_rfl) ?_
        refine wl_pure rfl rfl (v := .int .i64 0) (by decide) (by kernel_rfl) ?_
        refine wl_alloc rfl (z := .agg #[.bool false, .slice none 0 0]) (vs := [.bool false, .slice none 0 0]) (fun _ => by kernel_rfl) rfl (by decide) fun g87 v88 nb => ?_
        have hb90 := nb.bk
        have ge91 : w.heap.size ≤ g87 := by rw [← nb.at_]; exact hw4.size
        have q92 : g72 < g87 := by rw [← nb.at_]; exact (hb79.ext e83).lt
        have e89 := nb.ext
        clear nb
        have hw5 : Ext w v88 := hw4.trans e89
        have hb94 := hb90
        refine wl_stored rfl rfl rfl aggInt rfl hb94 (Nat.le_of_ble_eq_true rfl) rfl [.bool s86, .slice A86 n86 c86] rfl fun v93 hb95 u96 hs97 => ?_
        have hw6 : Ext w v93 := u96.ext hw5 ge91
        refine wl_assign rfl rfl (by decide) ?_
        refine wl_nil ?_
        refine eo_then ?_
        refine cw_seq ?_
        refine cw_seq ?_
        refine cw_region ?_
        refine wl_move rfl rfl (by decide) ?_
        refine wl_pure rfl rfl (v := .bool false) (by decide) (by kernel_rfl) ?_
        refine wl_nil ?_
        refine eo_then ?_
        refine cw_false rfl ?_
        refine cw_skip ?_
        refine eo_then ?_
        refine cw_seq ?_
        refine cw_seq ?_
        refine cw_region ?_
        refine wl_move rfl rfl (by decide) ?_
        refine wl_nil ?_
        refine eo_then ?_
        refine cw_false rfl ?_
        refine cw_skip ?_
        refine eo_then ?_
        refine cw_seq ?_
        refine cw_region ?_
        refine wl_move rfl rfl (by decide) ?_
        refine wl_cmp rfl rfl rfl true (by decide) (by decide) ?_
        refine wl_move rfl rfl (by decide) ?_
        refine wl_load rfl rfl (load_agg aggInt hb95 [.bool s86, .slice A86 n86 c86] rfl (Nat.le_of_ble_eq_true rfl) rfl) (by decide) ?_
        refine wl_load rfl rfl (load_agg aggInt ((hb79.ext (e83.trans e89)).updN u96 (by omega)) [.bool s71, .slice A71 n71 c71] rfl (Nat.le_of_ble_eq_true rfl) rfl) (by decide) ?_
        refine wl_call rfl rfl (vs := [.agg #[.bool s86, .slice A86 n86 c86], .agg #[.bool s71, .slice A71 n71 c71]]) (by kernel_rfl) (by decide) (g_law5_alike ((z86.ext e89).updT hb94 u96) (z86.le (Nat.le_trans hvl (by decide))) ((((z71.ext e74).updT hb78 u80).ext (e83.trans e89)).updT hb94 u96) (z71.le (Nat.le_trans hvl (by decide)))) ?_
        rintro _ v98 ⟨xr100, rfl, r100, e99⟩
        refine ret_intro ?_
        have hw7 : Ext w v98 := hw6.trans e99
        obtain rfl := r100
        refine wl_pure rfl rfl (v := .bool true) (by decide) (by kernel_rfl) ?_
        refine wl_assign rfl rfl (by decide) ?_
        refine wl_nil ?_
        refine eo_then ?_
        refine cw_ret ?_
        refine eo_ret [.bool true] rfl ⟨rfl, trivial⟩ ?_
        exact ⟨_, rfl, rfl, hw7⟩
      ·
        refine cw_region ?_
        refine wl_move rfl rfl (by decide) ?_
        refine wl_move rfl rfl (by decide) ?_
        refine wl_call rfl rfl (vs := [.string (strB bs), .int .i64 1]) (by kernel_rfl) (by decide) (g_written_nob (Ext.refl w).size hbs hlen hatl hg) ?_
        rintro _ v101 ⟨z104, p105, xr103, rfl, r103, e102⟩
        refine ret_intro ?_
        have hw1 : Ext w v101 := (Ext.refl w).trans e102
        obtain ⟨a106_0, a106_1, rfl, r106_0, r106_1⟩ := r103
        obtain ⟨s107, A107, n107, c107, rfl, z107⟩ := r106_0
        obtain rfl := r106_1
        refine wl_move rfl rfl (by decide) ?_
        refine wl_pure rfl rfl (v := .agg #[.bool s107, .slice A107 n107 c107]) (by decide) (by kernel_rfl) ?_
        refine wl_pure rfl rfl (v := .bool false) (by decide) (by kernel_rfl) ?_
        refine wl_alloc rfl (z := .agg #[.bool false, .slice none 0 0]) (vs := [.bool false, .slice none 0 0]) (fun _ => by kernel_rfl) rfl (by decide) fun g108 v109 nb => ?_
        have hb111 := nb.bk
        have ge112 : w.heap.size ≤ g108 := by rw [← nb.at_]; exact hw1.size
        have e110 := nb.ext
        clear nb
        have hw2 : Ext w v109 := hw1.trans e110
        have hb114 := hb111
        refine wl_stored rfl rfl rfl aggInt rfl hb114 (Nat.le_of_ble_eq_true rfl) rfl [.bool s107, .slice A107 n107 c107] rfl fun v113 hb115 u116 hs117 => ?_
        have hw3 : Ext w v113 := u116.ext hw2 ge112
        refine wl_assign rfl rfl (by decide) ?_
        refine wl_nil ?_
        refine eo_then ?_
        refine cw_seq ?_
        refine cw_region ?_
        refine wl_move rfl rfl (by decide) ?_
        refine wl_call rfl rfl (vs := [.string (strB bs)]) (by kernel_rfl) (by decide) (rx_zRead_bad hbs (by omega) hzl hg) ?_
        rintro _ v118 ⟨xr120, rfl, r120, e119⟩
        refine ret_intro ?_
        have hw4 : Ext w v118 := hw3.trans e119
        obtain ⟨a121_0, a121_1, rfl, r121_0, r121_1⟩ := r120
        obtain rfl := r121_0
        obtain rfl := r121_1
        refine wl_move rfl rfl (by decide) ?_
        refine wl_pure rfl rfl (v := .agg #[.bool false, .slice none 0 0]) (by decide) (by kernel_rfl) ?_
        refine wl_pure rfl rfl (v := .int .i64 7) (by decide) (by kernel_rfl) ?_
        refine wl_alloc rfl (z := .agg #[.bool false, .slice none 0 0]) (vs := [.bool false, .slice none 0 0]) (fun _ => by kernel_rfl) rfl (by decide) fun g122 v123 nb => ?_
        have hb125 := nb.bk
        have ge126 : w.heap.size ≤ g122 := by rw [← nb.at_]; exact hw4.size
        have q127 : g108 < g122 := by rw [← nb.at_]; exact (hb115.ext e119).lt
        have e124 := nb.ext
        clear nb
        have hw5 : Ext w v123 := hw4.trans e124
        have hb129 := hb125
        refine wl_stored rfl rfl rfl aggInt rfl hb129 (Nat.le_of_ble_eq_true rfl) rfl [.bool false, .slice none 0 0] rfl fun v128 hb130 u131 hs132 => ?_
        have hw6 : Ext w v128 := u131.ext hw5 ge126
        refine wl_assign rfl rfl (by decide) ?_
        refine wl_nil ?_
        refine eo_then ?_
        refine cw_seq ?_
        refine cw_seq ?_
        refine cw_region ?_
        refine wl_move rfl rfl (by decide) ?_
        refine wl_pure rfl rfl (v := .bool true) (by decide) (by kernel_rfl) ?_
        refine wl_nil ?_
        refine eo_then ?_
        refine cw_true rfl ?_
        refine cw_seq ?_
        refine cw_region ?_
        refine wl_move rfl rfl (by decide) ?_
        refine wl_cmp rfl rfl rfl true (by decide) (by decide) ?_
        refine wl_move rfl rfl (by decide) ?_
        refine wl_pure rfl rfl (v := .pointer (some ⟨g122, 1, none⟩)) (by decide) (by kernel_rfl) ?_
        refine wl_load rfl rfl (load_cell cellWords hb130 rfl) (by decide) ?_
        refine wl_pure rfl rfl (v := .int .i64 0) (by decide) (by kernel_rfl) ?_
        refine wl_cmp rfl rfl rfl true (by decide) (by decide) ?_
        refine wl_pure rfl rfl (v := .bool true) (by decide) (by kernel_rfl) ?_
        refine wl_move rfl rfl (by decide) ?_
        refine wl_pure rfl rfl (v := .pointer (some ⟨g122, 0, none⟩)) (by decide) (by kernel_rfl) ?_
        refine wl_load rfl rfl (load_cell cellBool hb130 rfl) (by decide) ?_
        refine wl_pure rfl rfl (v := .bool true) (by decide) (by kernel_rfl) ?_
        refine wl_pure rfl rfl (v := .bool true) (by decide) (by kernel_rfl) ?_
        refine wl_assign rfl rfl (by decide) ?_
        refine wl_nil ?_
        refine eo_then ?_
        refine cw_ret ?_
        refine eo_thenR ?_
        refine eo_ret [.bool true] rfl ⟨rfl, trivial⟩ ?_
        exact ⟨_, rfl, rfl, hw6⟩
  ·
    by_cases hf2 : bs.take 1 = [45]
    ·
      have hzl : ztl bs = bs.drop 1 := by unfold ztl; rw [if_neg hf1, if_pos hf2]
      have hzn : zng bs = true := by unfold zng; rw [if_neg hf1, if_pos hf2]
      obtain ⟨h0l, h0v⟩ := take1_eq hf2
      refine cw_region ?_
      refine wl_move rfl rfl (by decide) ?_
      refine wl_pureE rfl rfl (v := .int .i64 (((strB bs).size : Nat) : Int)) (v' := .int .i64 ((bs.length : Nat) : Int)) (by decide) (by kernel_rfl) (by rw [strB_size]) ?_
      refine wl_cmp rfl rfl rfl true (cb_gt_t (a := bs.length) (b := 0) rfl rfl (by omega)) (by decide) ?_
      refine wl_move rfl rfl (by decide) ?_
      refine wl_move rfl rfl (by decide) ?_
      refine wl_strix (bs := bs) (i := 0) rfl rfl rfl Tryd.underlying9 hbs (by omega) (by decide) ?_
      refine wl_cmp rfl rfl rfl false (cb_eq_f (a := bs.getD 0 0) (b := 43) rfl rfl (by omega)) (by decide) ?_
      refine wl_move rfl rfl (by decide) ?_
      refine wl_move rfl rfl (by decide) ?_
      refine wl_strix (bs := bs) (i := 0) rfl rfl rfl Tryd.underlying9 hbs (by omega) (by decide) ?_
      refine wl_cmp rfl rfl rfl true (cb_eq_t (a := bs.getD 0 0) (b := 45) rfl rfl (by omega)) (by decide) ?_
      refine wl_pure rfl rfl (v := .bool true) (by decide) (by kernel_rfl) ?_
      refine wl_pure rfl rfl (v := .bool true) (by decide) (by kernel_rfl) ?_
      refine wl_nil ?_
      refine eo_then ?_
      refine cw_true rfl ?_
      refine cw_seq ?_
      refine cw_region ?_
      refine wl_move rfl rfl (by decide) ?_
      refine wl_strix (bs := bs) (i := 0) rfl rfl rfl Tryd.underlying9 hbs (by omega) (by decide) ?_
      refine wl_cmp rfl rfl rfl true (cb_eq_t (a := bs.getD 0 0) (b := 45) rfl rfl (by omega)) (by decide) ?_
      refine wl_assign rfl rfl (by decide) ?_
      refine wl_nil ?_
      refine eo_then ?_
      refine cw_region ?_
      refine wl_assign rfl rfl (by decide) ?_
      refine wl_nil ?_
      refine eo_then ?_
      refine cw_seq ?_
      refine cw_seq ?_
      have hf3 : ¬ bs.take 3 = [226, 136, 146] := fun e => by have := (take3_eq e).2; omega
      by_cases hge3 : bs.length ≥ 3
      ·
        refine cw_region ?_
        refine wl_move rfl rfl (by decide) ?_
        refine wl_pureE rfl rfl (v := .int .i64 (((strB bs).size : Nat) : Int)) (v' := .int .i64 ((bs.length : Nat) : Int)) (by decide) (by kernel_rfl) (by rw [strB_size]) ?_
        refine wl_cmp rfl rfl rfl true (cb_ge_t (a := bs.length) (b := 3) rfl rfl (by omega)) (by decide) ?_
        refine wl_move rfl rfl (by decide) ?_
        refine wl_move rfl rfl (by decide) ?_
        refine wl_strhi (bs := bs) (i := 3) rfl rfl rfl Tryd.underlying9 (by omega) (by decide) ?_
        refine wl_streq (a := bs.take 3) (b := [226, 136, 146]) rfl rfl rfl (fun b hb => hbs b (List.mem_of_mem_take hb)) (by decide) false (strE_eql_f (hf3)) (by decide) ?_
        refine wl_pure rfl rfl (v := .bool false) (by decide) (by kernel_rfl) ?_
        refine wl_nil ?_
        refine eo_then ?_
        refine cw_false rfl ?_
        refine cw_skip ?_
        refine eo_then ?_
        refine cw_seq ?_
        have hatl : 1 ≤ bs.length := by omega
        by_cases hg : Good 10 (bs.drop 1)
        ·
          have hvl : ln ((vald 10 ((bs.drop 1).map dv) : Nat) : Int) ≤ 1048576 := ln_vald hg.2 (by rw [List.length_drop]; omega)
          refine cw_region ?_
          refine wl_move rfl rfl (by decide) ?_
          refine wl_move rfl rfl (by decide) ?_
          refine wl_call rfl rfl (vs := [.string (strB bs), .int .i64 1]) (by kernel_rfl) (by decide) ((g_written_ok hbs hlen hatl hg).mono (Gv.imp (T2.imp (ZR.imp (Ext.refl w).size) Is.imp))) ?_
          rintro _ v133 ⟨xr135, rfl, r135, e134⟩
          refine ret_intro ?_
          have hw1 : Ext w v133 := (Ext.refl w).trans e134
          obtain ⟨a136_0, a136_1, rfl, r136_0, r136_1⟩ := r135
          obtain ⟨s137, A137, n137, c137, rfl, z137⟩ := r136_0
          obtain rfl := r136_1
          refine wl_move rfl rfl (by decide) ?_
          refine wl_pure rfl rfl (v := .agg #[.bool s137, .slice A137 n137 c137]) (by decide) (by kernel_rfl) ?_
          refine wl_pure rfl rfl (v := .bool true) (by decide) (by kernel_rfl) ?_
          refine wl_alloc rfl (z := .agg #[.bool false, .slice none 0 0]) (vs := [.bool false, .slice none 0 0]) (fun _ => by kernel_rfl) rfl (by decide) fun g138 v139 nb => ?_
          have hb141 := nb.bk
          have ge142 : w.heap.size ≤ g138 := by rw [← nb.at_]; exact hw1.size
          have e140 := nb.ext
          clear nb
          have hw2 : Ext w v139 := hw1.trans e140
          have hb144 := hb141
          refine wl_stored rfl rfl rfl aggInt rfl hb144 (Nat.le_of_ble_eq_true rfl) rfl [.bool s137, .slice A137 n137 c137] rfl fun v143 hb145 u146 hs147 => ?_
          have hw3 : Ext w v143 := u146.ext hw2 ge142
          refine wl_assign rfl rfl (by decide) ?_
          refine wl_nil ?_
          refine eo_then ?_
          refine cw_seq ?_
          refine cw_region ?_
          refine wl_move rfl rfl (by decide) ?_
          refine wl_call rfl rfl (vs := [.string (strB bs)]) (by kernel_rfl) (by decide) (rx_zRead hw3.size hbs (by omega) hzl hg (zval_neg hzl hzn)) ?_
          rintro _ v148 ⟨xr150, rfl, r150, e149⟩
          refine ret_intro ?_
          have hw4 : Ext w v148 := hw3.trans e149
          obtain ⟨a151_0, a151_1, rfl, r151_0, r151_1⟩ := r150
          obtain ⟨s152, A152, n152, c152, rfl, z152⟩ := r151_0
          obtain rfl := r151_1
          refine wl_move rfl rfl (by decide) ?_
          refine wl_pure rfl rfl (v := .agg #[.bool s152, .slice A152 n152 c152]) (by decide) (by kernel_rfl) ?_
          refine wl_pure rfl rfl (v := .int .i64 0) (by decide) (by kernel_rfl) ?_
          refine wl_alloc rfl (z := .agg #[.bool false, .slice none 0 0]) (vs := [.bool false, .slice none 0 0]) (fun _ => by kernel_rfl) rfl (by decide) fun g153 v154 nb => ?_
          have hb156 := nb.bk
          have ge157 : w.heap.size ≤ g153 := by rw [← nb.at_]; exact hw4.size
          have q158 : g138 < g153 := by rw [← nb.at_]; exact (hb145.ext e149).lt
          have e155 := nb.ext
          clear nb
          have hw5 : Ext w v154 := hw4.trans e155
          have hb160 := hb156
          refine wl_stored rfl rfl rfl aggInt rfl hb160 (Nat.le_of_ble_eq_true rfl) rfl [.bool s152, .slice A152 n152 c152] rfl fun v159 hb161 u162 hs163 => ?_
          have hw6 : Ext w v159 := u162.ext hw5 ge157
          refine wl_assign rfl rfl (by decide) ?_
          refine wl_nil ?_
          refine eo_then ?_
          refine cw_seq ?_
          refine cw_seq ?_
          refine cw_region ?_
          refine wl_move rfl rfl (by decide) ?_
          refine wl_pure rfl rfl (v := .bool false) (by decide) (by kernel_rfl) ?_
          refine wl_nil ?_
          refine eo_then ?_
          refine cw_false rfl ?_
          refine cw_skip ?_
          refine eo_then ?_
          refine cw_seq ?_
          refine cw_seq ?_
          refine cw_region ?_
          refine wl_move rfl rfl (by decide) ?_
          refine wl_nil ?_
          refine eo_then ?_
          refine cw_true rfl ?_
          refine cw_region ?_
          refine wl_load rfl rfl (load_agg aggInt ((hb145.ext (e149.trans e155)).updN u162 (by omega)) [.bool s137, .slice A137 n137 c137] rfl (Nat.le_of_ble_eq_true rfl) rfl) (by decide) ?_
          have L164 : ln (-((vald 10 ((bs.drop 1).map dv) : Nat) : Int)) ≤ 1048576 := (by rw [ln_neg]; exact hvl)
          refine wl_call rfl rfl (vs := [.agg #[.bool s137, .slice A137 n137 c137]]) (by kernel_rfl) (by decide) (g_zint_Neg hw6.size ((((z137.ext e140).updT hb144 u146).ext (e149.trans e155)).updT hb160 u162).zi (z137.le (Nat.le_trans hvl (by decide)))) ?_
          rintro _ v165 ⟨xr167, rfl, r167, e166⟩
          refine ret_intro ?_
          have hw7 : Ext w v165 := hw6.trans e166
          obtain ⟨s168, A168, n168, c168, rfl, z168⟩ := r167
          have hb170 := (((hb145.ext (e149.trans e155)).updN u162 (by omega)).ext e166)
          refine wl_stored rfl rfl rfl aggInt rfl hb170 (Nat.le_of_ble_eq_true rfl) rfl [.bool s168, .slice A168 n168 c168] rfl fun v169 hb171 u172 hs173 => ?_
          have hw8 : Ext w v169 := u172.ext hw7 ge142
          refine wl_nil ?_
          refine eo_then ?_
          refine cw_seq ?_
          refine cw_region ?_
          refine wl_move rfl rfl (by decide) ?_
          refine wl_cmp rfl rfl rfl true (by decide) (by decide) ?_
          refine wl_move rfl rfl (by decide) ?_
          refine wl_load rfl rfl (load_agg aggInt ((hb161.ext e166).updN u172 (by omega)) [.bool s152, .slice A152 n152 c152] rfl (Nat.le_of_ble_eq_true rfl) rfl) (by decide) ?_
          refine wl_load rfl rfl (load_agg aggInt hb171 [.bool s168, .slice A168 n168 c168] rfl (Nat.le_of_ble_eq_true rfl) rfl) (by decide) ?_
          refine wl_call rfl rfl (vs := [.agg #[.bool s152, .slice A152 n152 c152], .agg #[.bool s168, .slice A168 n168 c168]]) (by kernel_rfl) (by decide) (g_law5_alike ((((z152.ext e155).updT hb160 u162).ext e166).updT hb170 u172) (z152.le (Nat.le_trans (by rw [ln_neg]; exact hvl) (by decide))) (z168.updT hb170 u172) (z168.le (Nat.le_trans L164 (by decide)))) ?_
          rintro _ v174 ⟨xr176, rfl, r176, e175⟩
          refine ret_intro ?_
          have hw9 : Ext w v174 := hw8.trans e175
          obtain rfl := r176
          refine wl_pure rfl rfl (v := .bool true) (by decide) (by kernel_rfl) ?_
          refine wl_assign rfl rfl (by decide) ?_
          refine wl_nil ?_
          refine eo_then ?_
          refine cw_ret ?_
          refine eo_ret [.bool true] rfl ⟨rfl, trivial⟩ ?_
          exact ⟨_, rfl, rfl, hw9⟩
        ·
          refine cw_region ?_
          refine wl_move rfl rfl (by decide) ?_
          refine wl_move rfl rfl (by decide) ?_
          refine wl_call rfl rfl (vs := [.string (strB bs), .int .i64 1]) (by kernel_rfl) (by decide) (g_written_nob (Ext.refl w).size hbs hlen hatl hg) ?_
          rintro _ v177 ⟨z180, p181, xr179, rfl, r179, e178⟩
          refine ret_intro ?_
          have hw1 : Ext w v177 := (Ext.refl w).trans e178
          obtain ⟨a182_0, a182_1, rfl, r182_0, r182_1⟩ := r179
          obtain ⟨s183, A183, n183, c183, rfl, z183⟩ := r182_0
          obtain rfl := r182_1
          refine wl_move rfl rfl (by decide) ?_
          refine wl_pure rfl rfl (v := .agg #[.bool s183, .slice A183 n183 c183]) (by decide) (by kernel_rfl) ?_
          refine wl_pure rfl rfl (v := .bool false) (by decide) (by kernel_rfl) ?_
          refine wl_alloc rfl (z := .agg #[.bool false, .slice none 0 0]) (vs := [.bool false, .slice none 0 0]) (fun _ => by kernel_rfl) rfl (by decide) fun g184 v185 nb => ?_
          have hb187 := nb.bk
          have ge188 : w.heap.size ≤ g184 := by rw [← nb.at_]; exact hw1.size
          have e186 := nb.ext
          clear nb
          have hw2 : Ext w v185 := hw1.trans e186
          have hb190 := hb187
          refine wl_stored rfl rfl rfl aggInt rfl hb190 (Nat.le_of_ble_eq_true rfl) rfl [.bool s183, .slice A183 n183 c183] rfl fun v189 hb191 u192 hs193 => ?_
          have hw3 : Ext w v189 := u192.ext hw2 ge188
          refine wl_assign rfl rfl (by decide) ?_
          refine wl_nil ?_
          refine eo_then ?_
          refine cw_seq ?_
          refine cw_region ?_
          refine wl_move rfl rfl (by decide) ?_
          refine wl_call rfl rfl (vs := [.string (strB bs)]) (by kernel_rfl) (by decide) (rx_zRead_bad hbs (by omega) hzl hg) ?_
          rintro _ v194 ⟨xr196, rfl, r196, e195⟩
          refine ret_intro ?_
          have hw4 : Ext w v194 := hw3.trans e195
          obtain ⟨a197_0, a197_1, rfl, r197_0, r197_1⟩ := r196
          obtain rfl := r197_0
          obtain rfl := r197_1
          refine wl_move rfl rfl (by decide) ?_
          refine wl_pure rfl rfl (v := .agg #[.bool false, .slice none 0 0]) (by decide) (by kernel_rfl) ?_
          refine wl_pure rfl rfl (v := .int .i64 7) (by decide) (by kernel_rfl) ?_
          refine wl_alloc rfl (z := .agg #[.bool false, .slice none 0 0]) (vs := [.bool false, .slice none 0 0]) (fun _ => by kernel_rfl) rfl (by decide) fun g198 v199 nb => ?_
          have hb201 := nb.bk
          have ge202 : w.heap.size ≤ g198 := by rw [← nb.at_]; exact hw4.size
          have q203 : g184 < g198 := by rw [← nb.at_]; exact (hb191.ext e195).lt
          have e200 := nb.ext
          clear nb
          have hw5 : Ext w v199 := hw4.trans e200
          have hb205 := hb201
          refine wl_stored rfl rfl rfl aggInt rfl hb205 (Nat.le_of_ble_eq_true rfl) rfl [.bool false, .slice none 0 0] rfl fun v204 hb206 u207 hs208 => ?_
          have hw6 : Ext w v204 := u207.ext hw5 ge202
          refine wl_assign rfl rfl (by decide) ?_
          refine wl_nil ?_
          refine eo_then ?_
          refine cw_seq ?_
          refine cw_seq ?_
          refine cw_region ?_
          refine wl_move rfl rfl (by decide) ?_
          refine wl_pure rfl rfl (v := .bool true) (by decide) (by kernel_rfl) ?_
          refine wl_nil ?_
          refine eo_then ?_
          refine cw_true rfl ?_
          refine cw_seq ?_
          refine cw_region ?_
          refine wl_move rfl rfl (by decide) ?_
          refine wl_cmp rfl rfl rfl true (by decide) (by decide) ?_
          refine wl_move rfl rfl (by decide) ?_
          refine wl_pure rfl rfl (v := .pointer (some ⟨g198, 1, none⟩)) (by decide) (by kernel_rfl) ?_
          refine wl_load rfl rfl (load_cell cellWords hb206 rfl) (by decide) ?_
          refine wl_pure rfl rfl (v := .int .i64 0) (by decide) (by kernel_rfl) ?_
          refine wl_cmp rfl rfl rfl true (by decide) (by decide) ?_
          refine wl_pure rfl rfl (v := .bool true) (by decide) (by kernel_rfl) ?_
          refine wl_move rfl rfl (by decide) ?_
          refine wl_pure rfl rfl (v := .pointer (some ⟨g198, 0, none⟩)) (by decide) (by kernel_rfl) ?_
          refine wl_load rfl rfl (load_cell cellBool hb206 rfl) (by decide) ?_
          refine wl_pure rfl rfl (v := .bool true) (by decide) (by kernel_rfl) ?_
          refine wl_pure rfl rfl (v := .bool true) (by decide) (by kernel_rfl) ?_
          refine wl_assign rfl rfl (by decide) ?_
          refine wl_nil ?_
          refine eo_then ?_
          refine cw_ret ?_
          refine eo_thenR ?_
          refine eo_ret [.bool true] rfl ⟨rfl, trivial⟩ ?_
          exact ⟨_, rfl, rfl, hw6⟩
      ·
        refine cw_region ?_
        refine wl_move rfl rfl (by decide) ?_
        refine wl_pureE rfl rfl (v := .int .i64 (((strB bs).size : Nat) : Int)) (v' := .int .i64 ((bs.length : Nat) : Int)) (by decide) (by kernel_rfl) (by rw [strB_size]) ?_
        refine wl_cmp rfl rfl rfl false (cb_ge_f (a := bs.length) (b := 3) rfl rfl (by omega)) (by decide) ?_
        refine wl_move rfl rfl (by decide) ?_
        refine wl_off rfl (by decide) ?_
        refine wl_off rfl (by decide) ?_
        refine wl_off rfl (by decide) ?_
        refine wl_pure rfl rfl (v := .bool false) (by decide) (by kernel_rfl) ?_
        refine wl_nil ?_
        refine eo_then ?_
        refine cw_false rfl ?_
        refine cw_skip ?_
        refine eo_then ?_
        refine cw_seq ?_
        have hatl : 1 ≤ bs.length := by omega
        by_cases hg : Good 10 (bs.drop 1)
        ·
          have hvl : ln ((vald 10 ((bs.drop 1).map dv) : Nat) : Int) ≤ 1048576 := ln_vald hg.2 (by rw [List.length_drop]; omega)
          refine cw_region ?_
          refine wl_move rfl rfl (by decide) ?_
          refine wl_move rfl rfl (by decide) ?_
          refine wl_call rfl rfl (vs := [.string (strB bs), .int .i64 1]) (by kernel_rfl) (by decide) ((g_written_ok hbs hlen hatl hg).mono (Gv.imp (T2.imp (ZR.imp (Ext.refl w).size) Is.imp))) ?_
          rintro _ v209 ⟨xr211, rfl, r211, e210⟩
          refine ret_intro ?_
          have hw1 : Ext w v209 := (Ext.refl w).trans e210
          obtain ⟨a212_0, a212_1, rfl, r212_0, r212_1⟩ := r211
          obtain ⟨s213, A213, n213, c213, rfl, z213⟩ := r212_0
          obtain rfl := r212_1
          refine wl_move rfl rfl (by decide) ?_
          refine wl_pure rfl rfl (v := .agg #[.bool s213, .slice A213 n213 c213]) (by decide) (by kernel_rfl) ?_
          refine wl_pure rfl rfl (v := .bool true) (by decide) (by kernel_rfl) ?_
          refine wl_alloc rfl (z := .agg #[.bool false, .slice none 0 0]) (vs := [.bool false, .slice none 0 0]) (fun _ => by kernel_rfl) rfl (by decide) fun g214 v215 nb => ?_
          have hb217 := nb.bk
          have ge218 : w.heap.size ≤ g214 := by rw [← nb.at_]; exact hw1.size
          have e216 := nb.ext
          clear nb
          have hw2 : Ext w v215 := hw1.trans e216
          have hb220 := hb217
          refine wl_stored rfl rfl rfl aggInt rfl hb220 (Nat.le_of_ble_eq_true rfl) rfl [.bool s213, .slice A213 n213 c213] rfl fun v219 hb221 u222 hs223 => ?_
          have hw3 : Ext w v219 := u222.ext hw2 ge218
          refine wl_assign rfl rfl (by decide) ?_
          refine wl_nil ?_
          refine eo_then ?_
          refine cw_seq ?_
          refine cw_region ?_
          refine wl_move rfl rfl (by decide) ?_
          refine wl_call rfl rfl (vs := [.string (strB bs)]) (by kernel_rfl) (by decide) (rx_zRead hw3.size hbs (by omega) hzl hg (zval_neg hzl hzn)) ?_
          rintro _ v224 ⟨xr226, rfl, r226, e225⟩
          refine ret_intro ?_
          have hw4 : Ext w v224 := hw3.trans e225
          obtain ⟨a227_0, a227_1, rfl, r227_0, r227_1⟩ := r226
          obtain ⟨s228, A228, n228, c228, rfl, z228⟩ := r227_0
          obtain rfl := r227_1
          refine wl_move rfl rfl (by decide) ?_
          refine wl_pure rfl rfl (v := .agg #[.bool s228, .slice A228 n228 c228]) (by decide) (by kernel_rfl) ?_
          refine wl_pure rfl rfl (v := .int .i64 0) (by decide) (by kernel_rfl) ?_
          refine wl_alloc rfl (z := .agg #[.bool false, .slice none 0 0]) (vs := [.bool false, .slice none 0 0]) (fun _ => by kernel_rfl) rfl (by decide) fun g229 v230 nb => ?_
          have hb232 := nb.bk
          have ge233 : w.heap.size ≤ g229 := by rw [← nb.at_]; exact hw4.size
          have q234 : g214 < g229 := by rw [← nb.at_]; exact (hb221.ext e225).lt
          have e231 := nb.ext
          clear nb
          have hw5 : Ext w v230 := hw4.trans e231
          have hb236 := hb232
          refine wl_stored rfl rfl rfl aggInt rfl hb236 (Nat.le_of_ble_eq_true rfl) rfl [.bool s228, .slice A228 n228 c228] rfl fun v235 hb237 u238 hs239 => ?_
          have hw6 : Ext w v235 := u238.ext hw5 ge233
          refine wl_assign rfl rfl (by decide) ?_
          refine wl_nil ?_
          refine eo_then ?_
          refine cw_seq ?_
          refine cw_seq ?_
          refine cw_region ?_
          refine wl_move rfl rfl (by decide) ?_
          refine wl_pure rfl rfl (v := .bool false) (by decide) (by kernel_rfl) ?_
          refine wl_nil ?_
          refine eo_then ?_
          refine cw_false rfl ?_
          refine cw_skip ?_
          refine eo_then ?_
          refine cw_seq ?_
          refine cw_seq ?_
          refine cw_region ?_
          refine wl_move rfl rfl (by decide) ?_
          refine wl_nil ?_
          refine eo_then ?_
          refine cw_true rfl ?_
          refine cw_region ?_
          refine wl_load rfl rfl (load_agg aggInt ((hb221.ext (e225.trans e231)).updN u238 (by omega)) [.bool s213, .slice A213 n213 c213] rfl (Nat.le_of_ble_eq_true rfl) rfl) (by decide) ?_
          have L240 : ln (-((vald 10 ((bs.drop 1).map dv) : Nat) : Int)) ≤ 1048576 := (by rw [ln_neg]; exact hvl)
          refine wl_call rfl rfl (vs := [.agg #[.bool s213, .slice A213 n213 c213]]) (by kernel_rfl) (by decide) (g_zint_Neg hw6.size ((((z213.ext e216).updT hb220 u222).ext (e225.trans e231)).updT hb236 u238).zi (z213.le (Nat.le_trans hvl (by decide)))) ?_
          rintro _ v241 ⟨xr243, rfl, r243, e242⟩
          refine ret_intro ?_
          have hw7 : Ext w v241 := hw6.trans e242
          obtain ⟨s244, A244, n244, c244, rfl, z244⟩ := r243
          have hb246 := (((hb221.ext (e225.trans e231)).updN u238 (by omega)).ext e242)
          refine wl_stored rfl rfl rfl aggInt rfl hb246 (Nat.le_of_ble_eq_true rfl) rfl [.bool s244, .slice A244 n244 c244] rfl fun v245 hb247 u248 hs249 => ?_
          have hw8 : Ext w v245 := u248.ext hw7 ge218
          refine wl_nil ?_
          refine eo_then ?_
          refine cw_seq ?_
          refine cw_region ?_
          refine wl_move rfl rfl (by decide) ?_
          refine wl_cmp rfl rfl rfl true (by decide) (by decide) ?_
          refine wl_move rfl rfl (by decide) ?_
          refine wl_load rfl rfl (load_agg aggInt ((hb237.ext e242).updN u248 (by omega)) [.bool s228, .slice A228 n228 c228] rfl (Nat.le_of_ble_eq_true rfl) rfl) (by decide) ?_
          refine wl_load rfl rfl (load_agg aggInt hb247 [.bool s244, .slice A244 n244 c244] rfl (Nat.le_of_ble_eq_true rfl) rfl) (by decide) ?_
          refine wl_call rfl rfl (vs := [.agg #[.bool s228, .slice A228 n228 c228], .agg #[.bool s244, .slice A244 n244 c244]]) (by kernel_rfl) (by decide) (g_law5_alike ((((z228.ext e231).updT hb236 u238).ext e242).updT hb246 u248) (z228.le (Nat.le_trans (by rw [ln_neg]; exact hvl) (by decide))) (z244.updT hb246 u248) (z244.le (Nat.le_trans L240 (by decide)))) ?_
          rintro _ v250 ⟨xr252, rfl, r252, e251⟩
          refine ret_intro ?_
          have hw9 : Ext w v250 := hw8.trans e251
          obtain rfl := r252
          refine wl_pure rfl rfl (v := .bool true) (by decide) (by kernel_rfl) ?_
          refine wl_assign rfl rfl (by decide) ?_
          refine wl_nil ?_
          refine eo_then ?_
          refine cw_ret ?_
          refine eo_ret [.bool true] rfl ⟨rfl, trivial⟩ ?_
          exact ⟨_, rfl, rfl, hw9⟩
        ·
          refine cw_region ?_
          refine wl_move rfl rfl (by decide) ?_
          refine wl_move rfl rfl (by decide) ?_
          refine wl_call rfl rfl (vs := [.string (strB bs), .int .i64 1]) (by kernel_rfl) (by decide) (g_written_nob (Ext.refl w).size hbs hlen hatl hg) ?_
          rintro _ v253 ⟨z256, p257, xr255, rfl, r255, e254⟩
          refine ret_intro ?_
          have hw1 : Ext w v253 := (Ext.refl w).trans e254
          obtain ⟨a258_0, a258_1, rfl, r258_0, r258_1⟩ := r255
          obtain ⟨s259, A259, n259, c259, rfl, z259⟩ := r258_0
          obtain rfl := r258_1
          refine wl_move rfl rfl (by decide) ?_
          refine wl_pure rfl rfl (v := .agg #[.bool s259, .slice A259 n259 c259]) (by decide) (by kernel_rfl) ?_
          refine wl_pure rfl rfl (v := .bool false) (by decide) (by kernel_rfl) ?_
          refine wl_alloc rfl (z := .agg #[.bool false, .slice none 0 0]) (vs := [.bool false, .slice none 0 0]) (fun _ => by kernel_rfl) rfl (by decide) fun g260 v261 nb => ?_
          have hb263 := nb.bk
          have ge264 : w.heap.size ≤ g260 := by rw [← nb.at_]; exact hw1.size
          have e262 := nb.ext
          clear nb
          have hw2 : Ext w v261 := hw1.trans e262
          have hb266 := hb263
          refine wl_stored rfl rfl rfl aggInt rfl hb266 (Nat.le_of_ble_eq_true rfl) rfl [.bool s259, .slice A259 n259 c259] rfl fun v265 hb267 u268 hs269 => ?_
          have hw3 : Ext w v265 := u268.ext hw2 ge264
          refine wl_assign rfl rfl (by decide) ?_
          refine wl_nil ?_
          refine eo_then ?_
          refine cw_seq ?_
          refine cw_region ?_
          refine wl_move rfl rfl (by decide) ?_
          refine wl_call rfl rfl (vs := [.string (strB bs)]) (by kernel_rfl) (by decide) (rx_zRead_bad hbs (by omega) hzl hg) ?_
          rintro _ v270 ⟨xr272, rfl, r272, e271⟩
          refine ret_intro ?_
          have hw4 : Ext w v270 := hw3.trans e271
          obtain ⟨a273_0, a273_1, rfl, r273_0, r273_1⟩ := r272
          obtain rfl := r273_0
          obtain rfl := r273_1
          refine wl_move rfl rfl (by decide) ?_
          refine wl_pure rfl rfl (v := .agg #[.bool false, .slice none 0 0]) (by decide) (by kernel_rfl) ?_
          refine wl_pure rfl rfl (v := .int .i64 7) (by decide) (by kernel_rfl) ?_
          refine wl_alloc rfl (z := .agg #[.bool false, .slice none 0 0]) (vs := [.bool false, .slice none 0 0]) (fun _ => by kernel_rfl) rfl (by decide) fun g274 v275 nb => ?_
          have hb277 := nb.bk
          have ge278 : w.heap.size ≤ g274 := by rw [← nb.at_]; exact hw4.size
          have q279 : g260 < g274 := by rw [← nb.at_]; exact (hb267.ext e271).lt
          have e276 := nb.ext
          clear nb
          have hw5 : Ext w v275 := hw4.trans e276
          have hb281 := hb277
          refine wl_stored rfl rfl rfl aggInt rfl hb281 (Nat.le_of_ble_eq_true rfl) rfl [.bool false, .slice none 0 0] rfl fun v280 hb282 u283 hs284 => ?_
          have hw6 : Ext w v280 := u283.ext hw5 ge278
          refine wl_assign rfl rfl (by decide) ?_
          refine wl_nil ?_
          refine eo_then ?_
          refine cw_seq ?_
          refine cw_seq ?_
          refine cw_region ?_
          refine wl_move rfl rfl (by decide) ?_
          refine wl_pure rfl rfl (v := .bool true) (by decide) (by kernel_rfl) ?_
          refine wl_nil ?_
          refine eo_then ?_
          refine cw_true rfl ?_
          refine cw_seq ?_
          refine cw_region ?_
          refine wl_move rfl rfl (by decide) ?_
          refine wl_cmp rfl rfl rfl true (by decide) (by decide) ?_
          refine wl_move rfl rfl (by decide) ?_
          refine wl_pure rfl rfl (v := .pointer (some ⟨g274, 1, none⟩)) (by decide) (by kernel_rfl) ?_
          refine wl_load rfl rfl (load_cell cellWords hb282 rfl) (by decide) ?_
          refine wl_pure rfl rfl (v := .int .i64 0) (by decide) (by kernel_rfl) ?_
          refine wl_cmp rfl rfl rfl true (by decide) (by decide) ?_
          refine wl_pure rfl rfl (v := .bool true) (by decide) (by kernel_rfl) ?_
          refine wl_move rfl rfl (by decide) ?_
          refine wl_pure rfl rfl (v := .pointer (some ⟨g274, 0, none⟩)) (by decide) (by kernel_rfl) ?_
          refine wl_load rfl rfl (load_cell cellBool hb282 rfl) (by decide) ?_
          refine wl_pure rfl rfl (v := .bool true) (by decide) (by kernel_rfl) ?_
          refine wl_pure rfl rfl (v := .bool true) (by decide) (by kernel_rfl) ?_
          refine wl_assign rfl rfl (by decide) ?_
          refine wl_nil ?_
          refine eo_then ?_
          refine cw_ret ?_
          refine eo_thenR ?_
          refine eo_ret [.bool true] rfl ⟨rfl, trivial⟩ ?_
          exact ⟨_, rfl, rfl, hw6⟩
    ·
      by_cases hf3 : bs.take 3 = [226, 136, 146]
      ·
        have hzl : ztl bs = bs.drop 3 := by unfold ztl; rw [if_neg hf1, if_neg hf2, if_pos hf3]
        have hzn : zng bs = true := by unfold zng; rw [if_neg hf1, if_neg hf2, if_pos hf3]
        obtain ⟨h3l, h0v⟩ := take3_eq hf3
        refine cw_region ?_
        refine wl_move rfl rfl (by decide) ?_
        refine wl_pureE rfl rfl (v := .int .i64 (((strB bs).size : Nat) : Int)) (v' := .int .i64 ((bs.length : Nat) : Int)) (by decide) (by kernel_rfl) (by rw [strB_size]) ?_
        refine wl_cmp rfl rfl rfl true (cb_gt_t (a := bs.length) (b := 0) rfl rfl (by omega)) (by decide) ?_
        refine wl_move rfl rfl (by decide) ?_
        refine wl_move rfl rfl (by decide) ?_
        refine wl_strix (bs := bs) (i := 0) rfl rfl rfl Tryd.underlying9 hbs (by omega) (by decide) ?_
        refine wl_cmp rfl rfl rfl false (cb_eq_f (a := bs.getD 0 0) (b := 43) rfl rfl (by omega)) (by decide) ?_
        refine wl_move rfl rfl (by decide) ?_
        refine wl_move rfl rfl (by decide) ?_
        refine wl_strix (bs := bs) (i := 0) rfl rfl rfl Tryd.underlying9 hbs (by omega) (by decide) ?_
        refine wl_cmp rfl rfl rfl false (cb_eq_f (a := bs.getD 0 0) (b := 45) rfl rfl (by omega)) (by decide) ?_
        refine wl_pure rfl rfl (v := .bool false) (by decide) (by kernel_rfl) ?_
        refine wl_pure rfl rfl (v := .bool false) (by decide) (by kernel_rfl) ?_
        refine wl_nil ?_
        refine eo_then ?_
        refine cw_false rfl ?_
        refine cw_skip ?_
        refine eo_then ?_
        refine cw_seq ?_
        refine cw_seq ?_
        refine cw_region ?_
        refine wl_move rfl rfl (by decide) ?_
        refine wl_pureE rfl rfl (v := .int .i64 (((strB bs).size : Nat) : Int)) (v' := .int .i64 ((bs.length : Nat) : Int)) (by decide) (by kernel_rfl) (by rw [strB_size]) ?_
        refine wl_cmp rfl rfl rfl true (cb_ge_t (a := bs.length) (b := 3) rfl rfl (by omega)) (by decide) ?_
        refine wl_move rfl rfl (by decide) ?_
        refine wl_move rfl rfl (by decide) ?_
        refine wl_strhi (bs := bs) (i := 3) rfl rfl rfl Tryd.underlying9 (by omega) (by decide) ?_
        refine wl_streq (a := bs.take 3) (b := [226, 136, 146]) rfl rfl rfl (fun b hb => hbs b (List.mem_of_mem_take hb)) (by decide) true (strE_eql_t (hf3)) (by decide) ?_
        refine wl_pure rfl rfl (v := .bool true) (by decide) (by kernel_rfl) ?_
        refine wl_nil ?_
        refine eo_then ?_
        refine cw_true rfl ?_
        refine cw_seq ?_
        refine cw_region ?_
        refine wl_assign rfl rfl (by decide) ?_
        refine wl_nil ?_
        refine eo_then ?_
        refine cw_region ?_
        refine wl_assign rfl rfl (by decide) ?_
        refine wl_nil ?_
        refine eo_then ?_
        refine cw_seq ?_
        have hatl : 3 ≤ bs.length := by omega
        by_cases hg : Good 10 (bs.drop 3)
        ·
          have hvl : ln ((vald 10 ((bs.drop 3).map dv) : Nat) : Int) ≤ 1048576 := ln_vald hg.2 (by rw [List.length_drop]; omega)
          refine cw_region ?_
          refine wl_move rfl rfl (by decide) ?_
          refine wl_move rfl rfl (by decide) ?_
          refine wl_call rfl rfl (vs := [.string (strB bs), .int .i64 3]) (by kernel_rfl) (by decide) ((g_written_ok hbs hlen hatl hg).mono (Gv.imp (T2.imp (ZR.imp (Ext.refl w).size) Is.imp))) ?_
          rintro _ v285 ⟨xr287, rfl, r287, e286⟩
          refine ret_intro ?_
          have hw1 : Ext w v285 := (Ext.refl w).trans e286
          obtain ⟨a288_0, a288_1, rfl, r288_0, r288_1⟩ := r287
          obtain ⟨s289, A289, n289, c289, rfl, z289⟩ := r288_0
          obtain rfl := r288_1
          refine wl_move rfl rfl (by decide) ?_
          refine wl_pure rfl rfl (v := .agg #[.bool s289, .slice A289 n289 c289]) (by decide) (by kernel_rfl) ?_
          refine wl_pure rfl rfl (v := .bool true) (by decide) (by kernel_rfl) ?_
          refine wl_alloc rfl (z := .agg #[.bool false, .slice none 0 0]) (vs := [.bool false, .slice none 0 0]) (fun _ => by kernel_rfl) rfl (by decide) fun g290 v291 nb => ?_
          have hb293 := nb.bk
          have ge294 : w.heap.size ≤ g290 := by rw [← nb.at_]; exact hw1.size
          have e292 := nb.ext
          clear nb
          have hw2 : Ext w v291 := hw1.trans e292
          have hb296 := hb293
          refine wl_stored rfl rfl rfl aggInt rfl hb296 (Nat.le_of_ble_eq_true rfl) rfl [.bool s289, .slice A289 n289 c289] rfl fun v295 hb297 u298 hs299 => ?_
          have hw3 : Ext w v295 := u298.ext hw2 ge294
          refine wl_assign rfl rfl (by decide) ?_
          refine wl_nil ?_
          refine eo_then ?_
          refine cw_seq ?_
          refine cw_region ?_
          refine wl_move rfl rfl (by decide) ?_
          refine wl_call rfl rfl (vs := [.string (strB bs)]) (by kernel_rfl) (by decide) (rx_zRead hw3.size hbs (by omega) hzl hg (zval_neg hzl hzn)) ?_
          rintro _ v300 ⟨xr302, rfl, r302, e301⟩
          refine ret_intro ?_
          have hw4 : Ext w v300 := hw3.trans e301
          obtain ⟨a303_0, a303_1, rfl, r303_0, r303_1⟩ := r302
          obtain ⟨s304, A304, n304, c304, rfl, z304⟩ := r303_0
          obtain rfl := r303_1
          refine wl_move rfl rfl (by decide) ?_
          refine wl_pure rfl rfl (v := .agg #[.bool s304, .slice A304 n304 c304]) (by decide) (by kernel_rfl) ?_
          refine wl_pure rfl rfl (v := .int .i64 0) (by decide) (by kernel_rfl) ?_
          refine wl_alloc rfl (z := .agg #[.bool false, .slice none 0 0]) (vs := [.bool false, .slice none 0 0]) (fun _ => by kernel_rfl) rfl (by decide) fun g305 v306 nb => ?_
          have hb308 := nb.bk
          have ge309 : w.heap.size ≤ g305 := by rw [← nb.at_]; exact hw4.size
          have q310 : g290 < g305 := by rw [← nb.at_]; exact (hb297.ext e301).lt
          have e307 := nb.ext
          clear nb
          have hw5 : Ext w v306 := hw4.trans e307
          have hb312 := hb308
          refine wl_stored rfl rfl rfl aggInt rfl hb312 (Nat.le_of_ble_eq_true rfl) rfl [.bool s304, .slice A304 n304 c304] rfl fun v311 hb313 u314 hs315 => ?_
          have hw6 : Ext w v311 := u314.ext hw5 ge309
          refine wl_assign rfl rfl (by decide) ?_
          refine wl_nil ?_
          refine eo_then ?_
          refine cw_seq ?_
          refine cw_seq ?_
          refine cw_region ?_
          refine wl_move rfl rfl (by decide) ?_
          refine wl_pure rfl rfl (v := .bool false) (by decide) (by kernel_rfl) ?_
          refine wl_nil ?_
          refine eo_then ?_
          refine cw_false rfl ?_
          refine cw_skip ?_
          refine eo_then ?_
          refine cw_seq ?_
          refine cw_seq ?_
          refine cw_region ?_
          refine wl_move rfl rfl (by decide) ?_
          refine wl_nil ?_
          refine eo_then ?_
          refine cw_true rfl ?_
          refine cw_region ?_
          refine wl_load rfl rfl (load_agg aggInt ((hb297.ext (e301.trans e307)).updN u314 (by omega)) [.bool s289, .slice A289 n289 c289] rfl (Nat.le_of_ble_eq_true rfl) rfl) (by decide) ?_
          have L316 : ln (-((vald 10 ((bs.drop 3).map dv) : Nat) : Int)) ≤ 1048576 := (by rw [ln_neg]; exact hvl)
          refine wl_call rfl rfl (vs := [.agg #[.bool s289, .slice A289 n289 c289]]) (by kernel_rfl) (by decide) (g_zint_Neg hw6.size ((((z289.ext e292).updT hb296 u298).ext (e301.trans e307)).updT hb312 u314).zi (z289.le (Nat.le_trans hvl (by decide)))) ?_
          rintro _ v317 ⟨xr319, rfl, r319, e318⟩
          refine ret_intro ?_
          have hw7 : Ext w v317 := hw6.trans e318
          obtain ⟨s320, A320, n320, c320, rfl, z320⟩ := r319
          have hb322 := (((hb297.ext (e301.trans e307)).updN u314 (by omega)).ext e318)
          refine wl_stored rfl rfl rfl aggInt rfl hb322 (Nat.le_of_ble_eq_true rfl) rfl [.bool s320, .slice A320 n320 c320] rfl fun v321 hb323 u324 hs325 => ?_
          have hw8 : Ext w v321 := u324.ext hw7 ge294
          refine wl_nil ?_
          refine eo_then ?_
          refine cw_seq ?_
          refine cw_region ?_
          refine wl_move rfl rfl (by decide) ?_
          refine wl_cmp rfl rfl rfl true (by decide) (by decide) ?_
          refine wl_move rfl rfl (by decide) ?_
          refine wl_load rfl rfl (load_agg aggInt ((hb313.ext e318).updN u324 (by omega)) [.bool s304, .slice A304 n304 c304] rfl (Nat.le_of_ble_eq_true rfl) rfl) (by decide) ?_
          refine wl_load rfl rfl (load_agg aggInt hb323 [.bool s320, .slice A320 n320 c320] rfl (Nat.le_of_ble_eq_true rfl) rfl) (by decide) ?_
          refine wl_call rfl rfl (vs := [.agg #[.bool s304, .slice A304 n304 c304], .agg #[.bool s320, .slice A320 n320 c320]]) (by kernel_rfl) (by decide) (g_law5_alike ((((z304.ext e307).updT hb312 u314).ext e318).updT hb322 u324) (z304.le (Nat.le_trans (by rw [ln_neg]; exact hvl) (by decide))) (z320.updT hb322 u324) (z320.le (Nat.le_trans L316 (by decide)))) ?_
          rintro _ v326 ⟨xr328, rfl, r328, e327⟩
          refine ret_intro ?_
          have hw9 : Ext w v326 := hw8.trans e327
          obtain rfl := r328
          refine wl_pure rfl rfl (v := .bool true) (by decide) (by kernel_rfl) ?_
          refine wl_assign rfl rfl (by decide) ?_
          refine wl_nil ?_
          refine eo_then ?_
          refine cw_ret ?_
          refine eo_ret [.bool true] rfl ⟨rfl, trivial⟩ ?_
          exact ⟨_, rfl, rfl, hw9⟩
        ·
          refine cw_region ?_
          refine wl_move rfl rfl (by decide) ?_
          refine wl_move rfl rfl (by decide) ?_
          refine wl_call rfl rfl (vs := [.string (strB bs), .int .i64 3]) (by kernel_rfl) (by decide) (g_written_nob (Ext.refl w).size hbs hlen hatl hg) ?_
          rintro _ v329 ⟨z332, p333, xr331, rfl, r331, e330⟩
          refine ret_intro ?_
          have hw1 : Ext w v329 := (Ext.refl w).trans e330
          obtain ⟨a334_0, a334_1, rfl, r334_0, r334_1⟩ := r331
          obtain ⟨s335, A335, n335, c335, rfl, z335⟩ := r334_0
          obtain rfl := r334_1
          refine wl_move rfl rfl (by decide) ?_
          refine wl_pure rfl rfl (v := .agg #[.bool s335, .slice A335 n335 c335]) (by decide) (by kernel_rfl) ?_
          refine wl_pure rfl rfl (v := .bool false) (by decide) (by kernel_rfl) ?_
          refine wl_alloc rfl (z := .agg #[.bool false, .slice none 0 0]) (vs := [.bool false, .slice none 0 0]) (fun _ => by kernel_rfl) rfl (by decide) fun g336 v337 nb => ?_
          have hb339 := nb.bk
          have ge340 : w.heap.size ≤ g336 := by rw [← nb.at_]; exact hw1.size
          have e338 := nb.ext
          clear nb
          have hw2 : Ext w v337 := hw1.trans e338
          have hb342 := hb339
          refine wl_stored rfl rfl rfl aggInt rfl hb342 (Nat.le_of_ble_eq_true rfl) rfl [.bool s335, .slice A335 n335 c335] rfl fun v341 hb343 u344 hs345 => ?_
          have hw3 : Ext w v341 := u344.ext hw2 ge340
          refine wl_assign rfl rfl (by decide) ?_
          refine wl_nil ?_
          refine eo_then ?_
          refine cw_seq ?_
          refine cw_region ?_
          refine wl_move rfl rfl (by decide) ?_
          refine wl_call rfl rfl (vs := [.string (strB bs)]) (by kernel_rfl) (by decide) (rx_zRead_bad hbs (by omega) hzl hg) ?_
          rintro _ v346 ⟨xr348, rfl, r348, e347⟩
          refine ret_intro ?_
          have hw4 : Ext w v346 := hw3.trans e347
          obtain ⟨a349_0, a349_1, rfl, r349_0, r349_1⟩ := r348
          obtain rfl := r349_0
          obtain rfl := r349_1
          refine wl_move rfl rfl (by decide) ?_
          refine wl_pure rfl rfl (v := .agg #[.bool false, .slice none 0 0]) (by decide) (by kernel_rfl) ?_
          refine wl_pure rfl rfl (v := .int .i64 7) (by decide) (by kernel_rfl) ?_
          refine wl_alloc rfl (z := .agg #[.bool false, .slice none 0 0]) (vs := [.bool false, .slice none 0 0]) (fun _ => by kernel_rfl) rfl (by decide) fun g350 v351 nb => ?_
          have hb353 := nb.bk
          have ge354 : w.heap.size ≤ g350 := by rw [← nb.at_]; exact hw4.size
          have q355 : g336 < g350 := by rw [← nb.at_]; exact (hb343.ext e347).lt
          have e352 := nb.ext
          clear nb
          have hw5 : Ext w v351 := hw4.trans e352
          have hb357 := hb353
          refine wl_stored rfl rfl rfl aggInt rfl hb357 (Nat.le_of_ble_eq_true rfl) rfl [.bool false, .slice none 0 0] rfl fun v356 hb358 u359 hs360 => ?_
          have hw6 : Ext w v356 := u359.ext hw5 ge354
          refine wl_assign rfl rfl (by decide) ?_
          refine wl_nil ?_
          refine eo_then ?_
          refine cw_seq ?_
          refine cw_seq ?_
          refine cw_region ?_
          refine wl_move rfl rfl (by decide) ?_
          refine wl_pure rfl rfl (v := .bool true) (by decide) (by kernel_rfl) ?_
          refine wl_nil ?_
          refine eo_then ?_
          refine cw_true rfl ?_
          refine cw_seq ?_
          refine cw_region ?_
          refine wl_move rfl rfl (by decide) ?_
          refine wl_cmp rfl rfl rfl true (by decide) (by decide) ?_
          refine wl_move rfl rfl (by decide) ?_
          refine wl_pure rfl rfl (v := .pointer (some ⟨g350, 1, none⟩)) (by decide) (by kernel_rfl) ?_
          refine wl_load rfl rfl (load_cell cellWords hb358 rfl) (by decide) ?_
          refine wl_pure rfl rfl (v := .int .i64 0) (by decide) (by kernel_rfl) ?_
          refine wl_cmp rfl rfl rfl true (by decide) (by decide) ?_
          refine wl_pure rfl rfl (v := .bool true) (by decide) (by kernel_rfl) ?_
          refine wl_move rfl rfl (by decide) ?_
          refine wl_pure rfl rfl (v := .pointer (some ⟨g350, 0, none⟩)) (by decide) (by kernel_rfl) ?_
          refine wl_load rfl rfl (load_cell cellBool hb358 rfl) (by decide) ?_
          refine wl_pure rfl rfl (v := .bool true) (by decide) (by kernel_rfl) ?_
          refine wl_pure rfl rfl (v := .bool true) (by decide) (by kernel_rfl) ?_
          refine wl_assign rfl rfl (by decide) ?_
          refine wl_nil ?_
          refine eo_then ?_
          refine cw_ret ?_
          refine eo_thenR ?_
          refine eo_ret [.bool true] rfl ⟨rfl, trivial⟩ ?_
          exact ⟨_, rfl, rfl, hw6⟩
      ·
        have hzl : ztl bs = bs.drop 0 := by unfold ztl; rw [if_neg hf1, if_neg hf2, if_neg hf3]; rfl
        have hzn : zng bs = false := by unfold zng; rw [if_neg hf1, if_neg hf2, if_neg hf3]
        by_cases hp0 : bs.length > 0
        ·
          have h43 : bs.getD 0 0 ≠ 43 := fun e => hf1 (take1_of hp0 e)
          have h45 : bs.getD 0 0 ≠ 45 := fun e => hf2 (take1_of hp0 e)
          refine cw_region ?_
          refine wl_move rfl rfl (by decide) ?_
          refine wl_pureE rfl rfl (v := .int .i64 (((strB bs).size : Nat) : Int)) (v' := .int .i64 ((bs.length : Nat) : Int)) (by decide) (by kernel_rfl) (by rw [strB_size]) ?_
          refine wl_cmp rfl rfl rfl true (cb_gt_t (a := bs.length) (b := 0) rfl rfl (by omega)) (by decide) ?_
          refine wl_move rfl rfl (by decide) ?_
          refine wl_move rfl rfl (by decide) ?_
          refine wl_strix (bs := bs) (i := 0) rfl rfl rfl Tryd.underlying9 hbs (by omega) (by decide) ?_
          refine wl_cmp rfl rfl rfl false (cb_eq_f (a := bs.getD 0 0) (b := 43) rfl rfl (by omega)) (by decide) ?_
          refine wl_move rfl rfl (by decide) ?_
          refine wl_move rfl rfl (by decide) ?_
          refine wl_strix (bs := bs) (i := 0) rfl rfl rfl Tryd.underlying9 hbs (by omega) (by decide) ?_
          refine wl_cmp rfl rfl rfl false (cb_eq_f (a := bs.getD 0 0) (b := 45) rfl rfl (by omega)) (by decide) ?_
          refine wl_pure rfl rfl (v := .bool false) (by decide) (by kernel_rfl) ?_
          refine wl_pure rfl rfl (v := .bool false) (by decide) (by kernel_rfl) ?_
          refine wl_nil ?_
          refine eo_then ?_
          refine cw_false rfl ?_
          refine cw_skip ?_
          refine eo_then ?_
          refine cw_seq ?_
          refine cw_seq ?_
          by_cases hge3 : bs.length ≥ 3
          ·
            refine cw_region ?_
            refine wl_move rfl rfl (by decide) ?_
            refine wl_pureE rfl rfl (v := .int .i64 (((strB bs).size : Nat) : Int)) (v' := .int .i64 ((bs.length : Nat) : Int)) (by decide) (by kernel_rfl) (by rw [strB_size]) ?_
            refine wl_cmp rfl rfl rfl true (cb_ge_t (a := bs.length) (b := 3) rfl rfl (by omega)) (by decide) ?_
            refine wl_move rfl rfl (by decide) ?_
            refine wl_move rfl rfl (by decide) ?_
            refine wl_strhi (bs := bs) (i := 3) rfl rfl rfl Tryd.underlying9 (by omega) (by decide) ?_
            refine wl_streq (a := bs.take 3) (b := [226, 136, 146]) rfl rfl rfl (fun b hb => hbs b (List.mem_of_mem_take hb)) (by decide) false (strE_eql_f (hf3)) (by decide) ?_
            refine wl_pure rfl rfl (v := .bool false) (by decide) (by kernel_rfl) ?_
            refine wl_nil ?_
            refine eo_then ?_
            refine cw_false rfl ?_
            refine cw_skip ?_
            refine eo_then ?_
            refine cw_seq ?_
            have hatl : 0 ≤ bs.length := by omega
            by_cases hg : Good 10 (bs.drop 0)
            ·
              have hvl : ln ((vald 10 ((bs.drop 0).map dv) : Nat) : Int) ≤ 1048576 := ln_vald hg.2 (by rw [List.length_drop]; omega)
              refine cw_region ?_
              refine wl_move rfl rfl (by decide) ?_
              refine wl_move rfl rfl (by decide) ?_
              refine wl_call rfl rfl (vs := [.string (strB bs), .int .i64 0]) (by kernel_rfl) (by decide) ((g_written_ok hbs hlen hatl hg).mono (Gv.imp (T2.imp (ZR.imp (Ext.refl w).size) Is.imp))) ?_
              rintro _ v361 ⟨xr363, rfl, r363, e362⟩
              refine ret_intro ?_
              have hw1 : Ext w v361 := (Ext.refl w).trans e362
              obtain ⟨a364_0, a364_1, rfl, r364_0, r364_1⟩ := r363
              obtain ⟨s365, A365, n365, c365, rfl, z365⟩ := r364_0
              obtain rfl := r364_1
              refine wl_move rfl rfl (by decide) ?_
              refine wl_pure rfl rfl (v := .agg #[.bool s365, .slice A365 n365 c365]) (by decide) (by kernel_rfl) ?_
              refine wl_pure rfl rfl (v := .bool true) (by decide) (by kernel_rfl) ?_
              refine wl_alloc rfl (z := .agg #[.bool false, .slice none 0 0]) (vs := [.bool false, .slice none 0 0]) (fun _ => by kernel_rfl) rfl (by decide) fun g366 v367 nb => ?_
              have hb369 := nb.bk
              have ge370 : w.heap.size ≤ g366 := by rw [← nb.at_]; exact hw1.size
              have e368 := nb.ext
              clear nb
              have hw2 : Ext w v367 := hw1.trans e368
              have hb372 := hb369
              refine wl_stored rfl rfl rfl aggInt rfl hb372 (Nat.le_of_ble_eq_true rfl) rfl [.bool s365, .slice A365 n365 c365] rfl fun v371 hb373 u374 hs375 => ?_
              have hw3 : Ext w v371 := u374.ext hw2 ge370
              refine wl_assign rfl rfl (by decide) ?_
              refine wl_nil ?_
              refine eo_then ?_
              refine cw_seq ?_
              refine cw_region ?_
              refine wl_move rfl rfl (by decide) ?_
              refine wl_call rfl rfl (vs := [.string (strB bs)]) (by kernel_rfl) (by decide) (rx_zRead hw3.size hbs (by omega) hzl hg (zval_pos hzl hzn)) ?_
              rintro _ v376 ⟨xr378, rfl, r378, e377⟩
              refine ret_intro ?_
              have hw4 : Ext w v376 := hw3.trans e377
              obtain ⟨a379_0, a379_1, rfl, r379_0, r379_1⟩ := r378
              obtain ⟨s380, A380, n380, c380, rfl, z380⟩ := r379_0
              obtain rfl := r379_1
              refine wl_move rfl rfl (by decide) ?_
              refine wl_pure rfl rfl (v := .agg #[.bool s380, .slice A380 n380 c380]) (by decide) (by kernel_rfl) ?_
              refine wl_pure rfl rfl (v := .int .i64 0) (by decide) (by kernel_rfl) ?_
              refine wl_alloc rfl (z := .agg #[.bool false, .slice none 0 0]) (vs := [.bool false, .slice none 0 0]) (fun _ => by kernel_rfl) rfl (by decide) fun g381 v382 nb => ?_
              have hb384 := nb.bk
              have ge385 : w.heap.size ≤ g381 := by rw [← nb.at_]; exact hw4.size
              have q386 : g366 < g381 := by rw [← nb.at_]; exact (hb373.ext e377).lt
              have e383 := nb.ext
              clear nb
              have hw5 : Ext w v382 := hw4.trans e383
              have hb388 := hb384
              refine wl_stored rfl rfl rfl aggInt rfl hb388 (Nat.le_of_ble_eq_true rfl) rfl [.bool s380, .slice A380 n380 c380] rfl fun v387 hb389 u390 hs391 => ?_
              have hw6 : Ext w v387 := u390.ext hw5 ge385
              refine wl_assign rfl rfl (by decide) ?_
              refine wl_nil ?_
              refine eo_then ?_
              refine cw_seq ?_
              refine cw_seq ?_
              refine cw_region ?_
              refine wl_move rfl rfl (by decide) ?_
              refine wl_pure rfl rfl (v := .bool false) (by decide) (by kernel_rfl) ?_
              refine wl_nil ?_
              refine eo_then ?_
              refine cw_false rfl ?_
              refine cw_skip ?_
              refine eo_then ?_
              refine cw_seq ?_
              refine cw_seq ?_
              refine cw_region ?_
              refine wl_move rfl rfl (by decide) ?_
              refine wl_nil ?_
              refine eo_then ?_
              refine cw_false rfl ?_
              refine cw_skip ?_
              refine eo_then ?_
              refine cw_seq ?_
              refine cw_region ?_
              refine wl_move rfl rfl (by decide) ?_
              refine wl_cmp rfl rfl rfl true (by decide) (by decide) ?_
              refine wl_move rfl rfl (by decide) ?_
              refine wl_load rfl rfl (load_agg aggInt hb389 [.bool s380, .slice A380 n380 c380] rfl (Nat.le_of_ble_eq_true rfl) rfl) (by decide) ?_
              refine wl_load rfl rfl (load_agg aggInt ((hb373.ext (e377.trans e383)).updN u390 (by omega)) [.bool s365, .slice A365 n365 c365] rfl (Nat.le_of_ble_eq_true rfl) rfl) (by decide) ?_
              refine wl_call rfl rfl (vs := [.agg #[.bool s380, .slice A380 n380 c380], .agg #[.bool s365, .slice A365 n365 c365]]) (by kernel_rfl) (by decide) (g_law5_alike ((z380.ext e383).updT hb388 u390) (z380.le (Nat.le_trans hvl (by decide))) ((((z365.ext e368).updT hb372 u374).ext (e377.trans e383)).updT hb388 u390) (z365.le (Nat.le_trans hvl (by decide)))) ?_
              rintro _ v392 ⟨xr394, rfl, r394, e393⟩
              refine ret_intro ?_
              have hw7 : Ext w v392 := hw6.trans e393
              obtain rfl := r394
              refine wl_pure rfl rfl (v := .bool true) (by decide) (by kernel_rfl) ?_
              refine wl_assign rfl rfl (by decide) ?_
              refine wl_nil ?_
              refine eo_then ?_
              refine cw_ret ?_
              refine eo_ret [.bool true] rfl ⟨rfl, trivial⟩ ?_
              exact ⟨_, rfl, rfl, hw7⟩
            ·
              refine cw_region ?_
              refine wl_move rfl rfl (by decide) ?_
              refine wl_move rfl rfl (by decide) ?_
              refine wl_call rfl rfl (vs := [.string (strB bs), .int .i64 0]) (by kernel_rfl) (by decide) (g_written_nob (Ext.refl w).size hbs hlen hatl hg) ?_
              rintro _ v395 ⟨z398, p399, xr397, rfl, r397, e396⟩
              refine ret_intro ?_
              have hw1 : Ext w v395 := (Ext.refl w).trans e396
              obtain ⟨a400_0, a400_1, rfl, r400_0, r400_1⟩ := r397
              obtain ⟨s401, A401, n401, c401, rfl, z401⟩ := r400_0
              obtain rfl := r400_1
              refine wl_move rfl rfl (by decide) ?_
              refine wl_pure rfl rfl (v := .agg #[.bool s401, .slice A401 n401 c401]) (by decide) (by kernel_rfl) ?_
              refine wl_pure rfl rfl (v := .bool false) (by decide) (by kernel_rfl) ?_
              refine wl_alloc rfl (z := .agg #[.bool false, .slice none 0 0]) (vs := [.bool false, .slice none 0 0]) (fun _ => by kernel_rfl) rfl (by decide) fun g402 v403 nb => ?_
              have hb405 := nb.bk
              have ge406 : w.heap.size ≤ g402 := by rw [← nb.at_]; exact hw1.size
              have e404 := nb.ext
              clear nb
              have hw2 : Ext w v403 := hw1.trans e404
              have hb408 := hb405
              refine wl_stored rfl rfl rfl aggInt rfl hb408 (Nat.le_of_ble_eq_true rfl) rfl [.bool s401, .slice A401 n401 c401] rfl fun v407 hb409 u410 hs411 => ?_
              have hw3 : Ext w v407 := u410.ext hw2 ge406
              refine wl_assign rfl rfl (by decide) ?_
              refine wl_nil ?_
              refine eo_then ?_
              refine cw_seq ?_
              refine cw_region ?_
              refine wl_move rfl rfl (by decide) ?_
              refine wl_call rfl rfl (vs := [.string (strB bs)]) (by kernel_rfl) (by decide) (rx_zRead_bad hbs (by omega) hzl hg) ?_
              rintro _ v412 ⟨xr414, rfl, r414, e413⟩
              refine ret_intro ?_
              have hw4 : Ext w v412 := hw3.trans e413
              obtain ⟨a415_0, a415_1, rfl, r415_0, r415_1⟩ := r414
              obtain rfl := r415_0
              obtain rfl := r415_1
              refine wl_move rfl rfl (by decide) ?_
              refine wl_pure rfl rfl (v := .agg #[.bool false, .slice none 0 0]) (by decide) (by kernel_rfl) ?_
              refine wl_pure rfl rfl (v := .int .i64 7) (by decide) (by kernel_rfl) ?_
              refine wl_alloc rfl (z := .agg #[.bool false, .slice none 0 0]) (vs := [.bool false, .slice none 0 0]) (fun _ => by kernel_rfl) rfl (by decide) fun g416 v417 nb => ?_
              have hb419 := nb.bk
              have ge420 : w.heap.size ≤ g416 := by rw [← nb.at_]; exact hw4.size
              have q421 : g402 < g416 := by rw [← nb.at_]; exact (hb409.ext e413).lt
              have e418 := nb.ext
              clear nb
              have hw5 : Ext w v417 := hw4.trans e418
              have hb423 := hb419
              refine wl_stored rfl rfl rfl aggInt rfl hb423 (Nat.le_of_ble_eq_true rfl) rfl [.bool false, .slice none 0 0] rfl fun v422 hb424 u425 hs426 => ?_
              have hw6 : Ext w v422 := u425.ext hw5 ge420
              refine wl_assign rfl rfl (by decide) ?_
              refine wl_nil ?_
              refine eo_then ?_
              refine cw_seq ?_
              refine cw_seq ?_
              refine cw_region ?_
              refine wl_move rfl rfl (by decide) ?_
              refine wl_pure rfl rfl (v := .bool true) (by decide) (by kernel_rfl) ?_
              refine wl_nil ?_
              refine eo_then ?_
              refine cw_true rfl ?_
              refine cw_seq ?_
              refine cw_region ?_
              refine wl_move rfl rfl (by decide) ?_
              refine wl_cmp rfl rfl rfl true (by decide) (by decide) ?_
              refine wl_move rfl rfl (by decide) ?_
              refine wl_pure rfl rfl (v := .pointer (some ⟨g416, 1, none⟩)) (by decide) (by kernel_rfl) ?_
              refine wl_load rfl rfl (load_cell cellWords hb424 rfl) (by decide) ?_
              refine wl_pure rfl rfl (v := .int .i64 0) (by decide) (by kernel_rfl) ?_
              refine wl_cmp rfl rfl rfl true (by decide) (by decide) ?_
              refine wl_pure rfl rfl (v := .bool true) (by decide) (by kernel_rfl) ?_
              refine wl_move rfl rfl (by decide) ?_
              refine wl_pure rfl rfl (v := .pointer (some ⟨g416, 0, none⟩)) (by decide) (by kernel_rfl) ?_
              refine wl_load rfl rfl (load_cell cellBool hb424 rfl) (by decide) ?_
              refine wl_pure rfl rfl (v := .bool true) (by decide) (by kernel_rfl) ?_
              refine wl_pure rfl rfl (v := .bool true) (by decide) (by kernel_rfl) ?_
              refine wl_assign rfl rfl (by decide) ?_
              refine wl_nil ?_
              refine eo_then ?_
              refine cw_ret ?_
              refine eo_thenR ?_
              refine eo_ret [.bool true] rfl ⟨rfl, trivial⟩ ?_
              exact ⟨_, rfl, rfl, hw6⟩
          ·
            refine cw_region ?_
            refine wl_move rfl rfl (by decide) ?_
            refine wl_pureE rfl rfl (v := .int .i64 (((strB bs).size : Nat) : Int)) (v' := .int .i64 ((bs.length : Nat) : Int)) (by decide) (by kernel_rfl) (by rw [strB_size]) ?_
            refine wl_cmp rfl rfl rfl false (cb_ge_f (a := bs.length) (b := 3) rfl rfl (by omega)) (by decide) ?_
            refine wl_move rfl rfl (by decide) ?_
            refine wl_off rfl (by decide) ?_
            refine wl_off rfl (by decide) ?_
            refine wl_off rfl (by decide) ?_
            refine wl_pure rfl rfl (v := .bool false) (by decide) (by kernel_rfl) ?_
            refine wl_nil ?_
            refine eo_then ?_
            refine cw_false rfl ?_
            refine cw_skip ?_
            refine eo_then ?_
            refine cw_seq ?_
            have hatl : 0 ≤ bs.length := by omega
            by_cases hg : Good 10 (bs.drop 0)
            ·
              have hvl : ln ((vald 10 ((bs.drop 0).map dv) : Nat) : Int) ≤ 1048576 := ln_vald hg.2 (by rw [List.length_drop]; omega)
              refine cw_region ?_
              refine wl_move rfl rfl (by decide) ?_
              refine wl_move rfl rfl (by decide) ?_
              refine wl_call rfl rfl (vs := [.string (strB bs), .int .i64 0]) (by kernel_rfl) (by decide) ((g_written_ok hbs hlen hatl hg).mono (Gv.imp (T2.imp (ZR.imp (Ext.refl w).size) Is.imp))) ?_
              rintro _ v427 ⟨xr429, rfl, r429, e428⟩
              refine ret_intro ?_
              have hw1 : Ext w v427 := (Ext.refl w).trans e428
              obtain ⟨a430_0, a430_1, rfl, r430_0, r430_1⟩ := r429
              obtain ⟨s431, A431, n431, c431, rfl, z431⟩ := r430_0
              obtain rfl := r430_1
              refine wl_move rfl rfl (by decide) ?_
              refine wl_pure rfl rfl (v := .agg #[.bool s431, .slice A431 n431 c431]) (by decide) (by kernel_rfl) ?_
              refine wl_pure rfl rfl (v := .bool true) (by decide) (by kernel_rfl) ?_
              refine wl_alloc rfl (z := .agg #[.bool false, .slice none 0 0]) (vs := [.bool false, .slice none 0 0]) (fun _ => by kernel_rfl) rfl (by decide) fun g432 v433 nb => ?_
              have hb435 := nb.bk
              have ge436 : w.heap.size ≤ g432 := by rw [← nb.at_]; exact hw1.size
              have e434 := nb.ext
              clear nb
              have hw2 : Ext w v433 := hw1.trans e434
              have hb438 := hb435
              refine wl_stored rfl rfl rfl aggInt rfl hb438 (Nat.le_of_ble_eq_true rfl) rfl [.bool s431, .slice A431 n431 c431] rfl fun v437 hb439 u440 hs441 => ?_
              have hw3 : Ext w v437 := u440.ext hw2 ge436
              refine wl_assign rfl rfl (by decide) ?_
              refine wl_nil ?_
              refine eo_then ?_
              refine cw_seq ?_
              refine cw_region ?_
              refine wl_move rfl rfl (by decide) ?_
              refine wl_call rfl rfl (vs := [.string (strB bs)]) (by kernel_rfl) (by decide) (rx_zRead hw3.size hbs (by omega) hzl hg (zval_pos hzl hzn)) ?_
              rintro _ v442 ⟨xr444, rfl, r444, e443⟩
              refine ret_intro ?_
              have hw4 : Ext w v442 := hw3.trans e443
              obtain ⟨a445_0, a445_1, rfl, r445_0, r445_1⟩ := r444
              obtain ⟨s446, A446, n446, c446, rfl, z446⟩ := r445_0
              obtain rfl := r445_1
              refine wl_move rfl rfl (by decide) ?_
              refine wl_pure rfl rfl (v := .agg #[.bool s446, .slice A446 n446 c446]) (by decide) (by kernel_rfl) ?_
              refine wl_pure rfl rfl (v := .int .i64 0) (by decide) (by kernel_rfl) ?_
              refine wl_alloc rfl (z := .agg #[.bool false, .slice none 0 0]) (vs := [.bool false, .slice none 0 0]) (fun _ => by kernel_rfl) rfl (by decide) fun g447 v448 nb => ?_
              have hb450 := nb.bk
              have ge451 : w.heap.size ≤ g447 := by rw [← nb.at_]; exact hw4.size
              have q452 : g432 < g447 := by rw [← nb.at_]; exact (hb439.ext e443).lt
              have e449 := nb.ext
              clear nb
              have hw5 : Ext w v448 := hw4.trans e449
              have hb454 := hb450
              refine wl_stored rfl rfl rfl aggInt rfl hb454 (Nat.le_of_ble_eq_true rfl) rfl [.bool s446, .slice A446 n446 c446] rfl fun v453 hb455 u456 hs457 => ?_
              have hw6 : Ext w v453 := u456.ext hw5 ge451
              refine wl_assign rfl rfl (by decide) ?_
              refine wl_nil ?_
              refine eo_then ?_
              refine cw_seq ?_
              refine cw_seq ?_
              refine cw_region ?_
              refine wl_move rfl rfl (by decide) ?_
              refine wl_pure rfl rfl (v := .bool false) (by decide) (by kernel_rfl) ?_
              refine wl_nil ?_
              refine eo_then ?_
              refine cw_false rfl ?_
              refine cw_skip ?_
              refine eo_then ?_
              refine cw_seq ?_
              refine cw_seq ?_
              refine cw_region ?_
              refine wl_move rfl rfl (by decide) ?_
              refine wl_nil ?_
              refine eo_then ?_
              refine cw_false rfl ?_
              refine cw_skip ?_
              refine eo_then ?_
              refine cw_seq ?_
              refine cw_region ?_
              refine wl_move rfl rfl (by decide) ?_
              refine wl_cmp rfl rfl rfl true (by decide) (by decide) ?_
              refine wl_move rfl rfl (by decide) ?_
              refine wl_load rfl rfl (load_agg aggInt hb455 [.bool s446, .slice A446 n446 c446] rfl (Nat.le_of_ble_eq_true rfl) rfl) (by decide) ?_
              refine wl_load rfl rfl (load_agg aggInt ((hb439.ext (e443.trans e449)).updN u456 (by omega)) [.bool s431, .slice A431 n431 c431] rfl (Nat.le_of_ble_eq_true rfl) rfl) (by decide) ?_
              refine wl_call rfl rfl (vs := [.agg #[.bool s446, .slice A446 n446 c446], .agg #[.bool s431, .slice A431 n431 c431]]) (by kernel_rfl) (by decide) (g_law5_alike ((z446.ext e449).updT hb454 u456) (z446.le (Nat.le_trans hvl (by decide))) ((((z431.ext e434).updT hb438 u440).ext (e443.trans e449)).updT hb454 u456) (z431.le (Nat.le_trans hvl (by decide)))) ?_
              rintro _ v458 ⟨xr460, rfl, r460, e459⟩
              refine ret_intro ?_
              have hw7 : Ext w v458 := hw6.trans e459
              obtain rfl := r460
              refine wl_pure rfl rfl (v := .bool true) (by decide) (by kernel_rfl) ?_
              refine wl_assign rfl rfl (by decide) ?_
              refine wl_nil ?_
              refine eo_then ?_
              refine cw_ret ?_
              refine eo_ret [.bool true] rfl ⟨rfl, trivial⟩ ?_
              exact ⟨_, rfl, rfl, hw7⟩
            ·
              refine cw_region ?_
              refine wl_move rfl rfl (by decide) ?_
              refine wl_move rfl rfl (by decide) ?_
              refine wl_call rfl rfl (vs := [.string (strB bs), .int .i64 0]) (by kernel_rfl) (by decide) (g_written_nob (Ext.refl w).size hbs hlen hatl hg) ?_
              rintro _ v461 ⟨z464, p465, xr463, rfl, r463, e462⟩
              refine ret_intro ?_
              have hw1 : Ext w v461 := (Ext.refl w).trans e462
              obtain ⟨a466_0, a466_1, rfl, r466_0, r466_1⟩ := r463
              obtain ⟨s467, A467, n467, c467, rfl, z467⟩ := r466_0
              obtain rfl := r466_1
              refine wl_move rfl rfl (by decide) ?_
              refine wl_pure rfl rfl (v := .agg #[.bool s467, .slice A467 n467 c467]) (by decide) (by kernel_rfl) ?_
              refine wl_pure rfl rfl (v := .bool false) (by decide) (by kernel_rfl) ?_
              refine wl_alloc rfl (z := .agg #[.bool false, .slice none 0 0]) (vs := [.bool false, .slice none 0 0]) (fun _ => by kernel_rfl) rfl (by decide) fun g468 v469 nb => ?_
              have hb471 := nb.bk
              have ge472 : w.heap.size ≤ g468 := by rw [← nb.at_]; exact hw1.size
              have e470 := nb.ext
              clear nb
              have hw2 : Ext w v469 := hw1.trans e470
              have hb474 := hb471
              refine wl_stored rfl rfl rfl aggInt rfl hb474 (Nat.le_of_ble_eq_true rfl) rfl [.bool s467, .slice A467 n467 c467] rfl fun v473 hb475 u476 hs477 => ?_
              have hw3 : Ext w v473 := u476.ext hw2 ge472
              refine wl_assign rfl rfl (by decide) ?_
              refine wl_nil ?_
              refine eo_then ?_
              refine cw_seq ?_
              refine cw_region ?_
              refine wl_move rfl rfl (by decide) ?_
              refine wl_call rfl rfl (vs := [.string (strB bs)]) (by kernel_rfl) (by decide) (rx_zRead_bad hbs (by omega) hzl hg) ?_
              rintro _ v478 ⟨xr480, rfl, r480, e479⟩
              refine ret_intro ?_
              have hw4 : Ext w v478 := hw3.trans e479
              obtain ⟨a481_0, a481_1, rfl, r481_0, r481_1⟩ := r480
              obtain rfl := r481_0
              obtain rfl := r481_1
              refine wl_move rfl rfl (by decide) ?_
              refine wl_pure rfl rfl (v := .agg #[.bool false, .slice none 0 0]) (by decide) (by kernel_rfl) ?_
              refine wl_pure rfl rfl (v := .int .i64 7) (by decide) (by kernel_rfl) ?_
              refine wl_alloc rfl (z := .agg #[.bool false, .slice none 0 0]) (vs := [.bool false, .slice none 0 0]) (fun _ => by kernel_rfl) rfl (by decide) fun g482 v483 nb => ?_
              have hb485 := nb.bk
              have ge486 : w.heap.size ≤ g482 := by rw [← nb.at_]; exact hw4.size
              have q487 : g468 < g482 := by rw [← nb.at_]; exact (hb475.ext e479).lt
              have e484 := nb.ext
              clear nb
              have hw5 : Ext w v483 := hw4.trans e484
              have hb489 := hb485
              refine wl_stored rfl rfl rfl aggInt rfl hb489 (Nat.le_of_ble_eq_true rfl) rfl [.bool false, .slice none 0 0] rfl fun v488 hb490 u491 hs492 => ?_
              have hw6 : Ext w v488 := u491.ext hw5 ge486
              refine wl_assign rfl rfl (by decide) ?_
              refine wl_nil ?_
              refine eo_then ?_
              refine cw_seq ?_
              refine cw_seq ?_
              refine cw_region ?_
              refine wl_move rfl rfl (by decide) ?_
              refine wl_pure rfl rfl (v := .bool true) (by decide) (by kernel_rfl) ?_
              refine wl_nil ?_
              refine eo_then ?_
              refine cw_true rfl ?_
              refine cw_seq ?_
              refine cw_region ?_
              refine wl_move rfl rfl (by decide) ?_
              refine wl_cmp rfl rfl rfl true (by decide) (by decide) ?_
              refine wl_move rfl rfl (by decide) ?_
              refine wl_pure rfl rfl (v := .pointer (some ⟨g482, 1, none⟩)) (by decide) (by kernel_rfl) ?_
              refine wl_load rfl rfl (load_cell cellWords hb490 rfl) (by decide) ?_
              refine wl_pure rfl rfl (v := .int .i64 0) (by decide) (by kernel_rfl) ?_
              refine wl_cmp rfl rfl rfl true (by decide) (by decide) ?_
              refine wl_pure rfl rfl (v := .bool true) (by decide) (by kernel_rfl) ?_
              refine wl_move rfl rfl (by decide) ?_
              refine wl_pure rfl rfl (v := .pointer (some ⟨g482, 0, none⟩)) (by decide) (by kernel_rfl) ?_
              refine wl_load rfl rfl (load_cell cellBool hb490 rfl) (by decide) ?_
              refine wl_pure rfl rfl (v := .bool true) (by decide) (by kernel_rfl) ?_
              refine wl_pure rfl rfl (v := .bool true) (by decide) (by kernel_rfl) ?_
              refine wl_assign rfl rfl (by decide) ?_
              refine wl_nil ?_
              refine eo_then ?_
              refine cw_ret ?_
              refine eo_thenR ?_
              refine eo_ret [.bool true] rfl ⟨rfl, trivial⟩ ?_
              exact ⟨_, rfl, rfl, hw6⟩
        ·
          refine cw_region ?_
          refine wl_move rfl rfl (by decide) ?_
          refine wl_pureE rfl rfl (v := .int .i64 (((strB bs).size : Nat) : Int)) (v' := .int .i64 ((bs.length : Nat) : Int)) (by decide) (by kernel_rfl) (by rw [strB_size]) ?_
          refine wl_cmp rfl rfl rfl false (cb_gt_f (a := bs.length) (b := 0) rfl rfl (by omega)) (by decide) ?_
          refine wl_move rfl rfl (by decide) ?_
          refine wl_off rfl (by decide) ?_
          refine wl_off rfl (by decide) ?_
          refine wl_off rfl (by decide) ?_
          refine wl_off rfl (by decide) ?_
          refine wl_off rfl (by decide) ?_
          refine wl_off rfl (by decide) ?_
          refine wl_off rfl (by decide) ?_
          refine wl_off rfl (by decide) ?_
          refine wl_pure rfl rfl (v := .bool false) (by decide) (by kernel_rfl) ?_
          refine wl_nil ?_
          refine eo_then ?_
          refine cw_false rfl ?_
          refine cw_skip ?_
          refine eo_then ?_
          refine cw_seq ?_
          refine cw_seq ?_
          by_cases hge3 : bs.length ≥ 3
          ·
            refine cw_region ?_
            refine wl_move rfl rfl (by decide) ?_
            refine wl_pureE rfl rfl (v := .int .i64 (((strB bs).size : Nat) : Int)) (v' := .int .i64 ((bs.length : Nat) : Int)) (by decide) (by kernel_rfl) (by rw [strB_size]) ?_
            refine wl_cmp rfl rfl rfl true (cb_ge_t (a := bs.length) (b := 3) rfl rfl (by omega)) (by decide) ?_
            refine wl_move rfl rfl (by decide) ?_
            refine wl_move rfl rfl (by decide) ?_
            refine wl_strhi (bs := bs) (i := 3) rfl rfl rfl Tryd.underlying9 (by omega) (by decide) ?_
            refine wl_streq (a := bs.take 3) (b := [226, 136, 146]) rfl rfl rfl (fun b hb => hbs b (List.mem_of_mem_take hb)) (by decide) false (strE_eql_f (hf3)) (by decide) ?_
            refine wl_pure rfl rfl (v := .bool false) (by decide) (by kernel_rfl) ?_
            refine wl_nil ?_
            refine eo_then ?_
            refine cw_false rfl ?_
            refine cw_skip ?_
            refine eo_then ?_
            refine cw_seq ?_
            have hatl : 0 ≤ bs.length := by omega
            by_cases hg : Good 10 (bs.drop 0)
            ·
              have hvl : ln ((vald 10 ((bs.drop 0).map dv) : Nat) : Int) ≤ 1048576 := ln_vald hg.2 (by rw [List.length_drop]; omega)
              refine cw_region ?_
              refine wl_move rfl rfl (by decide) ?_
              refine wl_move rfl rfl (by decide) ?_
              refine wl_call rfl rfl (vs := [.string (strB bs), .int .i64 0]) (by kernel_rfl) (by decide) ((g_written_ok hbs hlen hatl hg).mono (Gv.imp (T2.imp (ZR.imp (Ext.refl w).size) Is.imp))) ?_
              rintro _ v493 ⟨xr495, rfl, r495, e494⟩
              refine ret_intro ?_
              have hw1 : Ext w v493 := (Ext.refl w).trans e494
              obtain ⟨a496_0, a496_1, rfl, r496_0, r496_1⟩ := r495
              obtain ⟨s497, A497, n497, c497, rfl, z497⟩ := r496_0
              obtain rfl := r496_1
              refine wl_move rfl rfl (by decide) ?_
              refine wl_pure rfl rfl (v := .agg #[.bool s497, .slice A497 n497 c497]) (by decide) (by kernel_rfl) ?_
              refine wl_pure rfl rfl (v := .bool true) (by decide) (by kernel_rfl) ?_
              refine wl_alloc rfl (z := .agg #[.bool false, .slice none 0 0]) (vs := [.bool false, .slice none 0 0]) (fun _ => by kernel_rfl) rfl (by decide) fun g498 v499 nb => ?_
              have hb501 := nb.bk
              have ge502 : w.heap.size ≤ g498 := by rw [← nb.at_]; exact hw1.size
              have e500 := nb.ext
              clear nb
              have hw2 : Ext w v499 := hw1.trans e500
              have hb504 := hb501
              refine wl_stored rfl rfl rfl aggInt rfl hb504 (Nat.le_of_ble_eq_true rfl) rfl [.bool s497, .slice A497 n497 c497] rfl fun v503 hb505 u506 hs507 => ?_
              have hw3 : Ext w v503 := u506.ext hw2 ge502
              refine wl_assign rfl rfl (by decide) ?_
              refine wl_nil ?_
              refine eo_then ?_
              refine cw_seq ?_
              refine cw_region ?_
              refine wl_move rfl rfl (by decide) ?_
              refine wl_call rfl rfl (vs := [.string (strB bs)]) (by kernel_rfl) (by decide) (rx_zRead hw3.size hbs (by omega) hzl hg (zval_pos hzl hzn)) ?_
              rintro _ v508 ⟨xr510, rfl, r510, e509⟩
              refine ret_intro ?_
              have hw4 : Ext w v508 := hw3.trans e509
              obtain ⟨a511_0, a511_1, rfl, r511_0, r511_1⟩ := r510
              obtain ⟨s512, A512, n512, c512, rfl, z512⟩ := r511_0
              obtain rfl := r511_1
              refine wl_move rfl rfl (by decide) ?_
              refine wl_pure rfl rfl (v := .agg #[.bool s512, .slice A512 n512 c512]) (by decide) (by kernel_rfl) ?_
              refine wl_pure rfl rfl (v := .int .i64 0) (by decide) (by kernel_rfl) ?_
              refine wl_alloc rfl (z := .agg #[.bool false, .slice none 0 0]) (vs := [.bool false, .slice none 0 0]) (fun _ => by kernel_rfl) rfl (by decide) fun g513 v514 nb => ?_
              have hb516 := nb.bk
              have ge517 : w.heap.size ≤ g513 := by rw [← nb.at_]; exact hw4.size
              have q518 : g498 < g513 := by rw [← nb.at_]; exact (hb505.ext e509).lt
              have e515 := nb.ext
              clear nb
              have hw5 : Ext w v514 := hw4.trans e515
              have hb520 := hb516
              refine wl_stored rfl rfl rfl aggInt rfl hb520 (Nat.le_of_ble_eq_true rfl) rfl [.bool s512, .slice A512 n512 c512] rfl fun v519 hb521 u522 hs523 => ?_
              have hw6 : Ext w v519 := u522.ext hw5 ge517
              refine wl_assign rfl rfl (by decide) ?_
              refine wl_nil ?_
              refine eo_then ?_
              refine cw_seq ?_
              refine cw_seq ?_
              refine cw_region ?_
              refine wl_move rfl rfl (by decide) ?_
              refine wl_pure rfl rfl (v := .bool false) (by decide) (by kernel_rfl) ?_
              refine wl_nil ?_
              refine eo_then ?_
              refine cw_false rfl ?_
              refine cw_skip ?_
              refine eo_then ?_
              refine cw_seq ?_
              refine cw_seq ?_
              refine cw_region ?_
              refine wl_move rfl rfl (by decide) ?_
              refine wl_nil ?_
              refine eo_then ?_
              refine cw_false rfl ?_
              refine cw_skip ?_
              refine eo_then ?_
              refine cw_seq ?_
              refine cw_region ?_
              refine wl_move rfl rfl (by decide) ?_
              refine wl_cmp rfl rfl rfl true (by decide) (by decide) ?_
              refine wl_move rfl rfl (by decide) ?_
              refine wl_load rfl rfl (load_agg aggInt hb521 [.bool s512, .slice A512 n512 c512] rfl (Nat.le_of_ble_eq_true rfl) rfl) (by decide) ?_
              refine wl_load rfl rfl (load_agg aggInt ((hb505.ext (e509.trans e515)).updN u522 (by omega)) [.bool s497, .slice A497 n497 c497] rfl (Nat.le_of_ble_eq_true rfl) rfl) (by decide) ?_
              refine wl_call rfl rfl (vs := [.agg #[.bool s512, .slice A512 n512 c512], .agg #[.bool s497, .slice A497 n497 c497]]) (by kernel_rfl) (by decide) (g_law5_alike ((z512.ext e515).updT hb520 u522) (z512.le (Nat.le_trans hvl (by decide))) ((((z497.ext e500).updT hb504 u506).ext (e509.trans e515)).updT hb520 u522) (z497.le (Nat.le_trans hvl (by decide)))) ?_
              rintro _ v524 ⟨xr526, rfl, r526, e525⟩
              refine ret_intro ?_
              have hw7 : Ext w v524 := hw6.trans e525
              obtain rfl := r526
              refine wl_pure rfl rfl (v := .bool true) (by decide) (by kernel_rfl) ?_
              refine wl_assign rfl rfl (by decide) ?_
              refine wl_nil ?_
              refine eo_then ?_
              refine cw_ret ?_
              refine eo_ret [.bool true] rfl ⟨rfl, trivial⟩ ?_
              exact ⟨_, rfl, rfl, hw7⟩
            ·
              refine cw_region ?_
              refine wl_move rfl rfl (by decide) ?_
              refine wl_move rfl rfl (by decide) ?_
              refine wl_call rfl rfl (vs := [.string (strB bs), .int .i64 0]) (by kernel_rfl) (by decide) (g_written_nob (Ext.refl w).size hbs hlen hatl hg) ?_
              rintro _ v527 ⟨z530, p531, xr529, rfl, r529, e528⟩
              refine ret_intro ?_
              have hw1 : Ext w v527 := (Ext.refl w).trans e528
              obtain ⟨a532_0, a532_1, rfl, r532_0, r532_1⟩ := r529
              obtain ⟨s533, A533, n533, c533, rfl, z533⟩ := r532_0
              obtain rfl := r532_1
              refine wl_move rfl rfl (by decide) ?_
              refine wl_pure rfl rfl (v := .agg #[.bool s533, .slice A533 n533 c533]) (by decide) (by kernel_rfl) ?_
              refine wl_pure rfl rfl (v := .bool false) (by decide) (by kernel_rfl) ?_
              refine wl_alloc rfl (z := .agg #[.bool false, .slice none 0 0]) (vs := [.bool false, .slice none 0 0]) (fun _ => by kernel_rfl) rfl (by decide) fun g534 v535 nb => ?_
              have hb537 := nb.bk
              have ge538 : w.heap.size ≤ g534 := by rw [← nb.at_]; exact hw1.size
              have e536 := nb.ext
              clear nb
              have hw2 : Ext w v535 := hw1.trans e536
              have hb540 := hb537
              refine wl_stored rfl rfl rfl aggInt rfl hb540 (Nat.le_of_ble_eq_true rfl) rfl [.bool s533, .slice A533 n533 c533] rfl fun v539 hb541 u542 hs543 => ?_
              have hw3 : Ext w v539 := u542.ext hw2 ge538
              refine wl_assign rfl rfl (by decide) ?_
              refine wl_nil ?_
              refine eo_then ?_
              refine cw_seq ?_
              refine cw_region ?_
              refine wl_move rfl rfl (by decide) ?_
              refine wl_call rfl rfl (vs := [.string (strB bs)]) (by kernel_rfl) (by decide) (rx_zRead_bad hbs (by omega) hzl hg) ?_
              rintro _ v544 ⟨xr546, rfl, r546, e545⟩
              refine ret_intro ?_
              have hw4 : Ext w v544 := hw3.trans e545
              obtain ⟨a547_0, a547_1, rfl, r547_0, r547_1⟩ := r546
              obtain rfl := r547_0
              obtain rfl := r547_1
              refine wl_move rfl rfl (by decide) ?_
              refine wl_pure rfl rfl (v := .agg #[.bool false, .slice none 0 0]) (by decide) (by kernel_rfl) ?_
              refine wl_pure rfl rfl (v := .int .i64 7) (by decide) (by kernel_rfl) ?_
              refine wl_alloc rfl (z := .agg #[.bool false, .slice none 0 0]) (vs := [.bool false, .slice none 0 0]) (fun _ => by kernel_rfl) rfl (by decide) fun g548 v549 nb => ?_
              have hb551 := nb.bk
              have ge552 : w.heap.size ≤ g548 := by rw [← nb.at_]; exact hw4.size
              have q553 : g534 < g548 := by rw [← nb.at_]; exact (hb541.ext e545).lt
              have e550 := nb.ext
              clear nb
              have hw5 : Ext w v549 := hw4.trans e550
              have hb555 := hb551
              refine wl_stored rfl rfl rfl aggInt rfl hb555 (Nat.le_of_ble_eq_true rfl) rfl [.bool false, .slice none 0 0] rfl fun v554 hb556 u557 hs558 => ?_
              have hw6 : Ext w v554 := u557.ext hw5 ge552
              refine wl_assign rfl rfl (by decide) ?_
              refine wl_nil ?_
              refine eo_then ?_
              refine cw_seq ?_
              refine cw_seq ?_
              refine cw_region ?_
              refine wl_move rfl rfl (by decide) ?_
              refine wl_pure rfl rfl (v := .bool true) (by decide) (by kernel_rfl) ?_
              refine wl_nil ?_
              refine eo_then ?_
              refine cw_true rfl ?_
              refine cw_seq ?_
              refine cw_region ?_
              refine wl_move rfl rfl (by decide) ?_
              refine wl_cmp rfl rfl rfl true (by decide) (by decide) ?_
              refine wl_move rfl rfl (by decide) ?_
              refine wl_pure rfl rfl (v := .pointer (some ⟨g548, 1, none⟩)) (by decide) (by kernel_rfl) ?_
              refine wl_load rfl rfl (load_cell cellWords hb556 rfl) (by decide) ?_
              refine wl_pure rfl rfl (v := .int .i64 0) (by decide) (by kernel_rfl) ?_
              refine wl_cmp rfl rfl rfl true (by decide) (by decide) ?_
              refine wl_pure rfl rfl (v := .bool true) (by decide) (by kernel_rfl) ?_
              refine wl_move rfl rfl (by decide) ?_
              refine wl_pure rfl rfl (v := .pointer (some ⟨g548, 0, none⟩)) (by decide) (by kernel_rfl) ?_
              refine wl_load rfl rfl (load_cell cellBool hb556 rfl) (by decide) ?_
              refine wl_pure rfl rfl (v := .bool true) (by decide) (by kernel_rfl) ?_
              refine wl_pure rfl rfl (v := .bool true) (by decide) (by kernel_rfl) ?_
              refine wl_assign rfl rfl (by decide) ?_
              refine wl_nil ?_
              refine eo_then ?_
              refine cw_ret ?_
              refine eo_thenR ?_
              refine eo_ret [.bool true] rfl ⟨rfl, trivial⟩ ?_
              exact ⟨_, rfl, rfl, hw6⟩
          ·
            refine cw_region ?_
            refine wl_move rfl rfl (by decide) ?_
            refine wl_pureE rfl rfl (v := .int .i64 (((strB bs).size : Nat) : Int)) (v' := .int .i64 ((bs.length : Nat) : Int)) (by decide) (by kernel_rfl) (by rw [strB_size]) ?_
            refine wl_cmp rfl rfl rfl false (cb_ge_f (a := bs.length) (b := 3) rfl rfl (by omega)) (by decide) ?_
            refine wl_move rfl rfl (by decide) ?_
            refine wl_off rfl (by decide) ?_
            refine wl_off rfl (by decide) ?_
            refine wl_off rfl (by decide) ?_
            refine wl_pure rfl rfl (v := .bool false) (by decide) (by kernel_rfl) ?_
            refine wl_nil ?_
            refine eo_then ?_
            refine cw_false rfl ?_
            refine cw_skip ?_
            refine eo_then ?_
            refine cw_seq ?_
            have hatl : 0 ≤ bs.length := by omega
            by_cases hg : Good 10 (bs.drop 0)
            ·
              have hvl : ln ((vald 10 ((bs.drop 0).map dv) : Nat) : Int) ≤ 1048576 := ln_vald hg.2 (by rw [List.length_drop]; omega)
              refine cw_region ?_
              refine wl_move rfl rfl (by decide) ?_
              refine wl_move rfl rfl (by decide) ?_
              refine wl_call rfl rfl (vs := [.string (strB bs), .int .i64 0]) (by kernel_rfl) (by decide) ((g_written_ok hbs hlen hatl hg).mono (Gv.imp (T2.imp (ZR.imp (Ext.refl w).size) Is.imp))) ?_
              rintro _ v559 ⟨xr561, rfl, r561, e560⟩
              refine ret_intro ?_
              have hw1 : Ext w v559 := (Ext.refl w).trans e560
              obtain ⟨a562_0, a562_1, rfl, r562_0, r562_1⟩ := r561
              obtain ⟨s563, A563, n563, c563, rfl, z563⟩ := r562_0
              obtain rfl := r562_1
              refine wl_move rfl rfl (by decide) ?_
              refine wl_pure rfl rfl (v := .agg #[.bool s563, .slice A563 n563 c563]) (by decide) (by kernel_rfl) ?_
              refine wl_pure rfl rfl (v := .bool true) (by decide) (by kernel_rfl) ?_
              refine wl_alloc rfl (z := .agg #[.bool false, .slice none 0 0]) (vs := [.bool false, .slice none 0 0]) (fun _ => by kernel_rfl) rfl (by decide) fun g564 v565 nb => ?_
              have hb567 := nb.bk
              have ge568 : w.heap.size ≤ g564 := by rw [← nb.at_]; exact hw1.size
              have e566 := nb.ext
              clear nb
              have hw2 : Ext w v565 := hw1.trans e566
              have hb570 := hb567
              refine wl_stored rfl rfl rfl aggInt rfl hb570 (Nat.le_of_ble_eq_true rfl) rfl [.bool s563, .slice A563 n563 c563] rfl fun v569 hb571 u572 hs573 => ?_
              have hw3 : Ext w v569 := u572.ext hw2 ge568
              refine wl_assign rfl rfl (by decide) ?_
              refine wl_nil ?_
              refine eo_then ?_
              refine cw_seq ?_
              refine cw_region ?_
              refine wl_move rfl rfl (by decide) ?_
              refine wl_call rfl rfl (vs := [.string (strB bs)]) (by kernel_rfl) (by decide) (rx_zRead hw3.size hbs (by omega) hzl hg (zval_pos hzl hzn)) ?_
              rintro _ v574 ⟨xr576, rfl, r576, e575⟩
              refine ret_intro ?_
              have hw4 : Ext w v574 := hw3.trans e575
              obtain ⟨a577_0, a577_1, rfl, r577_0, r577_1⟩ := r576
              obtain ⟨s578, A578, n578, c578, rfl, z578⟩ := r577_0
              obtain rfl := r577_1
              refine wl_move rfl rfl (by decide) ?_
              refine wl_pure rfl rfl (v := .agg #[.bool s578, .slice A578 n578 c578]) (by decide) (by kernel_rfl) ?_
              refine wl_pure rfl rfl (v := .int .i64 0) (by decide) (by kernel_rfl) ?_
              refine wl_alloc rfl (z := .agg #[.bool false, .slice none 0 0]) (vs := [.bool false, .slice none 0 0]) (fun _ => by kernel_rfl) rfl (by decide) fun g579 v580 nb => ?_
              have hb582 := nb.bk
              have ge583 : w.heap.size ≤ g579 := by rw [← nb.at_]; exact hw4.size
              have q584 : g564 < g579 := by rw [← nb.at_]; exact (hb571.ext e575).lt
              have e581 := nb.ext
              clear nb
              have hw5 : Ext w v580 := hw4.trans e581
              have hb586 := hb582
              refine wl_stored rfl rfl rfl aggInt rfl hb586 (Nat.le_of_ble_eq_true rfl) rfl [.bool s578, .slice A578 n578 c578] rfl fun v585 hb587 u588 hs589 => ?_
              have hw6 : Ext w v585 := u588.ext hw5 ge583
              refine wl_assign rfl rfl (by decide) ?_
              refine wl_nil ?_
              refine eo_then ?_
              refine cw_seq ?_
              refine cw_seq ?_
              refine cw_region ?_
              refine wl_move rfl rfl (by decide) ?_
              refine wl_pure rfl rfl (v := .bool false) (by decide) (by kernel_rfl) ?_
              refine wl_nil ?_
              refine eo_then ?_
              refine cw_false rfl ?_
              refine cw_skip ?_
              refine eo_then ?_
              refine cw_seq ?_
              refine cw_seq ?_
              refine cw_region ?_
              refine wl_move rfl rfl (by decide) ?_
              refine wl_nil ?_
              refine eo_then ?_
              refine cw_false rfl ?_
              refine cw_skip ?_
              refine eo_then ?_
              refine cw_seq ?_
              refine cw_region ?_
              refine wl_move rfl rfl (by decide) ?_
              refine wl_cmp rfl rfl rfl true (by decide) (by decide) ?_
              refine wl_move rfl rfl (by decide) ?_
              refine wl_load rfl rfl (load_agg aggInt hb587 [.bool s578, .slice A578 n578 c578] rfl (Nat.le_of_ble_eq_true rfl) rfl) (by decide) ?_
              refine wl_load rfl rfl (load_agg aggInt ((hb571.ext (e575.trans e581)).updN u588 (by omega)) [.bool s563, .slice A563 n563 c563] rfl (Nat.le_of_ble_eq_true rfl) rfl) (by decide) ?_
              refine wl_call rfl rfl (vs := [.agg #[.bool s578, .slice A578 n578 c578], .agg #[.bool s563, .slice A563 n563 c563]]) (by kernel_rfl) (by decide) (g_law5_alike ((z578.ext e581).updT hb586 u588) (z578.le (Nat.le_trans hvl (by decide))) ((((z563.ext e566).updT hb570 u572).ext (e575.trans e581)).updT hb586 u588) (z563.le (Nat.le_trans hvl (by decide)))) ?_
              rintro _ v590 ⟨xr592, rfl, r592, e591⟩
              refine ret_intro ?_
              have hw7 : Ext w v590 := hw6.trans e591
              obtain rfl := r592
              refine wl_pure rfl rfl (v := .bool true) (by decide) (by kernel_rfl) ?_
              refine wl_assign rfl rfl (by decide) ?_
              refine wl_nil ?_
              refine eo_then ?_
              refine cw_ret ?_
              refine eo_ret [.bool true] rfl ⟨rfl, trivial⟩ ?_
              exact ⟨_, rfl, rfl, hw7⟩
            ·
              refine cw_region ?_
              refine wl_move rfl rfl (by decide) ?_
              refine wl_move rfl rfl (by decide) ?_
              refine wl_call rfl rfl (vs := [.string (strB bs), .int .i64 0]) (by kernel_rfl) (by decide) (g_written_nob (Ext.refl w).size hbs hlen hatl hg) ?_
              rintro _ v593 ⟨z596, p597, xr595, rfl, r595, e594⟩
              refine ret_intro ?_
              have hw1 : Ext w v593 := (Ext.refl w).trans e594
              obtain ⟨a598_0, a598_1, rfl, r598_0, r598_1⟩ := r595
              obtain ⟨s599, A599, n599, c599, rfl, z599⟩ := r598_0
              obtain rfl := r598_1
              refine wl_move rfl rfl (by decide) ?_
              refine wl_pure rfl rfl (v := .agg #[.bool s599, .slice A599 n599 c599]) (by decide) (by kernel_rfl) ?_
              refine wl_pure rfl rfl (v := .bool false) (by decide) (by kernel_rfl) ?_
              refine wl_alloc rfl (z := .agg #[.bool false, .slice none 0 0]) (vs := [.bool false, .slice none 0 0]) (fun _ => by kernel_rfl) rfl (by decide) fun g600 v601 nb => ?_
              have hb603 := nb.bk
              have ge604 : w.heap.size ≤ g600 := by rw [← nb.at_]; exact hw1.size
              have e602 := nb.ext
              clear nb
              have hw2 : Ext w v601 := hw1.trans e602
              have hb606 := hb603
              refine wl_stored rfl rfl rfl aggInt rfl hb606 (Nat.le_of_ble_eq_true rfl) rfl [.bool s599, .slice A599 n599 c599] rfl fun v605 hb607 u608 hs609 => ?_
              have hw3 : Ext w v605 := u608.ext hw2 ge604
              refine wl_assign rfl rfl (by decide) ?_
              refine wl_nil ?_
              refine eo_then ?_
              refine cw_seq ?_
              refine cw_region ?_
              refine wl_move rfl rfl (by decide) ?_
              refine wl_call rfl rfl (vs := [.string (strB bs)]) (by kernel_rfl) (by decide) (rx_zRead_bad hbs (by omega) hzl hg) ?_
              rintro _ v610 ⟨xr612, rfl, r612, e611⟩
              refine ret_intro ?_
              have hw4 : Ext w v610 := hw3.trans e611
              obtain ⟨a613_0, a613_1, rfl, r613_0, r613_1⟩ := r612
              obtain rfl := r613_0
              obtain rfl := r613_1
              refine wl_move rfl rfl (by decide) ?_
              refine wl_pure rfl rfl (v := .agg #[.bool false, .slice none 0 0]) (by decide) (by kernel_rfl) ?_
              refine wl_pure rfl rfl (v := .int .i64 7) (by decide) (by kernel_rfl) ?_
              refine wl_alloc rfl (z := .agg #[.bool false, .slice none 0 0]) (vs := [.bool false, .slice none 0 0]) (fun _ => by kernel_rfl) rfl (by decide) fun g614 v615 nb => ?_
              have hb617 := nb.bk
              have ge618 : w.heap.size ≤ g614 := by rw [← nb.at_]; exact hw4.size
              have q619 : g600 < g614 := by rw [← nb.at_]; exact (hb607.ext e611).lt
              have e616 := nb.ext
              clear nb
              have hw5 : Ext w v615 := hw4.trans e616
              have hb621 := hb617
              refine wl_stored rfl rfl rfl aggInt rfl hb621 (Nat.le_of_ble_eq_true rfl) rfl [.bool false, .slice none 0 0] rfl fun v620 hb622 u623 hs624 => ?_
              have hw6 : Ext w v620 := u623.ext hw5 ge618
              refine wl_assign rfl rfl (by decide) ?_
              refine wl_nil ?_
              refine eo_then ?_
              refine cw_seq ?_
              refine cw_seq ?_
              refine cw_region ?_
              refine wl_move rfl rfl (by decide) ?_
              refine wl_pure rfl rfl (v := .bool true) (by decide) (by kernel_rfl) ?_
              refine wl_nil ?_
              refine eo_then ?_
              refine cw_true rfl ?_
              refine cw_seq ?_
              refine cw_region ?_
              refine wl_move rfl rfl (by decide) ?_
              refine wl_cmp rfl rfl rfl true (by decide) (by decide) ?_
              refine wl_move rfl rfl (by decide) ?_
              refine wl_pure rfl rfl (v := .pointer (some ⟨g614, 1, none⟩)) (by decide) (by kernel_rfl) ?_
              refine wl_load rfl rfl (load_cell cellWords hb622 rfl) (by decide) ?_
              refine wl_pure rfl rfl (v := .int .i64 0) (by decide) (by kernel_rfl) ?_
              refine wl_cmp rfl rfl rfl true (by decide) (by decide) ?_
              refine wl_pure rfl rfl (v := .bool true) (by decide) (by kernel_rfl) ?_
              refine wl_move rfl rfl (by decide) ?_
              refine wl_pure rfl rfl (v := .pointer (some ⟨g614, 0, none⟩)) (by decide) (by kernel_rfl) ?_
              refine wl_load rfl rfl (load_cell cellBool hb622 rfl) (by decide) ?_
              refine wl_pure rfl rfl (v := .bool true) (by decide) (by kernel_rfl) ?_
              refine wl_pure rfl rfl (v := .bool true) (by decide) (by kernel_rfl) ?_
              refine wl_assign rfl rfl (by decide) ?_
              refine wl_nil ?_
              refine eo_then ?_
              refine cw_ret ?_
              refine eo_thenR ?_
              refine eo_ret [.bool true] rfl ⟨rfl, trivial⟩ ?_
              exact ⟨_, rfl, rfl, hw6⟩
end Go.Proofs.YtmjdmjflgiicaaaDoor
