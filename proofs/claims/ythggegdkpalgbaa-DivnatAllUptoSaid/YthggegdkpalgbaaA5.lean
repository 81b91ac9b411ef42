/- Parts Law3p, joined. -/
import Derived.Test.YthggegdkpalgbaaA4

namespace Go.Proofs.Ythggegdkpalgbaa
open Go.RowKit
/-- the root, and what is stripped -/
noncomputable def rt3 (X k : Nat) : Nat := @Classical.epsilon Nat ⟨0⟩ (IsRoot X k)
theorem rt3_eq {X k r : Nat} (h : IsRoot X k r) : rt3 X k = r := IsRoot.uniq (@Classical.epsilon_spec_aux Nat ⟨0⟩ (IsRoot X k) ⟨r, h⟩) h
noncomputable def sq3 (X Y : Nat) : Nat × Nat := @Classical.epsilon (Nat × Nat) ⟨(0, 0)⟩ (fun p => p.2 * Y ^ p.1 = X ∧ p.2 % Y ≠ 0)
theorem sq3_eq {X Y q L : Nat} (hY : 2 ≤ Y) (h1 : L * Y ^ q = X) (h2 : L % Y ≠ 0) : sq3 X Y = (q, L) := by
  have h := @Classical.epsilon_spec_aux (Nat × Nat) ⟨(0, 0)⟩ (fun p => p.2 * Y ^ p.1 = X ∧ p.2 % Y ≠ 0) ⟨(q, L), h1, h2⟩
  have h3 := strip_uniq hY (h.1.trans h1.symm) h.2 h2
  exact Prod.ext h3.1 h3.2
noncomputable def stN (X Y : Nat) : Nat := open Classical in if X = 0 ∨ Y < 2 then 0 else (sq3 X Y).1
noncomputable def stL (X Y : Nat) : Nat := open Classical in if X = 0 ∨ Y < 2 then 0 else (sq3 X Y).2
def stE (X Y : Nat) : Int := if X = 0 ∨ Y < 2 then 3 else 0
noncomputable def roV (X : Nat) (k : Int) : Nat := if k < 1 then 0 else rt3 X k.toNat
def roE (k : Int) : Int := if k < 1 then 3 else 0
theorem root_ex (X : Nat) {k : Nat} (hk : 1 ≤ k) : ∃ r, IsRoot X k r := by
  have h : ∀ m, X < (m + 1) ^ k → ∃ r, IsRoot X k r := by
    intro m
    induction m with
    | zero => intro h; rw [Nat.zero_add, Nat.one_pow] at h; exact ⟨0, by rw [Nat.zero_pow (by omega)]; omega, by rw [Nat.zero_add, Nat.one_pow]; exact h⟩
    | succ m ih =>
      intro h
      by_cases h1 : (m + 1) ^ k ≤ X
      · exact ⟨m + 1, h1, h⟩
      · exact ih (by omega)
  refine h X ?_
  have := Nat.le_self_pow (n := k) (by omega) (X + 1)
  omega
theorem strip_ex {Y : Nat} (hY : 2 ≤ Y) : ∀ {X : Nat}, X ≠ 0 → ∃ q L, L * Y ^ q = X ∧ L % Y ≠ 0 := by
  intro X
  induction X using Nat.strongRecOn with
  | ind X ih =>
    intro h0
    by_cases h : X % Y = 0
    · have h1 : X / Y * Y = X := Nat.div_mul_cancel (Nat.dvd_of_mod_eq_zero h)
      have h2 : X / Y < X := Nat.div_lt_self (Nat.pos_of_ne_zero h0) (by omega)
      obtain ⟨q, L, h3, h4⟩ := ih (X / Y) h2 (fun e => h0 (by rw [← h1, e, Nat.zero_mul]))
      exact ⟨q + 1, L, by rw [Nat.pow_succ, ← Nat.mul_assoc, h3, h1], h4⟩
    · exact ⟨0, X, by rw [Nat.pow_zero, Nat.mul_one], h⟩
theorem len_gcd3 {X Y N : Nat} (h : (wd X).length ≤ N) (h' : (wd Y).length ≤ N) : (wd (Nat.gcd X Y)).length ≤ N := by
  by_cases h0 : X = 0
  · rw [h0, Nat.gcd_zero_left]; exact h'
  · exact Nat.le_trans (len_wd_mono (Nat.gcd_le_left Y (Nat.pos_of_ne_zero h0))) h
section
variable {w : World} {A B : Option Addr} {n cap n' cap' X Y b : Nat} (hb : b ≤ w.heap.size)
include hb
theorem j3_Gcd (hx : Wi w A n cap X) (hl : n ≤ 67108864) (hy : Wi w B n' cap' Y) (hl' : n' ≤ 67108864) : Calls Try.prog 65 #[.slice A n cap, .slice B n' cap'] w (Gv w (WR b (Nat.gcd X Y))) := by
  obtain ⟨xs, h1, rfl⟩ := hx
  obtain ⟨ys, h2, rfl⟩ := hy
  refine (divnat_Gcd h1 (by omega) h2 (by omega)).mono ?_
  rintro e w' ⟨A, n, c, rfl, h1, _, h3, hx⟩
  exact ⟨_, rfl, ⟨_, _, _, rfl, h1.out, h3.mono hb⟩, hx⟩
theorem j3_rGcd (hx : Wi w A n cap X) (hl : n ≤ 67108864) (hy : Wi w B n' cap' Y) (hl' : n' ≤ 67108864) : Calls Try.prog 59 #[.slice A n cap, .slice B n' cap'] w (Gv w (WR b (Nat.gcd X Y))) := by
  obtain ⟨xs, h1, rfl⟩ := hx
  obtain ⟨ys, h2, rfl⟩ := hy
  exact (ref3_Gcd h1 (by omega) h2 (by omega)).mono (Gv.imp (WR.imp hb))
theorem j3_Sqrt (hx : Wi w A n cap X) (hl : n ≤ 67108864) : Calls Try.prog 66 #[.slice A n cap] w (Gv w (T2 (WR b (rt3 X 2)) (WR b (X - rt3 X 2 * rt3 X 2)))) := by
  refine (g_divnat_Sqrt hb hx hl).mono ?_
  rintro e w' ⟨r, hr, h⟩
  rw [rt3_eq hr]; exact h
theorem j3_rSqrt (hx : Wi w A n cap X) (hl : n ≤ 67108864) : Calls Try.prog 60 #[.slice A n cap] w (Gv w (T2 (WR b (rt3 X 2)) (WR b (X - rt3 X 2 * rt3 X 2)))) := by
  obtain ⟨xs, h1, rfl⟩ := hx
  refine (ref3_Sqrt h1 (by omega)).mono ?_
  rintro e w' ⟨r, hr, h⟩
  rw [rt3_eq hr]; exact Gv.imp (T2.imp (WR.imp hb) (WR.imp hb)) _ _ h
theorem j3_Strip (hx : Wi w A n cap X) (hl : n ≤ 67108864) (hy : Wi w B n' cap' Y) (hl' : n' ≤ 67108864) : Calls Try.prog 67 #[.slice A n cap, .slice B n' cap'] w (Gv w (T3 (Is (.int .i64 ((stN X Y : Nat) : Int))) (WR b (stL X Y)) (Is (.int .i64 (stE X Y))))) := by
  obtain ⟨xs, h1, rfl⟩ := hx
  obtain ⟨ys, h2, rfl⟩ := hy
  by_cases h0 : nv xs = 0 ∨ nv ys < 2
  · refine (divnat_Strip_bad h1 (by omega) h2 (by omega) h0).mono ?_
    rintro e w' ⟨rfl, hx⟩
    refine ⟨_, rfl, ⟨_, _, _, rfl, ?_, ?_, ?_⟩, hx⟩
    · unfold stN; rw [if_pos h0]; rfl
    · unfold stL; rw [if_pos h0]; exact wr_nil3
    · unfold stE; rw [if_pos h0]; rfl
  · refine (divnat_Strip h1 (by omega) h2 (by omega) (by omega) (by omega)).mono ?_
    rintro e w' ⟨k, L, A, n, c, rfl, g1, g2, g3, _, g5, hx⟩
    have e := sq3_eq (by omega) g1.out g2.out
    refine ⟨_, rfl, ⟨_, _, _, rfl, ?_, ?_, ?_⟩, hx⟩
    · unfold stN; rw [if_neg h0, e]; rfl
    · unfold stL; rw [if_neg h0, e]; exact ⟨_, _, _, rfl, g3.out, g5.mono hb⟩
    · unfold stE; rw [if_neg h0]; rfl
theorem j3_rStrip (hx : Wi w A n cap X) (hl : n ≤ 67108864) (hy : Wi w B n' cap' Y) (hl' : n' ≤ 67108864) : Calls Try.prog 61 #[.slice A n cap, .slice B n' cap'] w (Gv w (T3 (Is (.int .i64 ((stN X Y : Nat) : Int))) (WR b (stL X Y)) (Is (.int .i64 (stE X Y))))) := by
  obtain ⟨xs, h1, rfl⟩ := hx
  obtain ⟨ys, h2, rfl⟩ := hy
  by_cases h0 : nv xs = 0 ∨ nv ys < 2
  · refine (ref3_Strip_bad h1 (by omega) h2 (by omega) rfl rfl h0).mono ?_
    rintro e w' ⟨v, rfl, rfl, hx⟩
    refine ⟨_, rfl, ⟨_, _, _, rfl, ?_, ?_, ?_⟩, hx⟩
    · unfold stN; rw [if_pos h0]; rfl
    · unfold stL; rw [if_pos h0]; exact wr_nil3
    · unfold stE; rw [if_pos h0]; rfl
  · refine (ref3_Strip h1 (by omega) h2 (by omega) rfl rfl ⟨by omega, by omega⟩).mono ?_
    rintro e w' ⟨q, L, g1, g2, h⟩
    have e := sq3_eq (by omega) g1 g2
    unfold stN stL stE
    rw [if_neg h0, if_neg h0, if_neg h0, e]
    exact Gv.imp (T3.imp Is.imp (WR.imp hb) Is.imp) _ _ h
theorem j3_Root {k : Int} (hx : Wi w A n cap X) (hl : n ≤ 67108864) (hk : k ≤ 9223372036854775807) : Calls Try.prog 68 #[.slice A n cap, .int .i64 k] w (Gv w (T2 (WR b (roV X k)) (Is (.int .i64 (roE k))))) := by
  obtain ⟨xs, h1, rfl⟩ := hx
  by_cases h0 : k < 1
  · refine (divnat_Root_bad (A := A) (n := n) (cap := cap) h0).mono ?_
    rintro e w' ⟨rfl, rfl⟩
    refine ⟨_, rfl, ⟨_, _, rfl, ?_, ?_⟩, Ext.refl _⟩
    · unfold roV; rw [if_pos h0]; exact wr_nil3
    · unfold roE; rw [if_pos h0]; rfl
  · obtain ⟨K, rfl⟩ := Int.eq_ofNat_of_zero_le (show 0 ≤ k by omega)
    refine (divnat_Root h1 hl (K := K) (by omega) (by omega)).mono ?_
    rintro e w' ⟨r, hr, A, n, c, rfl, g1, _, g3, hx⟩
    refine ⟨_, rfl, ⟨_, _, rfl, ?_, ?_⟩, hx⟩
    · unfold roV; rw [if_neg h0, Int.toNat_natCast, rt3_eq hr.out]; exact ⟨_, _, _, rfl, g1.out, g3.mono hb⟩
    · unfold roE; rw [if_neg h0]; rfl
theorem j3_rRoot {k : Int} (hx : Wi w A n cap X) (hl : n ≤ 67108864) (hk : k ≤ 9223372036854775807) : Calls Try.prog 62 #[.slice A n cap, .int .i64 k] w (Gv w (T2 (WR b (roV X k)) (Is (.int .i64 (roE k))))) := by
  obtain ⟨xs, h1, rfl⟩ := hx
  by_cases h0 : k < 1
  · refine (ref3_Root_bad (A := A) (n := n) (cap := cap) h0).mono ?_
    rintro e w' ⟨v, rfl, rfl, hx⟩
    refine ⟨_, rfl, ⟨_, _, rfl, ?_, ?_⟩, hx⟩
    · unfold roV; rw [if_pos h0]; exact wr_nil3
    · unfold roE; rw [if_pos h0]; rfl
  · obtain ⟨K, rfl⟩ := Int.eq_ofNat_of_zero_le (show 0 ≤ k by omega)
    refine (ref3_Root h1 (by omega) (K := K) (by omega) (by omega)).mono ?_
    rintro e w' ⟨r, hr, h⟩
    unfold roV roE
    rw [if_neg h0, if_neg h0, Int.toNat_natCast, rt3_eq hr]
    exact Gv.imp (T2.imp (WR.imp hb) Is.imp) _ _ h
omit hb
theorem len_rt3 {k N : Nat} (hk : 1 ≤ k) (h : (wd X).length ≤ N) : (wd (rt3 X k)).length ≤ N := by
  by_cases h0 : ∃ r, IsRoot X k r
  · obtain ⟨r, hr⟩ := h0
    rw [rt3_eq hr]; exact Nat.le_trans (len_wd_mono (IsRoot.le_self hk hr)) h
  · exact absurd (root_ex X hk) h0
theorem len_stL {N : Nat} (h : (wd X).length ≤ N) : (wd (stL X Y)).length ≤ N := by
  unfold stL
  split
  · exact Nat.zero_le _
  · rename_i h0
    obtain ⟨q, L, h1, h2⟩ := strip_ex (Y := Y) (by omega) (X := X) (by omega)
    rw [sq3_eq (by omega) h1 h2]
    refine Nat.le_trans (len_wd_mono ?_) h
    have : L * 1 ≤ L * Y ^ q := Nat.mul_le_mul_left _ (Nat.pow_pos (by omega))
    show L ≤ X
    omega
theorem len_sub3 {Z N : Nat} (h : (wd X).length ≤ N) : (wd (X - Z)).length ≤ N := Nat.le_trans (len_wd_mono (Nat.sub_le _ _)) h
theorem len_roV {k : Int} {N : Nat} (h : (wd X).length ≤ N) : (wd (roV X k)).length ≤ N := by
  unfold roV
  split
  · exact Nat.zero_le _
  · exact len_rt3 (by omega) h
end
theorem aggAns3 : AggT Try.prog 64 5 := ⟨fun _ => by kernel_rfl, fun _ => by kernel_rfl⟩
/-- what a call of layer 3 answers -/
structure Ans3 where
  Q : Nat
  R : Nat
  W : Nat
  N : Int
  E : Int
def AnsR3 (b : Nat) (t : Ans3) (v : Value) (w : World) : Prop := ∃ q r, v = .agg #[q, r, .int .u64 ((t.W : Nat) : Int), .int .i64 t.N, .int .i64 t.E] ∧ WR b t.Q q w ∧ WR b t.R r w ∧ (wd t.Q).length ≤ 68719476735 ∧ (wd t.R).length ≤ 68719476735
theorem g_same3 {w : World} {b b' : Nat} {A B : Option Addr} {n c m d k : Nat} (hx : Own w b 23 1 A n c ((wd k).map W64)) (hl : n ≤ 1099511627776) (hy : Own w b' 23 1 B m d ((wd k).map W64)) (hl' : m ≤ 1099511627776) :
    Calls Try.prog 69 #[.slice A n c, .slice B m d] w (Gv w (Is (.bool true))) := by
  have h := ref1_Same (hx.rd (Wf_wd _)) hl (hy.rd (Wf_wd _)) hl'
  rw [decide_eq_true rfl] at h
  exact h.mono gbool
noncomputable def spec3 (k kk : Int) (X Y v : Nat) : Ans3 :=
  if k = 1 then ⟨X / v, 0, rm3 X v, 0, er3 v⟩ else if k = 2 then ⟨X / Y, rm3 X Y, 0, 0, er3 Y⟩ else if k = 3 then ⟨xt3 X Y, 0, 0, 0, xe3 X Y⟩ else if k = 4 then ⟨Nat.gcd X Y, 0, 0, 0, 0⟩ else if k = 5 then ⟨rt3 X 2, X - rt3 X 2 * rt3 X 2, 0, 0, 0⟩ else
  if k = 6 then ⟨stL X Y, 0, 0, ((stN X Y : Nat) : Int), stE X Y⟩ else if k = 7 then ⟨roV X kk, 0, 0, 0, roE kk⟩ else ⟨0, 0, 0, 0, 0⟩
theorem bool_of3 {w : World} {b : Bool} : ∀ e w', Gv w (Is (.bool b)) e w' → BoolP b w e w' := by
  rintro e w' ⟨v, rfl, rfl, hx⟩
  exact ⟨rfl, hx⟩
set_option maxHeartbeats 4000000 in
theorem g_plays3_1 {w : World} {b : Nat} (hb : b ≤ w.heap.size) {A : Option Addr} {n cap X : Nat} (hx : Wi w A n cap X) (hl : n ≤ 1048576) {B : Option Addr} {n' cap' Y : Nat} (hy : Wi w B n' cap' Y) (hl' : n' ≤ 1048576) {v : Nat} {kk : Int} (hv : v ≤ 18446744073709551615) (hkk : kk ≤ 9223372036854775807) :
    Calls Try.prog 32 #[.agg #[.int .i64 1, .slice A n cap, .slice B n' cap', .int .u64 ((v : Nat) : Int), .int .i64 kk]] w (Gv w (AnsR3 b (spec3 1 kk X Y v))) := by
  have hXl : (wd X).length ≤ 68719476735 := Nat.le_trans hx.len (Nat.le_trans hl (by decide))
  have hYl : (wd Y).length ≤ 68719476735 := Nat.le_trans hy.len (Nat.le_trans hl' (by decide))
  refine sx_enter Try.func32 rfl (n := 91) rfl (Nat.le_of_ble_eq_true rfl) (args := [.agg #[.int .i64 1, .slice A n cap, .slice B n' cap', .int .u64 ((v : Nat) : Int), .int .i64 kk]]) ?_
  refine cw_keep [(0, .agg #[.int .i64 1, .slice A n cap, .slice B n' cap', .int .u64 ((v : Nat) : Int), .int .i64 kk])] ⟨rfl, trivial⟩ ?_
  refine cw_seq ?_
  refine cw_region ?_
  refine wl_box rfl rfl (vs := [.int .i64 1, .slice A n cap, .slice B n' cap', .int .u64 ((v : Nat) : Int), .int .i64 kk]) rfl (by decide) fun g1 v2 nb => ?_
  have hb4 := nb.bk
  have ge5 : w.heap.size ≤ g1 := by rw [← nb.at_]; exact (Ext.refl w).size
  have e3 := nb.ext
  clear nb
  have hw1 : Ext w v2 := (Ext.refl w).trans e3
  refine wl_alloc rfl (z := .agg #[.slice none 0 0, .slice none 0 0, .int .u64 0, .int .i64 0, .int .i64 0]) (vs := [.slice none 0 0, .slice none 0 0, .int .u64 0, .int .i64 0, .int .i64 0]) (fun _ => by kernel_rfl) rfl (by decide) fun g6 v7 nb => ?_
  have hb9 := nb.bk
  have ge10 : w.heap.size ≤ g6 := by rw [← nb.at_]; exact hw1.size
  have q11 : g1 < g6 := by rw [← nb.at_]; exact hb4.lt
  have e8 := nb.ext
  clear nb
  have hw2 : Ext w v7 := hw1.trans e8
  refine wl_nil ?_
  refine eo_then ?_
  refine cw_seq ?_
  refine cw_region ?_
  refine wl_alloc rfl (z := .agg #[.slice none 0 0, .slice none 0 0, .int .u64 0, .int .i64 0, .int .i64 0]) (vs := [.slice none 0 0, .slice none 0 0, .int .u64 0, .int .i64 0, .int .i64 0]) (fun _ => by kernel_rfl) rfl (by decide) fun g12 v13 nb => ?_
  have hb15 := nb.bk
  have ge16 : w.heap.size ≤ g12 := by rw [← nb.at_]; exact hw2.size
  have q17 : g6 < g12 := by rw [← nb.at_]; exact hb9.lt
  have e14 := nb.ext
  clear nb
  have hw3 : Ext w v13 := hw2.trans e14
  refine wl_nil ?_
  refine eo_then ?_
  refine cw_seq ?_
  refine cw_seq ?_
  refine cw_region ?_
  refine wl_pure rfl rfl (v := .pointer (some ⟨g1, 0, none⟩)) (by decide) (by kernel_rfl) ?_
  refine wl_load rfl rfl (load_cell (fun _ => by kernel_rfl) (hb4.ext (e8.trans e14)) rfl) (by decide) ?_
  refine wl_nil ?_
  refine eo_then ?_
  refine cw_block ?_
  refine cw_seq ?_
  refine cw_region ?_
  refine wl_cmp rfl rfl rfl true (by decide) (by decide) ?_
  refine wl_assign rfl rfl (by decide) ?_
  refine wl_nil ?_
  refine eo_then ?_
  refine cw_true rfl ?_
  refine cw_region ?_
  refine wl_pure rfl rfl (v := .pointer (some ⟨g1, 1, none⟩)) (by decide) (by kernel_rfl) ?_
  refine wl_load rfl rfl (load_cell (fun _ => by kernel_rfl) (hb4.ext (e8.trans e14)) rfl) (by decide) ?_
  refine wl_pure rfl rfl (v := .pointer (some ⟨g1, 3, none⟩)) (by decide) (by kernel_rfl) ?_
  refine wl_load rfl rfl (load_cell (fun _ => by kernel_rfl) (hb4.ext (e8.trans e14)) rfl) (by decide) ?_
  refine wl_call rfl rfl (vs := [.slice A n cap, .int .u64 ((v : Nat) : Int)]) (by kernel_rfl) (by decide) (j3_Word hw3.size (hx.ext hw3) (Nat.le_trans hl (by decide)) hv) ?_
  rintro _ v18 ⟨xr20, rfl, r20, e19⟩
  refine ret_intro ?_
  have hw4 : Ext w v18 := hw3.trans e19
  obtain ⟨a21_0, a21_1, a21_2, rfl, r21_0, r21_1, r21_2⟩ := r20
  obtain ⟨A22, n22, c22, rfl, j22, o22⟩ := r21_0
  obtain rfl := r21_1
  obtain rfl := r21_2
  refine wl_move rfl rfl (by decide) ?_
  refine wl_pure rfl rfl (v := .slice A22 n22 c22) (by decide) (by kernel_rfl) ?_
  refine wl_pure rfl rfl (v := .int .u64 ((rm3 X v : Nat) : Int)) (by decide) (by kernel_rfl) ?_
  refine wl_pure rfl rfl (v := .int .i64 (er3 v)) (by decide) (by kernel_rfl) ?_
  refine wl_pure rfl rfl (v := .pointer (some ⟨g12, 0, none⟩)) (by decide) (by kernel_rfl) ?_
  have hb24 := (hb15.ext e19)
  refine wl_stored1 rfl rfl rfl (fun _ => by kernel_rfl) rfl hb24 (Nat.le_of_ble_eq_true rfl) rfl [.slice A22 n22 c22, .slice none 0 0, .int .u64 0, .int .i64 0, .int .i64 0] rfl fun v23 hb25 u26 hs27 => ?_
  have hw5 : Ext w v23 := u26.ext hw4 ge16
  refine wl_pure rfl rfl (v := .pointer (some ⟨g12, 2, none⟩)) (by decide) (by kernel_rfl) ?_
  have hb29 := hb25
  refine wl_stored1 rfl rfl rfl (fun _ => by kernel_rfl) rfl hb29 (Nat.le_of_ble_eq_true rfl) rfl [.slice A22 n22 c22, .slice none 0 0, .int .u64 ((rm3 X v : Nat) : Int), .int .i64 0, .int .i64 0] rfl fun v28 hb30 u31 hs32 => ?_
  have hw6 : Ext w v28 := u31.ext hw5 ge16
  refine wl_pure rfl rfl (v := .pointer (some ⟨g12, 4, none⟩)) (by decide) (by kernel_rfl) ?_
  have hb34 := hb30
  refine wl_stored1 rfl rfl rfl (fun _ => by kernel_rfl) rfl hb34 (Nat.le_of_ble_eq_true rfl) rfl [.slice A22 n22 c22, .slice none 0 0, .int .u64 ((rm3 X v : Nat) : Int), .int .i64 0, .int .i64 (er3 v)] rfl fun v33 hb35 u36 hs37 => ?_
  have hw7 : Ext w v33 := u36.ext hw6 ge16
  refine wl_nil ?_
  refine eo_block_normal ?_
  refine eo_then ?_
  refine cw_seq ?_
  refine cw_region ?_
  refine wl_load rfl rfl (load_agg aggAns3 hb35 [.slice A22 n22 c22, .slice none 0 0, .int .u64 ((rm3 X v : Nat) : Int), .int .i64 0, .int .i64 (er3 v)] rfl (Nat.le_of_ble_eq_true rfl) rfl) (by decide) ?_
  have hb39 := ((((hb9.ext (e14.trans e19)).updN u26 (by omega)).updN u31 (by omega)).updN u36 (by omega))
  refine wl_stored rfl rfl rfl aggAns3 rfl hb39 (Nat.le_of_ble_eq_true rfl) rfl [.slice A22 n22 c22, .slice none 0 0, .int .u64 ((rm3 X v : Nat) : Int), .int .i64 0, .int .i64 (er3 v)] rfl fun v38 hb40 u41 hs42 => ?_
  have hw8 : Ext w v38 := u41.ext hw7 ge10
  refine wl_nil ?_
  refine eo_then ?_
  refine cw_ret ?_
  refine eo_ret [.agg #[.slice A22 n22 c22, .slice none 0 0, .int .u64 ((rm3 X v : Nat) : Int), .int .i64 0, .int .i64 (er3 v)]] rfl ⟨⟨_, rfl, load_agg aggAns3 hb40 [.slice A22 n22 c22, .slice none 0 0, .int .u64 ((rm3 X v : Nat) : Int), .int .i64 0, .int .i64 (er3 v)] rfl (Nat.le_of_ble_eq_true rfl) rfl⟩, trivial⟩ ?_
  have hs : spec3 1 kk X Y v = (⟨X / v, 0, rm3 X v, 0, er3 v⟩ : Ans3) := rfl
  rw [hs]
  exact ⟨_, rfl, ⟨_, _, rfl, ⟨_, _, _, rfl, j22, ((((o22.updT hb24 (by decide) u26).updT hb29 (by decide) u31).updT hb34 (by decide) u36).updT hb39 (by decide) u41).mono hb⟩, wr_nil3, (len_d3 hXl), (show (wd 0).length ≤ 68719476735 by decide)⟩, hw8⟩
set_option maxHeartbeats 4000000 in
theorem g_plays3_2 {w : World} {b : Nat} (hb : b ≤ w.heap.size) {A : Option Addr} {n cap X : Nat} (hx : Wi w A n cap X) (hl : n ≤ 1048576) {B : Option Addr} {n' cap' Y : Nat} (hy : Wi w B n' cap' Y) (hl' : n' ≤ 1048576) {v : Nat} {kk : Int} (hv : v ≤ 18446744073709551615) (hkk : kk ≤ 9223372036854775807) :
    Calls Try.prog 32 #[.agg #[.int .i64 2, .slice A n cap, .slice B n' cap', .int .u64 ((v : Nat) : Int), .int .i64 kk]] w (Gv w (AnsR3 b (spec3 2 kk X Y v))) := by
  have hXl : (wd X).length ≤ 68719476735 := Nat.le_trans hx.len (Nat.le_trans hl (by decide))
  have hYl : (wd Y).length ≤ 68719476735 := Nat.le_trans hy.len (Nat.le_trans hl' (by decide))
  refine sx_enter Try.func32 rfl (n := 91) rfl (Nat.le_of_ble_eq_true rfl) (args := [.agg #[.int .i64 2, .slice A n cap, .slice B n' cap', .int .u64 ((v : Nat) : Int), .int .i64 kk]]) ?_
  refine cw_keep [(0, .agg #[.int .i64 2, .slice A n cap, .slice B n' cap', .int .u64 ((v : Nat) : Int), .int .i64 kk])] ⟨rfl, trivial⟩ ?_
  refine cw_seq ?_
  refine cw_region ?_
  refine wl_box rfl rfl (vs := [.int .i64 2, .slice A n cap, .slice B n' cap', .int .u64 ((v : Nat) : Int), .int .i64 kk]) rfl (by decide) fun g1 v2 nb => ?_
  have hb4 := nb.bk
  have ge5 : w.heap.size ≤ g1 := by rw [← nb.at_]; exact (Ext.refl w).size
  have e3 := nb.ext
  clear nb
  have hw1 : Ext w v2 := (Ext.refl w).trans e3
  refine wl_alloc rfl (z := .agg #[.slice none 0 0, .slice none 0 0, .int .u64 0, .int .i64 0, .int .i64 0]) (vs := [.slice none 0 0, .slice none 0 0, .int .u64 0, .int .i64 0, .int .i64 0]) (fun _ => by kernel_rfl) rfl (by decide) fun g6 v7 nb => ?_
  have hb9 := nb.bk
  have ge10 : w.heap.size ≤ g6 := by rw [← nb.at_]; exact hw1.size
  have q11 : g1 < g6 := by rw [← nb.at_]; exact hb4.lt
  have e8 := nb.ext
  clear nb
  have hw2 : Ext w v7 := hw1.trans e8
  refine wl_nil ?_
  refine eo_then ?_
  refine cw_seq ?_
  refine cw_region ?_
  refine wl_alloc rfl (z := .agg #[.slice none 0 0, .slice none 0 0, .int .u64 0, .int .i64 0, .int .i64 0]) (vs := [.slice none 0 0, .slice none 0 0, .int .u64 0, .int .i64 0, .int .i64 0]) (fun _ => by kernel_rfl) rfl (by decide) fun g12 v13 nb => ?_
  have hb15 := nb.bk
  have ge16 : w.heap.size ≤ g12 := by rw [← nb.at_]; exact hw2.size
  have q17 : g6 < g12 := by rw [← nb.at_]; exact hb9.lt
  have e14 := nb.ext
  clear nb
  have hw3 : Ext w v13 := hw2.trans e14
  refine wl_nil ?_
  refine eo_then ?_
  refine cw_seq ?_
  refine cw_seq ?_
  refine cw_region ?_
  refine wl_pure rfl rfl (v := .pointer (some ⟨g1, 0, none⟩)) (by decide) (by kernel_rfl) ?_
  refine wl_load rfl rfl (load_cell (fun _ => by kernel_rfl) (hb4.ext (e8.trans e14)) rfl) (by decide) ?_
  refine wl_nil ?_
  refine eo_then ?_
  refine cw_block ?_
  refine cw_seq ?_
  refine cw_region ?_
  refine wl_cmp rfl rfl rfl false (by decide) (by decide) ?_
  refine wl_assign rfl rfl (by decide) ?_
  refine wl_nil ?_
  refine eo_then ?_
  refine cw_false rfl ?_
  refine cw_seq ?_
  refine cw_region ?_
  refine wl_cmp rfl rfl rfl true (by decide) (by decide) ?_
  refine wl_assign rfl rfl (by decide) ?_
  refine wl_nil ?_
  refine eo_then ?_
  refine cw_true rfl ?_
  refine cw_region ?_
  refine wl_pure rfl rfl (v := .pointer (some ⟨g1, 1, none⟩)) (by decide) (by kernel_rfl) ?_
  refine wl_load rfl rfl (load_cell (fun _ => by kernel_rfl) (hb4.ext (e8.trans e14)) rfl) (by decide) ?_
  refine wl_pure rfl rfl (v := .pointer (some ⟨g1, 2, none⟩)) (by decide) (by kernel_rfl) ?_
  refine wl_load rfl rfl (load_cell (fun _ => by kernel_rfl) (hb4.ext (e8.trans e14)) rfl) (by decide) ?_
  refine wl_call rfl rfl (vs := [.slice A n cap, .slice B n' cap']) (by kernel_rfl) (by decide) (j3_DivMod hw3.size (hx.ext hw3) (Nat.le_trans hl (by decide)) (hy.ext hw3) (Nat.le_trans hl' (by decide))) ?_
  rintro _ v18 ⟨xr20, rfl, r20, e19⟩
  refine ret_intro ?_
  have hw4 : Ext w v18 := hw3.trans e19
  obtain ⟨a21_0, a21_1, a21_2, rfl, r21_0, r21_1, r21_2⟩ := r20
  obtain ⟨A22, n22, c22, rfl, j22, o22⟩ := r21_0
  obtain ⟨A23, n23, c23, rfl, j23, o23⟩ := r21_1
  obtain rfl := r21_2
  refine wl_move rfl rfl (by decide) ?_
  refine wl_pure rfl rfl (v := .slice A22 n22 c22) (by decide) (by kernel_rfl) ?_
  refine wl_pure rfl rfl (v := .slice A23 n23 c23) (by decide) (by kernel_rfl) ?_
  refine wl_pure rfl rfl (v := .int .i64 (er3 Y)) (by decide) (by kernel_rfl) ?_
  refine wl_pure rfl rfl (v := .pointer (some ⟨g12, 0, none⟩)) (by decide) (by kernel_rfl) ?_
  have hb25 := (hb15.ext e19)
  refine wl_stored1 rfl rfl rfl (fun _ => by kernel_rfl) rfl hb25 (Nat.le_of_ble_eq_true rfl) rfl [.slice A22 n22 c22, .slice none 0 0, .int .u64 0, .int .i64 0, .int .i64 0] rfl fun v24 hb26 u27 hs28 => ?_
  have hw5 : Ext w v24 := u27.ext hw4 ge16
  refine wl_pure rfl rfl (v := .pointer (some ⟨g12, 1, none⟩)) (by decide) (by kernel_rfl) ?_
  have hb30 := hb26
  refine wl_stored1 rfl rfl rfl (fun _ => by kernel_rfl) rfl hb30 (Nat.le_of_ble_eq_true rfl) rfl [.slice A22 n22 c22, .slice A23 n23 c23, .int .u64 0, .int .i64 0, .int .i64 0] rfl fun v29 hb31 u32 hs33 => ?_
  have hw6 : Ext w v29 := u32.ext hw5 ge16
  refine wl_pure rfl rfl (v := .pointer (some ⟨g12, 4, none⟩)) (by decide) (by kernel_rfl) ?_
  have hb35 := hb31
  refine wl_stored1 rfl rfl rfl (fun _ => by kernel_rfl) rfl hb35 (Nat.le_of_ble_eq_true rfl) rfl [.slice A22 n22 c22, .slice A23 n23 c23, .int .u64 0, .int .i64 0, .int .i64 (er3 Y)] rfl fun v34 hb36 u37 hs38 => ?_
  have hw7 : Ext w v34 := u37.ext hw6 ge16
  refine wl_nil ?_
  refine eo_block_normal ?_
  refine eo_then ?_
  refine cw_seq ?_
  refine cw_region ?_
  refine wl_load rfl rfl (load_agg aggAns3 hb36 [.slice A22 n22 c22, .slice A23 n23 c23, .int .u64 0, .int .i64 0, .int .i64 (er3 Y)] rfl (Nat.le_of_ble_eq_true rfl) rfl) (by decide) ?_
  have hb40 := ((((hb9.ext (e14.trans e19)).updN u27 (by omega)).updN u32 (by omega)).updN u37 (by omega))
  refine wl_stored rfl rfl rfl aggAns3 rfl hb40 (Nat.le_of_ble_eq_true rfl) rfl [.slice A22 n22 c22, .slice A23 n23 c23, .int .u64 0, .int .i64 0, .int .i64 (er3 Y)] rfl fun v39 hb41 u42 hs43 => ?_
  have hw8 : Ext w v39 := u42.ext hw7 ge10
  refine wl_nil ?_
  refine eo_then ?_
  refine cw_ret ?_
  refine eo_ret [.agg #[.slice A22 n22 c22, .slice A23 n23 c23, .int .u64 0, .int .i64 0, .int .i64 (er3 Y)]] rfl ⟨⟨_, rfl, load_agg aggAns3 hb41 [.slice A22 n22 c22, .slice A23 n23 c23, .int .u64 0, .int .i64 0, .int .i64 (er3 Y)] rfl (Nat.le_of_ble_eq_true rfl) rfl⟩, trivial⟩ ?_
  have hs : spec3 2 kk X Y v = (⟨X / Y, rm3 X Y, 0, 0, er3 Y⟩ : Ans3) := rfl
  rw [hs]
  exact ⟨_, rfl, ⟨_, _, rfl, ⟨_, _, _, rfl, j22, ((((o22.updT hb25 (by decide) u27).updT hb30 (by decide) u32).updT hb35 (by decide) u37).updT hb40 (by decide) u42).mono hb⟩, ⟨_, _, _, rfl, j23, ((((o23.updT hb25 (by decide) u27).updT hb30 (by decide) u32).updT hb35 (by decide) u37).updT hb40 (by decide) u42).mono hb⟩, (len_d3 hXl), (len_rm3 hXl)⟩, hw8⟩
set_option maxHeartbeats 4000000 in
theorem g_plays3_3 {w : World} {b : Nat} (hb : b ≤ w.heap.size) {A : Option Addr} {n cap X : Nat} (hx : Wi w A n cap X) (hl : n ≤ 1048576) {B : Option Addr} {n' cap' Y : Nat} (hy : Wi w B n' cap' Y) (hl' : n' ≤ 1048576) {v : Nat} {kk : Int} (hv : v ≤ 18446744073709551615) (hkk : kk ≤ 9223372036854775807) :
    Calls Try.prog 32 #[.agg #[.int .i64 3, .slice A n cap, .slice B n' cap', .int .u64 ((v : Nat) : Int), .int .i64 kk]] w (Gv w (AnsR3 b (spec3 3 kk X Y v))) := by
  have hXl : (wd X).length ≤ 68719476735 := Nat.le_trans hx.len (Nat.le_trans hl (by decide))
  have hYl : (wd Y).length ≤ 68719476735 := Nat.le_trans hy.len (Nat.le_trans hl' (by decide))
  refine sx_enter Try.func32 rfl (n := 91) rfl (Nat.le_of_ble_eq_true rfl) (args := [.agg #[.int .i64 3, .slice A n cap, .slice B n' cap', .int .u64 ((v : Nat) : Int), .int .i64 kk]]) ?_
  refine cw_keep [(0, .agg #[.int .i64 3, .slice A n cap, .slice B n' cap', .int .u64 ((v : Nat) : Int), .int .i64 kk])] ⟨rfl, trivial⟩ ?_
  refine cw_seq ?_
  refine cw_region ?_
  refine wl_box rfl rfl (vs := [.int .i64 3, .slice A n cap, .slice B n' cap', .int .u64 ((v : Nat) : Int), .int .i64 kk]) rfl (by decide) fun g1 v2 nb => ?_
  have hb4 := nb.bk
  have ge5 : w.heap.size ≤ g1 := by rw [← nb.at_]; exact (Ext.refl w).size
  have e3 := nb.ext
  clear nb
  have hw1 : Ext w v2 := (Ext.refl w).trans e3
  refine wl_alloc rfl (z := .agg #[.slice none 0 0, .slice none 0 0, .int .u64 0, .int .i64 0, .int .i64 0]) (vs := [.slice none 0 0, .slice none 0 0, .int .u64 0, .int .i64 0, .int .i64 0]) (fun _ => by kernel_rfl) rfl (by decide) fun g6 v7 nb => ?_
  have hb9 := nb.bk
  have ge10 : w.heap.size ≤ g6 := by rw [← nb.at_]; exact hw1.size
  have q11 : g1 < g6 := by rw [← nb.at_]; exact hb4.lt
  have e8 := nb.ext
  clear nb
  have hw2 : Ext w v7 := hw1.trans e8
  refine wl_nil ?_
  refine eo_then ?_
  refine cw_seq ?_
  refine cw_region ?_
  refine wl_alloc rfl (z := .agg #[.slice none 0 0, .slice none 0 0, .int .u64 0, .int .i64 0, .int .i64 0]) (vs := [.slice none 0 0, .slice none 0 0, .int .u64 0, .int .i64 0, .int .i64 0]) (fun _ => by kernel_rfl) rfl (by decide) fun g12 v13 nb => ?_
  have hb15 := nb.bk
  have ge16 : w.heap.size ≤ g12 := by rw [← nb.at_]; exact hw2.size
  have q17 : g6 < g12 := by rw [← nb.at_]; exact hb9.lt
  have e14 := nb.ext
  clear nb
  have hw3 : Ext w v13 := hw2.trans e14
  refine wl_nil ?_
  refine eo_then ?_
  refine cw_seq ?_
  refine cw_seq ?_
  refine cw_region ?_
  refine wl_pure rfl rfl (v := .pointer (some ⟨g1, 0, none⟩)) (by decide) (by kernel_rfl) ?_
  refine wl_load rfl rfl (load_cell (fun _ => by kernel_rfl) (hb4.ext (e8.trans e14)) rfl) (by decide) ?_
  refine wl_nil ?_
  refine eo_then ?_
  refine cw_block ?_
  refine cw_seq ?_
  refine cw_region ?_
  refine wl_cmp rfl rfl rfl false (by decide) (by decide) ?_
  refine wl_assign rfl rfl (by decide) ?_
  refine wl_nil ?_
  refine eo_then ?_
  refine cw_false rfl ?_
  refine cw_seq ?_
  refine cw_region ?_
  refine wl_cmp rfl rfl rfl false (by decide) (by decide) ?_
  refine wl_assign rfl rfl (by decide) ?_
  refine wl_nil ?_
  refine eo_then ?_
  refine cw_false rfl ?_
  refine cw_seq ?_
  refine cw_region ?_
  refine wl_cmp rfl rfl rfl true (by decide) (by decide) ?_
  refine wl_assign rfl rfl (by decide) ?_
  refine wl_nil ?_
  refine eo_then ?_
  refine cw_true rfl ?_
  refine cw_region ?_
  refine wl_pure rfl rfl (v := .pointer (some ⟨g1, 1, none⟩)) (by decide) (by kernel_rfl) ?_
  refine wl_load rfl rfl (load_cell (fun _ => by kernel_rfl) (hb4.ext (e8.trans e14)) rfl) (by decide) ?_
  refine wl_pure rfl rfl (v := .pointer (some ⟨g1, 2, none⟩)) (by decide) (by kernel_rfl) ?_
  refine wl_load rfl rfl (load_cell (fun _ => by kernel_rfl) (hb4.ext (e8.trans e14)) rfl) (by decide) ?_
  refine wl_call rfl rfl (vs := [.slice A n cap, .slice B n' cap']) (by kernel_rfl) (by decide) (j3_Exact hw3.size (hx.ext hw3) (Nat.le_trans hl (by decide)) (hy.ext hw3) (Nat.le_trans hl' (by decide))) ?_
  rintro _ v18 ⟨xr20, rfl, r20, e19⟩
  refine ret_intro ?_
  have hw4 : Ext w v18 := hw3.trans e19
  obtain ⟨a21_0, a21_1, rfl, r21_0, r21_1⟩ := r20
  obtain ⟨A22, n22, c22, rfl, j22, o22⟩ := r21_0
  obtain rfl := r21_1
  refine wl_move rfl rfl (by decide) ?_
  refine wl_pure rfl rfl (v := .slice A22 n22 c22) (by decide) (by kernel_rfl) ?_
  refine wl_pure rfl rfl (v := .int .i64 (xe3 X Y)) (by decide) (by kernel_rfl) ?_
  refine wl_pure rfl rfl (v := .pointer (some ⟨g12, 0, none⟩)) (by decide) (by kernel_rfl) ?_
  have hb24 := (hb15.ext e19)
  refine wl_stored1 rfl rfl rfl (fun _ => by kernel_rfl) rfl hb24 (Nat.le_of_ble_eq_true rfl) rfl [.slice A22 n22 c22, .slice none 0 0, .int .u64 0, .int .i64 0, .int .i64 0] rfl fun v23 hb25 u26 hs27 => ?_
  have hw5 : Ext w v23 := u26.ext hw4 ge16
  refine wl_pure rfl rfl (v := .pointer (some ⟨g12, 4, none⟩)) (by decide) (by kernel_rfl) ?_
  have hb29 := hb25
  refine wl_stored1 rfl rfl rfl (fun _ => by kernel_rfl) rfl hb29 (Nat.le_of_ble_eq_true rfl) rfl [.slice A22 n22 c22, .slice none 0 0, .int .u64 0, .int .i64 0, .int .i64 (xe3 X Y)] rfl fun v28 hb30 u31 hs32 => ?_
  have hw6 : Ext w v28 := u31.ext hw5 ge16
  refine wl_nil ?_
  refine eo_block_normal ?_
  refine eo_then ?_
  refine cw_seq ?_
  refine cw_region ?_
  refine wl_load rfl rfl (load_agg aggAns3 hb30 [.slice A22 n22 c22, .slice none 0 0, .int .u64 0, .int .i64 0, .int .i64 (xe3 X Y)] rfl (Nat.le_of_ble_eq_true rfl) rfl) (by decide) ?_
  have hb34 := (((hb9.ext (e14.trans e19)).updN u26 (by omega)).updN u31 (by omega))
  refine wl_stored rfl rfl rfl aggAns3 rfl hb34 (Nat.le_of_ble_eq_true rfl) rfl [.slice A22 n22 c22, .slice none 0 0, .int .u64 0, .int .i64 0, .int .i64 (xe3 X Y)] rfl fun v33 hb35 u36 hs37 => ?_
  have hw7 : Ext w v33 := u36.ext hw6 ge10
  refine wl_nil ?_
  refine eo_then ?_
  refine cw_ret ?_
  refine eo_ret [.agg #[.slice A22 n22 c22, .slice none 0 0, .int .u64 0, .int .i64 0, .int .i64 (xe3 X Y)]] rfl ⟨⟨_, rfl, load_agg aggAns3 hb35 [.slice A22 n22 c22, .slice none 0 0, .int .u64 0, .int .i64 0, .int .i64 (xe3 X Y)] rfl (Nat.le_of_ble_eq_true rfl) rfl⟩, trivial⟩ ?_
  have hs : spec3 3 kk X Y v = (⟨xt3 X Y, 0, 0, 0, xe3 X Y⟩ : Ans3) := rfl
  rw [hs]
  exact ⟨_, rfl, ⟨_, _, rfl, ⟨_, _, _, rfl, j22, (((o22.updT hb24 (by decide) u26).updT hb29 (by decide) u31).updT hb34 (by decide) u36).mono hb⟩, wr_nil3, (len_xt3 hXl), (show (wd 0).length ≤ 68719476735 by decide)⟩, hw7⟩
set_option maxHeartbeats 4000000 in
theorem g_plays3_4 {w : World} {b : Nat} (hb : b ≤ w.heap.size) {A : Option Addr} {n cap X : Nat} (hx : Wi w A n cap X) (hl : n ≤ 1048576) {B : Option Addr} {n' cap' Y : Nat} (hy : Wi w B n' cap' Y) (hl' : n' ≤ 1048576) {v : Nat} {kk : Int} (hv : v ≤ 18446744073709551615) (hkk : kk ≤ 9223372036854775807) :
    Calls Try.prog 32 #[.agg #[.int .i64 4, .slice A n cap, .slice B n' cap', .int .u64 ((v : Nat) : Int), .int .i64 kk]] w (Gv w (AnsR3 b (spec3 4 kk X Y v))) := by
  have hXl : (wd X).length ≤ 68719476735 := Nat.le_trans hx.len (Nat.le_trans hl (by decide))
  have hYl : (wd Y).length ≤ 68719476735 := Nat.le_trans hy.len (Nat.le_trans hl' (by decide))
  refine sx_enter Try.func32 rfl (n := 91) rfl (Nat.le_of_ble_eq_true rfl) (args := [.agg #[.int .i64 4, .slice A n cap, .slice B n' cap', .int .u64 ((v : Nat) : Int), .int .i64 kk]]) ?_
  refine cw_keep [(0, .agg #[.int .i64 4, .slice A n cap, .slice B n' cap', .int .u64 ((v : Nat) : Int), .int .i64 kk])] ⟨rfl, trivial⟩ ?_
  refine cw_seq ?_
  refine cw_region ?_
  refine wl_box rfl rfl (vs := [.int .i64 4, .slice A n cap, .slice B n' cap', .int .u64 ((v : Nat) : Int), .int .i64 kk]) rfl (by decide) fun g1 v2 nb => ?_
  have hb4 := nb.bk
  have ge5 : w.heap.size ≤ g1 := by rw [← nb.at_]; exact (Ext.refl w).size
  have e3 := nb.ext
  clear nb
  have hw1 : Ext w v2 := (Ext.refl w).trans e3
  refine wl_alloc rfl (z := .agg #[.slice none 0 0, .slice none 0 0, .int .u64 0, .int .i64 0, .int .i64 0]) (vs := [.slice none 0 0, .slice none 0 0, .int .u64 0, .int .i64 0, .int .i64 0]) (fun _ => by kernel_rfl) rfl (by decide) fun g6 v7 nb => ?_
  have hb9 := nb.bk
  have ge10 : w.heap.size ≤ g6 := by rw [← nb.at_]; exact hw1.size
  have q11 : g1 < g6 := by rw [← nb.at_]; exact hb4.lt
  have e8 := nb.ext
  clear nb
  have hw2 : Ext w v7 := hw1.trans e8
  refine wl_nil ?_
  refine eo_then ?_
  refine cw_seq ?_
  refine cw_region ?_
  refine wl_alloc rfl (z := .agg #[.slice none 0 0, .slice none 0 0, .int .u64 0, .int .i64 0, .int .i64 0]) (vs := [.slice none 0 0, .slice none 0 0, .int .u64 0, .int .i64 0, .int .i64 0]) (fun _ => by kernel_rfl) rfl (by decide) fun g12 v13 nb => ?_
  have hb15 := nb.bk
  have ge16 : w.heap.size ≤ g12 := by rw [← nb.at_]; exact hw2.size
  have q17 : g6 < g12 := by rw [← nb.at_]; exact hb9.lt
  have e14 := nb.ext
  clear nb
  have hw3 : Ext w v13 := hw2.trans e14
  refine wl_nil ?_
  refine eo_then ?_
  refine cw_seq ?_
  refine cw_seq ?_
  refine cw_region ?_
  refine wl_pure rfl rfl (v := .pointer (some ⟨g1, 0, none⟩)) (by decide) (by kernel_rfl) ?_
  refine wl_load rfl rfl (load_cell (fun _ => by kernel_rfl) (hb4.ext (e8.trans e14)) rfl) (by decide) ?_
  refine wl_nil ?_
  refine eo_then ?_
  refine cw_block ?_
  refine cw_seq ?_
  refine cw_region ?_
  refine wl_cmp rfl rfl rfl false (by decide) (by decide) ?_
  refine wl_assign rfl rfl (by decide) ?_
  refine wl_nil ?_
  refine eo_then ?_
  refine cw_false rfl ?_
  refine cw_seq ?_
  refine cw_region ?_
  refine wl_cmp rfl rfl rfl false (by decide) (by decide) ?_
  refine wl_assign rfl rfl (by decide) ?_
  refine wl_nil ?_
  refine eo_then ?_
  refine cw_false rfl ?_
  refine cw_seq ?_
  refine cw_region ?_
  refine wl_cmp rfl rfl rfl false (by decide) (by decide) ?_
  refine wl_assign rfl rfl (by decide) ?_
  refine wl_nil ?_
  refine eo_then ?_
  refine cw_false rfl ?_
  refine cw_seq ?_
  refine cw_region ?_
  refine wl_cmp rfl rfl rfl true (by decide) (by decide) ?_
  refine wl_assign rfl rfl (by decide) ?_
  refine wl_nil ?_
  refine eo_then ?_
  refine cw_true rfl ?_
  refine cw_region ?_
  refine wl_pure rfl rfl (v := .pointer (some ⟨g1, 1, none⟩)) (by decide) (by kernel_rfl) ?_
  refine wl_load rfl rfl (load_cell (fun _ => by kernel_rfl) (hb4.ext (e8.trans e14)) rfl) (by decide) ?_
  refine wl_pure rfl rfl (v := .pointer (some ⟨g1, 2, none⟩)) (by decide) (by kernel_rfl) ?_
  refine wl_load rfl rfl (load_cell (fun _ => by kernel_rfl) (hb4.ext (e8.trans e14)) rfl) (by decide) ?_
  refine wl_call rfl rfl (vs := [.slice A n cap, .slice B n' cap']) (by kernel_rfl) (by decide) (j3_Gcd hw3.size (hx.ext hw3) (Nat.le_trans hl (by decide)) (hy.ext hw3) (Nat.le_trans hl' (by decide))) ?_
  rintro _ v18 ⟨xr20, rfl, r20, e19⟩
  refine ret_intro ?_
  have hw4 : Ext w v18 := hw3.trans e19
  obtain ⟨A21, n21, c21, rfl, j21, o21⟩ := r20
  refine wl_pure rfl rfl (v := .pointer (some ⟨g12, 0, none⟩)) (by decide) (by kernel_rfl) ?_
  have hb23 := (hb15.ext e19)
  refine wl_stored1 rfl rfl rfl (fun _ => by kernel_rfl) rfl hb23 (Nat.le_of_ble_eq_true rfl) rfl [.slice A21 n21 c21, .slice none 0 0, .int .u64 0, .int .i64 0, .int .i64 0] rfl fun v22 hb24 u25 hs26 => ?_
  have hw5 : Ext w v22 := u25.ext hw4 ge16
  refine wl_nil ?_
  refine eo_block_normal ?_
  refine eo_then ?_
  refine cw_seq ?_
  refine cw_region ?_
  refine wl_load rfl rfl (load_agg aggAns3 hb24 [.slice A21 n21 c21, .slice none 0 0, .int .u64 0, .int .i64 0, .int .i64 0] rfl (Nat.le_of_ble_eq_true rfl) rfl) (by decide) ?_
  have hb28 := ((hb9.ext (e14.trans e19)).updN u25 (by omega))
  refine wl_stored rfl rfl rfl aggAns3 rfl hb28 (Nat.le_of_ble_eq_true rfl) rfl [.slice A21 n21 c21, .slice none 0 0, .int .u64 0, .int .i64 0, .int .i64 0] rfl fun v27 hb29 u30 hs31 => ?_
  have hw6 : Ext w v27 := u30.ext hw5 ge10
  refine wl_nil ?_
  refine eo_then ?_
  refine cw_ret ?_
  refine eo_ret [.agg #[.slice A21 n21 c21, .slice none 0 0, .int .u64 0, .int .i64 0, .int .i64 0]] rfl ⟨⟨_, rfl, load_agg aggAns3 hb29 [.slice A21 n21 c21, .slice none 0 0, .int .u64 0, .int .i64 0, .int .i64 0] rfl (Nat.le_of_ble_eq_true rfl) rfl⟩, trivial⟩ ?_
  have hs : spec3 4 kk X Y v = (⟨Nat.gcd X Y, 0, 0, 0, 0⟩ : Ans3) := by unfold spec3; rw [if_neg (by decide), if_neg (by decide), if_neg (by decide), if_pos rfl]
  rw [hs]
  exact ⟨_, rfl, ⟨_, _, rfl, ⟨_, _, _, rfl, j21, ((o21.updT hb23 (by decide) u25).updT hb28 (by decide) u30).mono hb⟩, wr_nil3, (len_gcd3 hXl hYl), (show (wd 0).length ≤ 68719476735 by decide)⟩, hw6⟩
set_option maxHeartbeats 4000000 in
theorem g_plays3_5 {w : World} {b : Nat} (hb : b ≤ w.heap.size) {A : Option Addr} {n cap X : Nat} (hx : Wi w A n cap X) (hl : n ≤ 1048576) {B : Option Addr} {n' cap' Y : Nat} (hy : Wi w B n' cap' Y) (hl' : n' ≤ 1048576) {v : Nat} {kk : Int} (hv : v ≤ 18446744073709551615) (hkk : kk ≤ 9223372036854775807) :
    Calls Try.prog 32 #[.agg #[.int .i64 5, .slice A n cap, .slice B n' cap', .int .u64 ((v : Nat) : Int), .int .i64 kk]] w (Gv w (AnsR3 b (spec3 5 kk X Y v))) := by
  have hXl : (wd X).length ≤ 68719476735 := Nat.le_trans hx.len (Nat.le_trans hl (by decide))
  have hYl : (wd Y).length ≤ 68719476735 := Nat.le_trans hy.len (Nat.le_trans hl' (by decide))
  refine sx_enter Try.func32 rfl (n := 91) rfl (Nat.le_of_ble_eq_true rfl) (args := [.agg #[.int .i64 5, .slice A n cap, .slice B n' cap', .int .u64 ((v : Nat) : Int), .int .i64 kk]]) ?_
  refine cw_keep [(0, .agg #[.int .i64 5, .slice A n cap, .slice B n' cap', .int .u64 ((v : Nat) : Int), .int .i64 kk])] ⟨rfl, trivial⟩ ?_
  refine cw_seq ?_
  refine cw_region ?_
  refine wl_box rfl rfl (vs := [.int .i64 5, .slice A n cap, .slice B n' cap', .int .u64 ((v : Nat) : Int), .int .i64 kk]) rfl (by decide) fun g1 v2 nb => ?_
  have hb4 := nb.bk
  have ge5 : w.heap.size ≤ g1 := by rw [← nb.at_]; exact (Ext.refl w).size
  have e3 := nb.ext
  clear nb
  have hw1 : Ext w v2 := (Ext.refl w).trans e3
  refine wl_alloc rfl (z := .agg #[.slice none 0 0, .slice none 0 0, .int .u64 0, .int .i64 0, .int .i64 0]) (vs := [.slice none 0 0, .slice none 0 0, .int .u64 0, .int .i64 0, .int .i64 0]) (fun _ => by kernel_rfl) rfl (by decide) fun g6 v7 nb => ?_
  have hb9 := nb.bk
  have ge10 : w.heap.size ≤ g6 := by rw [← nb.at_]; exact hw1.size
  have q11 : g1 < g6 := by rw [← nb.at_]; exact hb4.lt
  have e8 := nb.ext
  clear nb
  have hw2 : Ext w v7 := hw1.trans e8
  refine wl_nil ?_
  refine eo_then ?_
  refine cw_seq ?_
  refine cw_region ?_
  refine wl_alloc rfl (z := .agg #[.slice none 0 0, .slice none 0 0, .int .u64 0, .int .i64 0, .int .i64 0]) (vs := [.slice none 0 0, .slice none 0 0, .int .u64 0, .int .i64 0, .int .i64 0]) (fun _ => by kernel_rfl) rfl (by decide) fun g12 v13 nb => ?_
  have hb15 := nb.bk
  have ge16 : w.heap.size ≤ g12 := by rw [← nb.at_]; exact hw2.size
  have q17 : g6 < g12 := by rw [← nb.at_]; exact hb9.lt
  have e14 := nb.ext
  clear nb
  have hw3 : Ext w v13 := hw2.trans e14
  refine wl_nil ?_
  refine eo_then ?_
  refine cw_seq ?_
  refine cw_seq ?_
  refine cw_region ?_
  refine wl_pure rfl rfl (v := .pointer (some ⟨g1, 0, none⟩)) (by decide) (by kernel_rfl) ?_
  refine wl_load rfl rfl (load_cell (fun _ => by kernel_rfl) (hb4.ext (e8.trans e14)) rfl) (by decide) ?_
  refine wl_nil ?_
  refine eo_then ?_
  refine cw_block ?_
  refine cw_seq ?_
  refine cw_region ?_
  refine wl_cmp rfl rfl rfl false (by decide) (by decide) ?_
  refine wl_assign rfl rfl (by decide) ?_
  refine wl_nil ?_
  refine eo_then ?_
  refine cw_false rfl ?_
  refine cw_seq ?_
  refine cw_region ?_
  refine wl_cmp rfl rfl rfl false (by decide) (by decide) ?_
  refine wl_assign rfl rfl (by decide) ?_
  refine wl_nil ?_
  refine eo_then ?_
  refine cw_false rfl ?_
  refine cw_seq ?_
  refine cw_region ?_
  refine wl_cmp rfl rfl rfl false (by decide) (by decide) ?_
  refine wl_assign rfl rfl (by decide) ?_
  refine wl_nil ?_
  refine eo_then ?_
  refine cw_false rfl ?_
  refine cw_seq ?_
  refine cw_region ?_
  refine wl_cmp rfl rfl rfl false (by decide) (by decide) ?_
  refine wl_assign rfl rfl (by decide) ?_
  refine wl_nil ?_
  refine eo_then ?_
  refine cw_false rfl ?_
  refine cw_seq ?_
  refine cw_region ?_
  refine wl_cmp rfl rfl rfl true (by decide) (by decide) ?_
  refine wl_assign rfl rfl (by decide) ?_
  refine wl_nil ?_
  refine eo_then ?_
  refine cw_true rfl ?_
  refine cw_region ?_
  refine wl_pure rfl rfl (v := .pointer (some ⟨g1, 1, none⟩)) (by decide) (by kernel_rfl) ?_
  refine wl_load rfl rfl (load_cell (fun _ => by kernel_rfl) (hb4.ext (e8.trans e14)) rfl) (by decide) ?_
  refine wl_call rfl rfl (vs := [.slice A n cap]) (by kernel_rfl) (by decide) (j3_Sqrt hw3.size (hx.ext hw3) (Nat.le_trans hl (by decide))) ?_
  rintro _ v18 ⟨xr20, rfl, r20, e19⟩
  refine ret_intro ?_
  have hw4 : Ext w v18 := hw3.trans e19
  obtain ⟨a21_0, a21_1, rfl, r21_0, r21_1⟩ := r20
  obtain ⟨A22, n22, c22, rfl, j22, o22⟩ := r21_0
  obtain ⟨A23, n23, c23, rfl, j23, o23⟩ := r21_1
  refine wl_move rfl rfl (by decide) ?_
  refine wl_pure rfl rfl (v := .slice A22 n22 c22) (by decide) (by kernel_rfl) ?_
  refine wl_pure rfl rfl (v := .slice A23 n23 c23) (by decide) (by kernel_rfl) ?_
  refine wl_pure rfl rfl (v := .pointer (some ⟨g12, 0, none⟩)) (by decide) (by kernel_rfl) ?_
  have hb25 := (hb15.ext e19)
  refine wl_stored1 rfl rfl rfl (fun _ => by kernel_rfl) rfl hb25 (Nat.le_of_ble_eq_true rfl) rfl [.slice A22 n22 c22, .slice none 0 0, .int .u64 0, .int .i64 0, .int .i64 0] rfl fun v24 hb26 u27 hs28 => ?_
  have hw5 : Ext w v24 := u27.ext hw4 ge16
  refine wl_pure rfl rfl (v := .pointer (some ⟨g12, 1, none⟩)) (by decide) (by kernel_rfl) ?_
  have hb30 := hb26
  refine wl_stored1 rfl rfl rfl (fun _ => by kernel_rfl) rfl hb30 (Nat.le_of_ble_eq_true rfl) rfl [.slice A22 n22 c22, .slice A23 n23 c23, .int .u64 0, .int .i64 0, .int .i64 0] rfl fun v29 hb31 u32 hs33 => ?_
  have hw6 : Ext w v29 := u32.ext hw5 ge16
  refine wl_nil ?_
  refine eo_block_normal ?_
  refine eo_then ?_
  refine cw_seq ?_
  refine cw_region ?_
  refine wl_load rfl rfl (load_agg aggAns3 hb31 [.slice A22 n22 c22, .slice A23 n23 c23, .int .u64 0, .int .i64 0, .int .i64 0] rfl (Nat.le_of_ble_eq_true rfl) rfl) (by decide) ?_
  have hb35 := (((hb9.ext (e14.trans e19)).updN u27 (by omega)).updN u32 (by omega))
  refine wl_stored rfl rfl rfl aggAns3 rfl hb35 (Nat.le_of_ble_eq_true rfl) rfl [.slice A22 n22 c22, .slice A23 n23 c23, .int .u64 0, .int .i64 0, .int .i64 0] rfl fun v34 hb36 u37 hs38 => ?_
  have hw7 : Ext w v34 := u37.ext hw6 ge10
  refine wl_nil ?_
  refine eo_then ?_
  refine cw_ret ?_
  refine eo_ret [.agg #[.slice A22 n22 c22, .slice A23 n23 c23, .int .u64 0, .int .i64 0, .int .i64 0]] rfl ⟨⟨_, rfl, load_agg aggAns3 hb36 [.slice A22 n22 c22, .slice A23 n23 c23, .int .u64 0, .int .i64 0, .int .i64 0] rfl (Nat.le_of_ble_eq_true rfl) rfl⟩, trivial⟩ ?_
  have hs : spec3 5 kk X Y v = (⟨rt3 X 2, X - rt3 X 2 * rt3 X 2, 0, 0, 0⟩ : Ans3) := by unfold spec3; rw [if_neg (by decide), if_neg (by decide), if_neg (by decide), if_neg (by decide), if_pos rfl]
  rw [hs]
  exact ⟨_, rfl, ⟨_, _, rfl, ⟨_, _, _, rfl, j22, (((o22.updT hb25 (by decide) u27).updT hb30 (by decide) u32).updT hb35 (by decide) u37).mono hb⟩, ⟨_, _, _, rfl, j23, (((o23.updT hb25 (by decide) u27).updT hb30 (by decide) u32).updT hb35 (by decide) u37).mono hb⟩, (len_rt3 (by decide) hXl), (len_sub3 hXl)⟩, hw7⟩
set_option maxHeartbeats 4000000 in
theorem g_plays3_6 {w : World} {b : Nat} (hb : b ≤ w.heap.size) {A : Option Addr} {n cap X : Nat} (hx : Wi w A n cap X) (hl : n ≤ 1048576) {B : Option Addr} {n' cap' Y : Nat} (hy : Wi w B n' cap' Y) (hl' : n' ≤ 1048576) {v : Nat} {kk : Int} (hv : v ≤ 18446744073709551615) (hkk : kk ≤ 9223372036854775807) :
    Calls Try.prog 32 #[.agg #[.int .i64 6, .slice A n cap, .slice B n' cap', .int .u64 ((v : Nat) : Int), .int .i64 kk]] w (Gv w (AnsR3 b (spec3 6 kk X Y v))) := by
  have hXl : (wd X).length ≤ 68719476735 := Nat.le_trans hx.len (Nat.le_trans hl (by decide))
  have hYl : (wd Y).length ≤ 68719476735 := Nat.le_trans hy.len (Nat.le_trans hl' (by decide))
  refine sx_enter Try.func32 rfl (n := 91) rfl (Nat.le_of_ble_eq_true rfl) (args := [.agg #[.int .i64 6, .slice A n cap, .slice B n' cap', .int .u64 ((v : Nat) : Int), .int .i64 kk]]) ?_
  refine cw_keep [(0, .agg #[.int .i64 6, .slice A n cap, .slice B n' cap', .int .u64 ((v : Nat) : Int), .int .i64 kk])] ⟨rfl, trivial⟩ ?_
  refine cw_seq ?_
  refine cw_region ?_
  refine wl_box rfl rfl (vs := [.int .i64 6, .slice A n cap, .slice B n' cap', .int .u64 ((v : Nat) : Int), .int .i64 kk]) rfl (by decide) fun g1 v2 nb => ?_
  have hb4 := nb.bk
  have ge5 : w.heap.size ≤ g1 := by rw [← nb.at_]; exact (Ext.refl w).size
  have e3 := nb.ext
  clear nb
  have hw1 : Ext w v2 := (Ext.refl w).trans e3
  refine wl_alloc rfl (z := .agg #[.slice none 0 0, .slice none 0 0, .int .u64 0, .int .i64 0, .int .i64 0]) (vs := [.slice none 0 0, .slice none 0 0, .int .u64 0, .int .i64 0, .int .i64 0]) (fun _ => by kernel_rfl) rfl (by decide) fun g6 v7 nb => ?_
  have hb9 := nb.bk
  have ge10 : w.heap.size ≤ g6 := by rw [← nb.at_]; exact hw1.size
  have q11 : g1 < g6 := by rw [← nb.at_]; exact hb4.lt
  have e8 := nb.ext
  clear nb
  have hw2 : Ext w v7 := hw1.trans e8
  refine wl_nil ?_
  refine eo_then ?_
  refine cw_seq ?_
  refine cw_region ?_
  refine wl_alloc rfl (z := .agg #[.slice none 0 0, .slice none 0 0, .int .u64 0, .int .i64 0, .int .i64 0]) (vs := [.slice none 0 0, .slice none 0 0, .int .u64 0, .int .i64 0, .int .i64 0]) (fun _ => by kernel_rfl) rfl (by decide) fun g12 v13 nb => ?_
  have hb15 := nb.bk
  have ge16 : w.heap.size ≤ g12 := by rw [← nb.at_]; exact hw2.size
  have q17 : g6 < g12 := by rw [← nb.at_]; exact hb9.lt
  have e14 := nb.ext
  clear nb
  have hw3 : Ext w v13 := hw2.trans e14
  refine wl_nil ?_
  refine eo_then ?_
  refine cw_seq ?_
  refine cw_seq ?_
  refine cw_region ?_
  refine wl_pure rfl rfl (v := .pointer (some ⟨g1, 0, none⟩)) (by decide) (by kernel_rfl) ?_
  refine wl_load rfl rfl (load_cell (fun _ => by kernel_rfl) (hb4.ext (e8.trans e14)) rfl) (by decide) ?_
  refine wl_nil ?_
  refine eo_then ?_
  refine cw_block ?_
  refine cw_seq ?_
  refine cw_region ?_
  refine wl_cmp rfl rfl rfl false (by decide) (by decide) ?_
  refine wl_assign rfl rfl (by decide) ?_
  refine wl_nil ?_
  refine eo_then ?_
  refine cw_false rfl ?_
  refine cw_seq ?_
  refine cw_region ?_
  refine wl_cmp rfl rfl rfl false (by decide) (by decide) ?_
  refine wl_assign rfl rfl (by decide) ?_
  refine wl_nil ?_
  refine eo_then ?_
  refine cw_false rfl ?_
  refine cw_seq ?_
  refine cw_region ?_
  refine wl_cmp rfl rfl rfl false (by decide) (by decide) ?_
  refine wl_assign rfl rfl (by decide) ?_
  refine wl_nil ?_
  refine eo_then ?_
  refine cw_false rfl ?_
  refine cw_seq ?_
  refine cw_region ?_
  refine wl_cmp rfl rfl rfl false (by decide) (by decide) ?_
  refine wl_assign rfl rfl (by decide) ?_
  refine wl_nil ?_
  refine eo_then ?_
  refine cw_false rfl ?_
  refine cw_seq ?_
  refine cw_region ?_
  refine wl_cmp rfl rfl rfl false (by decide) (by decide) ?_
  refine wl_assign rfl rfl (by decide) ?_
  refine wl_nil ?_
  refine eo_then ?_
  refine cw_false rfl ?_
  refine cw_seq ?_
  refine cw_region ?_
  refine wl_cmp rfl rfl rfl true (by decide) (by decide) ?_
  refine wl_assign rfl rfl (by decide) ?_
  refine wl_nil ?_
  refine eo_then ?_
  refine cw_true rfl ?_
  refine cw_region ?_
  refine wl_pure rfl rfl (v := .pointer (some ⟨g1, 1, none⟩)) (by decide) (by kernel_rfl) ?_
  refine wl_load rfl rfl (load_cell (fun _ => by kernel_rfl) (hb4.ext (e8.trans e14)) rfl) (by decide) ?_
  refine wl_pure rfl rfl (v := .pointer (some ⟨g1, 2, none⟩)) (by decide) (by kernel_rfl) ?_
  refine wl_load rfl rfl (load_cell (fun _ => by kernel_rfl) (hb4.ext (e8.trans e14)) rfl) (by decide) ?_
  refine wl_call rfl rfl (vs := [.slice A n cap, .slice B n' cap']) (by kernel_rfl) (by decide) (j3_Strip hw3.size (hx.ext hw3) (Nat.le_trans hl (by decide)) (hy.ext hw3) (Nat.le_trans hl' (by decide))) ?_
  rintro _ v18 ⟨xr20, rfl, r20, e19⟩
  refine ret_intro ?_
  have hw4 : Ext w v18 := hw3.trans e19
  obtain ⟨a21_0, a21_1, a21_2, rfl, r21_0, r21_1, r21_2⟩ := r20
  obtain rfl := r21_0
  obtain ⟨A22, n22, c22, rfl, j22, o22⟩ := r21_1
  obtain rfl := r21_2
  refine wl_move rfl rfl (by decide) ?_
  refine wl_pure rfl rfl (v := .int .i64 ((stN X Y : Nat) : Int)) (by decide) (by kernel_rfl) ?_
  refine wl_pure rfl rfl (v := .slice A22 n22 c22) (by decide) (by kernel_rfl) ?_
  refine wl_pure rfl rfl (v := .int .i64 (stE X Y)) (by decide) (by kernel_rfl) ?_
  refine wl_pure rfl rfl (v := .pointer (some ⟨g12, 3, none⟩)) (by decide) (by kernel_rfl) ?_
  have hb24 := (hb15.ext e19)
  refine wl_stored1 rfl rfl rfl (fun _ => by kernel_rfl) rfl hb24 (Nat.le_of_ble_eq_true rfl) rfl [.slice none 0 0, .slice none 0 0, .int .u64 0, .int .i64 ((stN X Y : Nat) : Int), .int .i64 0] rfl fun v23 hb25 u26 hs27 => ?_
  have hw5 : Ext w v23 := u26.ext hw4 ge16
  refine wl_pure rfl rfl (v := .pointer (some ⟨g12, 0, none⟩)) (by decide) (by kernel_rfl) ?_
  have hb29 := hb25
  refine wl_stored1 rfl rfl rfl (fun _ => by kernel_rfl) rfl hb29 (Nat.le_of_ble_eq_true rfl) rfl [.slice A22 n22 c22, .slice none 0 0, .int .u64 0, .int .i64 ((stN X Y : Nat) : Int), .int .i64 0] rfl fun v28 hb30 u31 hs32 => ?_
  have hw6 : Ext w v28 := u31.ext hw5 ge16
  refine wl_pure rfl rfl (v := .pointer (some ⟨g12, 4, none⟩)) (by decide) (by kernel_rfl) ?_
  have hb34 := hb30
  refine wl_stored1 rfl rfl rfl (fun _ => by kernel_rfl) rfl hb34 (Nat.le_of_ble_eq_true rfl) rfl [.slice A22 n22 c22, .slice none 0 0, .int .u64 0, .int .i64 ((stN X Y : Nat) : Int), .int .i64 (stE X Y)] rfl fun v33 hb35 u36 hs37 => ?_
  have hw7 : Ext w v33 := u36.ext hw6 ge16
  refine wl_nil ?_
  refine eo_block_normal ?_
  refine eo_then ?_
  refine cw_seq ?_
  refine cw_region ?_
  refine wl_load rfl rfl (load_agg aggAns3 hb35 [.slice A22 n22 c22, .slice none 0 0, .int .u64 0, .int .i64 ((stN X Y : Nat) : Int), .int .i64 (stE X Y)] rfl (Nat.le_of_ble_eq_true rfl) rfl) (by decide) ?_
  have hb39 := ((((hb9.ext (e14.trans e19)).updN u26 (by omega)).updN u31 (by omega)).updN u36 (by omega))
  refine wl_stored rfl rfl rfl aggAns3 rfl hb39 (Nat.le_of_ble_eq_true rfl) rfl [.slice A22 n22 c22, .slice none 0 0, .int .u64 0, .int .i64 ((stN X Y : Nat) : Int), .int .i64 (stE X Y)] rfl fun v38 hb40 u41 hs42 => ?_
  have hw8 : Ext w v38 := u41.ext hw7 ge10
  refine wl_nil ?_
  refine eo_then ?_
  refine cw_ret ?_
  refine eo_ret [.agg #[.slice A22 n22 c22, .slice none 0 0, .int .u64 0, .int .i64 ((stN X Y : Nat) : Int), .int .i64 (stE X Y)]] rfl ⟨⟨_, rfl, load_agg aggAns3 hb40 [.slice A22 n22 c22, .slice none 0 0, .int .u64 0, .int .i64 ((stN X Y : Nat) : Int), .int .i64 (stE X Y)] rfl (Nat.le_of_ble_eq_true rfl) rfl⟩, trivial⟩ ?_
  have hs : spec3 6 kk X Y v = (⟨stL X Y, 0, 0, ((stN X Y : Nat) : Int), stE X Y⟩ : Ans3) := by unfold spec3; rw [if_neg (by decide), if_neg (by decide), if_neg (by decide), if_neg (by decide), if_neg (by decide), if_pos rfl]
  rw [hs]
  exact ⟨_, rfl, ⟨_, _, rfl, ⟨_, _, _, rfl, j22, ((((o22.updT hb24 (by decide) u26).updT hb29 (by decide) u31).updT hb34 (by decide) u36).updT hb39 (by decide) u41).mono hb⟩, wr_nil3, (len_stL hXl), (show (wd 0).length ≤ 68719476735 by decide)⟩, hw8⟩
set_option maxHeartbeats 4000000 in
theorem g_plays3_7 {w : World} {b : Nat} (hb : b ≤ w.heap.size) {A : Option Addr} {n cap X : Nat} (hx : Wi w A n cap X) (hl : n ≤ 1048576) {B : Option Addr} {n' cap' Y : Nat} (hy : Wi w B n' cap' Y) (hl' : n' ≤ 1048576) {v : Nat} {kk : Int} (hv : v ≤ 18446744073709551615) (hkk : kk ≤ 9223372036854775807) :
    Calls Try.prog 32 #[.agg #[.int .i64 7, .slice A n cap, .slice B n' cap', .int .u64 ((v : Nat) : Int), .int .i64 kk]] w (Gv w (AnsR3 b (spec3 7 kk X Y v))) := by
  have hXl : (wd X).length ≤ 68719476735 := Nat.le_trans hx.len (Nat.le_trans hl (by decide))
  have hYl : (wd Y).length ≤ 68719476735 := Nat.le_trans hy.len (Nat.le_trans hl' (by decide))
  refine sx_enter Try.func32 rfl (n := 91) rfl (Nat.le_of_ble_eq_true rfl) (args := [.agg #[.int .i64 7, .slice A n cap, .slice B n' cap', .int .u64 ((v : Nat) : Int), .int .i64 kk]]) ?_
  refine cw_keep [(0, .agg #[.int .i64 7, .slice A n cap, .slice B n' cap', .int .u64 ((v : Nat) : Int), .int .i64 kk])] ⟨rfl, trivial⟩ ?_
  refine cw_seq ?_
  refine cw_region ?_
  refine wl_box rfl rfl (vs := [.int .i64 7, .slice A n cap, .slice B n' cap', .int .u64 ((v : Nat) : Int), .int .i64 kk]) rfl (by decide) fun g1 v2 nb => ?_
  have hb4 := nb.bk
  have ge5 : w.heap.size ≤ g1 := by rw [← nb.at_]; exact (Ext.refl w).size
  have e3 := nb.ext
  clear nb
  have hw1 : Ext w v2 := (Ext.refl w).trans e3
  refine wl_alloc rfl (z := .agg #[.slice none 0 0, .slice none 0 0, .int .u64 0, .int .i64 0, .int .i64 0]) (vs := [.slice none 0 0, .slice none 0 0, .int .u64 0, .int .i64 0, .int .i64 0]) (fun _ => by kernel_rfl) rfl (by decide) fun g6 v7 nb => ?_
  have hb9 := nb.bk
  have ge10 : w.heap.size ≤ g6 := by rw [← nb.at_]; exact hw1.size
  have q11 : g1 < g6 := by rw [← nb.at_]; exact hb4.lt
  have e8 := nb.ext
  clear nb
  have hw2 : Ext w v7 := hw1.trans e8
  refine wl_nil ?_
  refine eo_then ?_
  refine cw_seq ?_
  refine cw_region ?_
  refine wl_alloc rfl (z := .agg #[.slice none 0 0, .slice none 0 0, .int .u64 0, .int .i64 0, .int .i64 0]) (vs := [.slice none 0 0, .slice none 0 0, .int .u64 0, .int .i64 0, .int .i64 0]) (fun _ => by kernel_rfl) rfl (by decide) fun g12 v13 nb => ?_
  have hb15 := nb.bk
  have ge16 : w.heap.size ≤ g12 := by rw [← nb.at_]; exact hw2.size
  have q17 : g6 < g12 := by rw [← nb.at_]; exact hb9.lt
  have e14 := nb.ext
  clear nb
  have hw3 : Ext w v13 := hw2.trans e14
  refine wl_nil ?_
  refine eo_then ?_
  refine cw_seq ?_
  refine cw_seq ?_
  refine cw_region ?_
  refine wl_pure rfl rfl (v := .pointer (some ⟨g1, 0, none⟩)) (by decide) (by kernel_rfl) ?_
  refine wl_load rfl rfl (load_cell (fun _ => by kernel_rfl) (hb4.ext (e8.trans e14)) rfl) (by decide) ?_
  refine wl_nil ?_
  refine eo_then ?_
  refine cw_block ?_
  refine cw_seq ?_
  refine cw_region ?_
  refine wl_cmp rfl rfl rfl false (by decide) (by decide) ?_
  refine wl_assign rfl rfl (by decide) ?_
  refine wl_nil ?_
  refine eo_then ?_
  refine cw_false rfl ?_
  refine cw_seq ?_
  refine cw_region ?_
  refine wl_cmp rfl rfl rfl false (by decide) (by decide) ?_
  refine wl_assign rfl rfl (by decide) ?_
  refine wl_nil ?_
  refine eo_then ?_
  refine cw_false rfl ?_
  refine cw_seq ?_
  refine cw_region ?_
  refine wl_cmp rfl rfl rfl false (by decide) (by decide) ?_
  refine wl_assign rfl rfl (by decide) ?_
  refine wl_nil ?_
  refine eo_then ?_
  refine cw_false rfl ?_
  refine cw_seq ?_
  refine cw_region ?_
  refine wl_cmp rfl rfl rfl false (by decide) (by decide) ?_
  refine wl_assign rfl rfl (by decide) ?_
  refine wl_nil ?_
  refine eo_then ?_
  refine cw_false rfl ?_
  refine cw_seq ?_
  refine cw_region ?_
  refine wl_cmp rfl rfl rfl false (by decide) (by decide) ?_
  refine wl_assign rfl rfl (by decide) ?_
  refine wl_nil ?_
  refine eo_then ?_
  refine cw_false rfl ?_
  refine cw_seq ?_
  refine cw_region ?_
  refine wl_cmp rfl rfl rfl false (by decide) (by decide) ?_
  refine wl_assign rfl rfl (by decide) ?_
  refine wl_nil ?_
  refine eo_then ?_
  refine cw_false rfl ?_
  refine cw_seq ?_
  refine cw_region ?_
  refine wl_cmp rfl rfl rfl true (by decide) (by decide) ?_
  refine wl_assign rfl rfl (by decide) ?_
  refine wl_nil ?_
  refine eo_then ?_
  refine cw_true rfl ?_
  refine cw_region ?_
  refine wl_pure rfl rfl (v := .pointer (some ⟨g1, 1, none⟩)) (by decide) (by kernel_rfl) ?_
  refine wl_load rfl rfl (load_cell (fun _ => by kernel_rfl) (hb4.ext (e8.trans e14)) rfl) (by decide) ?_
  refine wl_pure rfl rfl (v := .pointer (some ⟨g1, 4, none⟩)) (by decide) (by kernel_rfl) ?_
  refine wl_load rfl rfl (load_cell (fun _ => by kernel_rfl) (hb4.ext (e8.trans e14)) rfl) (by decide) ?_
  refine wl_call rfl rfl (vs := [.slice A n cap, .int .i64 kk]) (by kernel_rfl) (by decide) (j3_Root hw3.size (hx.ext hw3) (Nat.le_trans hl (by decide)) hkk) ?_
  rintro _ v18 ⟨xr20, rfl, r20, e19⟩
  refine ret_intro ?_
  have hw4 : Ext w v18 := hw3.trans e19
  obtain ⟨a21_0, a21_1, rfl, r21_0, r21_1⟩ := r20
  obtain ⟨A22, n22, c22, rfl, j22, o22⟩ := r21_0
  obtain rfl := r21_1
  refine wl_move rfl rfl (by decide) ?_
  refine wl_pure rfl rfl (v := .slice A22 n22 c22) (by decide) (by kernel_rfl) ?_
  refine wl_pure rfl rfl (v := .int .i64 (roE kk)) (by decide) (by kernel_rfl) ?_
  refine wl_pure rfl rfl (v := .pointer (some ⟨g12, 0, none⟩)) (by decide) (by kernel_rfl) ?_
  have hb24 := (hb15.ext e19)
  refine wl_stored1 rfl rfl rfl (fun _ => by kernel_rfl) rfl hb24 (Nat.le_of_ble_eq_true rfl) rfl [.slice A22 n22 c22, .slice none 0 0, .int .u64 0, .int .i64 0, .int .i64 0] rfl fun v23 hb25 u26 hs27 => ?_
  have hw5 : Ext w v23 := u26.ext hw4 ge16
  refine wl_pure rfl rfl (v := .pointer (some ⟨g12, 4, none⟩)) (by decide) (by kernel_rfl) ?_
  have hb29 := hb25
  refine wl_stored1 rfl rfl rfl (fun _ => by kernel_rfl) rfl hb29 (Nat.le_of_ble_eq_true rfl) rfl [.slice A22 n22 c22, .slice none 0 0, .int .u64 0, .int .i64 0, .int .i64 (roE kk)] rfl fun v28 hb30 u31 hs32 => ?_
  have hw6 : Ext w v28 := u31.ext hw5 ge16
  refine wl_nil ?_
  refine eo_block_normal ?_
  refine eo_then ?_
  refine cw_seq ?_
  refine cw_region ?_
  refine wl_load rfl rfl (load_agg aggAns3 hb30 [.slice A22 n22 c22, .slice none 0 0, .int .u64 0, .int .i64 0, .int .i64 (roE kk)] rfl (Nat.le_of_ble_eq_true rfl) rfl) (by decide) ?_
  have hb34 := (((hb9.ext (e14.trans e19)).updN u26 (by omega)).updN u31 (by omega))
  refine wl_stored rfl rfl rfl aggAns3 rfl hb34 (Nat.le_of_ble_eq_true rfl) rfl [.slice A22 n22 c22, .slice none 0 0, .int .u64 0, .int .i64 0, .int .i64 (roE kk)] rfl fun v33 hb35 u36 hs37 => ?_
  have hw7 : Ext w v33 := u36.ext hw6 ge10
  refine wl_nil ?_
  refine eo_then ?_
  refine cw_ret ?_
  refine eo_ret [.agg #[.slice A22 n22 c22, .slice none 0 0, .int .u64 0, .int .i64 0, .int .i64 (roE kk)]] rfl ⟨⟨_, rfl, load_agg aggAns3 hb35 [.slice A22 n22 c22, .slice none 0 0, .int .u64 0, .int .i64 0, .int .i64 (roE kk)] rfl (Nat.le_of_ble_eq_true rfl) rfl⟩, trivial⟩ ?_
  have hs : spec3 7 kk X Y v = (⟨roV X kk, 0, 0, 0, roE kk⟩ : Ans3) := by unfold spec3; rw [if_neg (by decide), if_neg (by decide), if_neg (by decide), if_neg (by decide), if_neg (by decide), if_neg (by decide), if_pos rfl]
  rw [hs]
  exact ⟨_, rfl, ⟨_, _, rfl, ⟨_, _, _, rfl, j22, (((o22.updT hb24 (by decide) u26).updT hb29 (by decide) u31).updT hb34 (by decide) u36).mono hb⟩, wr_nil3, (len_roV hXl), (show (wd 0).length ≤ 68719476735 by decide)⟩, hw7⟩
set_option maxHeartbeats 4000000 in
theorem g_plays3_k {w : World} {b : Nat} (hb : b ≤ w.heap.size) {A : Option Addr} {n cap X : Nat} (hx : Wi w A n cap X) (hl : n ≤ 1048576) {B : Option Addr} {n' cap' Y : Nat} (hy : Wi w B n' cap' Y) (hl' : n' ≤ 1048576) {v : Nat} {kk : Int} (hv : v ≤ 18446744073709551615) (hkk : kk ≤ 9223372036854775807) {k : Int} (hk1 : ¬ k = 1) (hk2 : ¬ k = 2) (hk3 : ¬ k = 3) (hk4 : ¬ k = 4) (hk5 : ¬ k = 5) (hk6 : ¬ k = 6) (hk7 : ¬ k = 7) :
    Calls Try.prog 32 #[.agg #[.int .i64 k, .slice A n cap, .slice B n' cap', .int .u64 ((v : Nat) : Int), .int .i64 kk]] w (Gv w (AnsR3 b (spec3 k kk X Y v))) := by
  have hXl : (wd X).length ≤ 68719476735 := Nat.le_trans hx.len (Nat.le_trans hl (by decide))
  have hYl : (wd Y).length ≤ 68719476735 := Nat.le_trans hy.len (Nat.le_trans hl' (by decide))
  refine sx_enter Try.func32 rfl (n := 91) rfl (Nat.le_of_ble_eq_true rfl) (args := [.agg #[.int .i64 k, .slice A n cap, .slice B n' cap', .int .u64 ((v : Nat) : Int), .int .i64 kk]]) ?_
  refine cw_keep [(0, .agg #[.int .i64 k, .slice A n cap, .slice B n' cap', .int .u64 ((v : Nat) : Int), .int .i64 kk])] ⟨rfl, trivial⟩ ?_
  refine cw_seq ?_
  refine cw_region ?_
  refine wl_box rfl rfl (vs := [.int .i64 k, .slice A n cap, .slice B n' cap', .int .u64 ((v : Nat) : Int), .int .i64 kk]) rfl (by decide) fun g1 v2 nb => ?_
  have hb4 := nb.bk
  have ge5 : w.heap.size ≤ g1 := by rw [← nb.at_]; exact (Ext.refl w).size
  have e3 := nb.ext
  clear nb
  have hw1 : Ext w v2 := (Ext.refl w).trans e3
  refine wl_alloc rfl (z := .agg #[.slice none 0 0, .slice none 0 0, .int .u64 0, .int .i64 0, .int .i64 0]) (vs := [.slice none 0 0, .slice none 0 0, .int .u64 0, .int .i64 0, .int .i64 0]) (fun _ => by kernel_rfl) rfl (by decide) fun g6 v7 nb => ?_
  have hb9 := nb.bk
  have ge10 : w.heap.size ≤ g6 := by rw [← nb.at_]; exact hw1.size
  have q11 : g1 < g6 := by rw [← nb.at_]; exact hb4.lt
  have e8 := nb.ext
  clear nb
  have hw2 : Ext w v7 := hw1.trans e8
  refine wl_nil ?_
  refine eo_then ?_
  refine cw_seq ?_
  refine cw_region ?_
  refine wl_alloc rfl (z := .agg #[.slice none 0 0, .slice none 0 0, .int .u64 0, .int .i64 0, .int .i64 0]) (vs := [.slice none 0 0, .slice none 0 0, .int .u64 0, .int .i64 0, .int .i64 0]) (fun _ => by kernel_rfl) rfl (by decide) fun g12 v13 nb => ?_
  have hb15 := nb.bk
  have ge16 : w.heap.size ≤ g12 := by rw [← nb.at_]; exact hw2.size
  have q17 : g6 < g12 := by rw [← nb.at_]; exact hb9.lt
  have e14 := nb.ext
  clear nb
  have hw3 : Ext w v13 := hw2.trans e14
  refine wl_nil ?_
  refine eo_then ?_
  refine cw_seq ?_
  refine cw_seq ?_
  refine cw_region ?_
  refine wl_pure rfl rfl (v := .pointer (some ⟨g1, 0, none⟩)) (by decide) (by kernel_rfl) ?_
  refine wl_load rfl rfl (load_cell (fun _ => by kernel_rfl) (hb4.ext (e8.trans e14)) rfl) (by decide) ?_
  refine wl_nil ?_
  refine eo_then ?_
  refine cw_block ?_
  refine cw_seq ?_
  refine cw_region ?_
  refine wl_cmp rfl rfl rfl false (eq_f hk1) (by decide) ?_
  refine wl_assign rfl rfl (by decide) ?_
  refine wl_nil ?_
  refine eo_then ?_
  refine cw_false rfl ?_
  refine cw_seq ?_
  refine cw_region ?_
  refine wl_cmp rfl rfl rfl false (eq_f hk2) (by decide) ?_
  refine wl_assign rfl rfl (by decide) ?_
  refine wl_nil ?_
  refine eo_then ?_
  refine cw_false rfl ?_
  refine cw_seq ?_
  refine cw_region ?_
  refine wl_cmp rfl rfl rfl false (eq_f hk3) (by decide) ?_
  refine wl_assign rfl rfl (by decide) ?_
  refine wl_nil ?_
  refine eo_then ?_
  refine cw_false rfl ?_
  refine cw_seq ?_
  refine cw_region ?_
  refine wl_cmp rfl rfl rfl false (eq_f hk4) (by decide) ?_
  refine wl_assign rfl rfl (by decide) ?_
  refine wl_nil ?_
  refine eo_then ?_
  refine cw_false rfl ?_
  refine cw_seq ?_
  refine cw_region ?_
  refine wl_cmp rfl rfl rfl false (eq_f hk5) (by decide) ?_
  refine wl_assign rfl rfl (by decide) ?_
  refine wl_nil ?_
  refine eo_then ?_
  refine cw_false rfl ?_
  refine cw_seq ?_
  refine cw_region ?_
  refine wl_cmp rfl rfl rfl false (eq_f hk6) (by decide) ?_
  refine wl_assign rfl rfl (by decide) ?_
  refine wl_nil ?_
  refine eo_then ?_
  refine cw_false rfl ?_
  refine cw_seq ?_
  refine cw_region ?_
  refine wl_cmp rfl rfl rfl false (eq_f hk7) (by decide) ?_
  refine wl_assign rfl rfl (by decide) ?_
  refine wl_nil ?_
  refine eo_then ?_
  refine cw_false rfl ?_
  refine cw_skip ?_
  refine eo_block_normal ?_
  refine eo_then ?_
  refine cw_seq ?_
  refine cw_region ?_
  refine wl_load rfl rfl (load_agg aggAns3 hb15 [.slice none 0 0, .slice none 0 0, .int .u64 0, .int .i64 0, .int .i64 0] rfl (Nat.le_of_ble_eq_true rfl) rfl) (by decide) ?_
  have hb19 := (hb9.ext e14)
  refine wl_stored rfl rfl rfl aggAns3 rfl hb19 (Nat.le_of_ble_eq_true rfl) rfl [.slice none 0 0, .slice none 0 0, .int .u64 0, .int .i64 0, .int .i64 0] rfl fun v18 hb20 u21 hs22 => ?_
  have hw4 : Ext w v18 := u21.ext hw3 ge10
  refine wl_nil ?_
  refine eo_then ?_
  refine cw_ret ?_
  refine eo_ret [.agg #[.slice none 0 0, .slice none 0 0, .int .u64 0, .int .i64 0, .int .i64 0]] rfl ⟨⟨_, rfl, load_agg aggAns3 hb20 [.slice none 0 0, .slice none 0 0, .int .u64 0, .int .i64 0, .int .i64 0] rfl (Nat.le_of_ble_eq_true rfl) rfl⟩, trivial⟩ ?_
  have hs : spec3 k kk X Y v = (⟨0, 0, 0, 0, 0⟩ : Ans3) := by unfold spec3; rw [if_neg hk1, if_neg hk2, if_neg hk3, if_neg hk4, if_neg hk5, if_neg hk6, if_neg hk7]
  rw [hs]
  exact ⟨_, rfl, ⟨_, _, rfl, wr_nil3, wr_nil3, (show (wd 0).length ≤ 68719476735 by decide), (show (wd 0).length ≤ 68719476735 by decide)⟩, hw4⟩
theorem g_plays3 {w : World} {b : Nat} (hb : b ≤ w.heap.size) {A : Option Addr} {n cap X : Nat} (hx : Wi w A n cap X) (hl : n ≤ 1048576) {B : Option Addr} {n' cap' Y : Nat} (hy : Wi w B n' cap' Y) (hl' : n' ≤ 1048576) {v : Nat} {kk : Int} (hv : v ≤ 18446744073709551615) (hkk : kk ≤ 9223372036854775807) {k : Int} :
    Calls Try.prog 32 #[.agg #[.int .i64 k, .slice A n cap, .slice B n' cap', .int .u64 ((v : Nat) : Int), .int .i64 kk]] w (Gv w (AnsR3 b (spec3 k kk X Y v))) := by
  by_cases hk1 : k = 1
  · subst hk1; exact g_plays3_1 hb hx hl hy hl' hv hkk
  by_cases hk2 : k = 2
  · subst hk2; exact g_plays3_2 hb hx hl hy hl' hv hkk
  by_cases hk3 : k = 3
  · subst hk3; exact g_plays3_3 hb hx hl hy hl' hv hkk
  by_cases hk4 : k = 4
  · subst hk4; exact g_plays3_4 hb hx hl hy hl' hv hkk
  by_cases hk5 : k = 5
  · subst hk5; exact g_plays3_5 hb hx hl hy hl' hv hkk
  by_cases hk6 : k = 6
  · subst hk6; exact g_plays3_6 hb hx hl hy hl' hv hkk
  by_cases hk7 : k = 7
  · subst hk7; exact g_plays3_7 hb hx hl hy hl' hv hkk
  exact g_plays3_k hb hx hl hy hl' hv hkk hk1 hk2 hk3 hk4 hk5 hk6 hk7
set_option maxHeartbeats 4000000 in
theorem g_wants3_1 {w : World} {b : Nat} (hb : b ≤ w.heap.size) {A : Option Addr} {n cap X : Nat} (hx : Wi w A n cap X) (hl : n ≤ 1048576) {B : Option Addr} {n' cap' Y : Nat} (hy : Wi w B n' cap' Y) (hl' : n' ≤ 1048576) {v : Nat} {kk : Int} (hv : v ≤ 18446744073709551615) (hkk : kk ≤ 9223372036854775807) :
    Calls Try.prog 31 #[.agg #[.int .i64 1, .slice A n cap, .slice B n' cap', .int .u64 ((v : Nat) : Int), .int .i64 kk]] w (Gv w (AnsR3 b (spec3 1 kk X Y v))) := by
  have hXl : (wd X).length ≤ 68719476735 := Nat.le_trans hx.len (Nat.le_trans hl (by decide))
  have hYl : (wd Y).length ≤ 68719476735 := Nat.le_trans hy.len (Nat.le_trans hl' (by decide))
  refine sx_enter Try.func31 rfl (n := 91) rfl (Nat.le_of_ble_eq_true rfl) (args := [.agg #[.int .i64 1, .slice A n cap, .slice B n' cap', .int .u64 ((v : Nat) : Int), .int .i64 kk]]) ?_
  refine cw_keep [(0, .agg #[.int .i64 1, .slice A n cap, .slice B n' cap', .int .u64 ((v : Nat) : Int), .int .i64 kk])] ⟨rfl, trivial⟩ ?_
  refine cw_seq ?_
  refine cw_region ?_
  refine wl_box rfl rfl (vs := [.int .i64 1, .slice A n cap, .slice B n' cap', .int .u64 ((v : Nat) : Int), .int .i64 kk]) rfl (by decide) fun g1 v2 nb => ?_
  have hb4 := nb.bk
  have ge5 : w.heap.size ≤ g1 := by rw [← nb.at_]; exact (Ext.refl w).size
  have e3 := nb.ext
  clear nb
  have hw1 : Ext w v2 := (Ext.refl w).trans e3
  refine wl_alloc rfl (z := .agg #[.slice none 0 0, .slice none 0 0, .int .u64 0, .int .i64 0, .int .i64 0]) (vs := [.slice none 0 0, .slice none 0 0, .int .u64 0, .int .i64 0, .int .i64 0]) (fun _ => by kernel_rfl) rfl (by decide) fun g6 v7 nb => ?_
  have hb9 := nb.bk
  have ge10 : w.heap.size ≤ g6 := by rw [← nb.at_]; exact hw1.size
  have q11 : g1 < g6 := by rw [← nb.at_]; exact hb4.lt
  have e8 := nb.ext
  clear nb
  have hw2 : Ext w v7 := hw1.trans e8
  refine wl_nil ?_
  refine eo_then ?_
  refine cw_seq ?_
  refine cw_region ?_
  refine wl_alloc rfl (z := .agg #[.slice none 0 0, .slice none 0 0, .int .u64 0, .int .i64 0, .int .i64 0]) (vs := [.slice none 0 0, .slice none 0 0, .int .u64 0, .int .i64 0, .int .i64 0]) (fun _ => by kernel_rfl) rfl (by decide) fun g12 v13 nb => ?_
  have hb15 := nb.bk
  have ge16 : w.heap.size ≤ g12 := by rw [← nb.at_]; exact hw2.size
  have q17 : g6 < g12 := by rw [← nb.at_]; exact hb9.lt
  have e14 := nb.ext
  clear nb
  have hw3 : Ext w v13 := hw2.trans e14
  refine wl_nil ?_
  refine eo_then ?_
  refine cw_seq ?_
  refine cw_seq ?_
  refine cw_region ?_
  refine wl_pure rfl rfl (v := .pointer (some ⟨g1, 0, none⟩)) (by decide) (by kernel_rfl) ?_
  refine wl_load rfl rfl (load_cell (fun _ => by kernel_rfl) (hb4.ext (e8.trans e14)) rfl) (by decide) ?_
  refine wl_nil ?_
  refine eo_then ?_
  refine cw_block ?_
  refine cw_seq ?_
  refine cw_region ?_
  refine wl_cmp rfl rfl rfl true (by decide) (by decide) ?_
  refine wl_assign rfl rfl (by decide) ?_
  refine wl_nil ?_
  refine eo_then ?_
  refine cw_true rfl ?_
  refine cw_region ?_
  refine wl_pure rfl rfl (v := .pointer (some ⟨g1, 1, none⟩)) (by decide) (by kernel_rfl) ?_
  refine wl_load rfl rfl (load_cell (fun _ => by kernel_rfl) (hb4.ext (e8.trans e14)) rfl) (by decide) ?_
  refine wl_pure rfl rfl (v := .pointer (some ⟨g1, 3, none⟩)) (by decide) (by kernel_rfl) ?_
  refine wl_load rfl rfl (load_cell (fun _ => by kernel_rfl) (hb4.ext (e8.trans e14)) rfl) (by decide) ?_
  refine wl_call rfl rfl (vs := [.slice A n cap, .int .u64 ((v : Nat) : Int)]) (by kernel_rfl) (by decide) (j3_rWord hw3.size (hx.ext hw3) (Nat.le_trans hl (by decide)) hv) ?_
  rintro _ v18 ⟨xr20, rfl, r20, e19⟩
  refine ret_intro ?_
  have hw4 : Ext w v18 := hw3.trans e19
  obtain ⟨a21_0, a21_1, a21_2, rfl, r21_0, r21_1, r21_2⟩ := r20
  obtain ⟨A22, n22, c22, rfl, j22, o22⟩ := r21_0
  obtain rfl := r21_1
  obtain rfl := r21_2
  refine wl_move rfl rfl (by decide) ?_
  refine wl_pure rfl rfl (v := .slice A22 n22 c22) (by decide) (by kernel_rfl) ?_
  refine wl_pure rfl rfl (v := .int .u64 ((rm3 X v : Nat) : Int)) (by decide) (by kernel_rfl) ?_
  refine wl_pure rfl rfl (v := .int .i64 (er3 v)) (by decide) (by kernel_rfl) ?_
  refine wl_pure rfl rfl (v := .pointer (some ⟨g12, 0, none⟩)) (by decide) (by kernel_rfl) ?_
  have hb24 := (hb15.ext e19)
  refine wl_stored1 rfl rfl rfl (fun _ => by kernel_rfl) rfl hb24 (Nat.le_of_ble_eq_true rfl) rfl [.slice A22 n22 c22, .slice none 0 0, .int .u64 0, .int .i64 0, .int .i64 0] rfl fun v23 hb25 u26 hs27 => ?_
  have hw5 : Ext w v23 := u26.ext hw4 ge16
  refine wl_pure rfl rfl (v := .pointer (some ⟨g12, 2, none⟩)) (by decide) (by kernel_rfl) ?_
  have hb29 := hb25
  refine wl_stored1 rfl rfl rfl (fun _ => by kernel_rfl) rfl hb29 (Nat.le_of_ble_eq_true rfl) rfl [.slice A22 n22 c22, .slice none 0 0, .int .u64 ((rm3 X v : Nat) : Int), .int .i64 0, .int .i64 0] rfl fun v28 hb30 u31 hs32 => ?_
  have hw6 : Ext w v28 := u31.ext hw5 ge16
  refine wl_pure rfl rfl (v := .pointer (some ⟨g12, 4, none⟩)) (by decide) (by kernel_rfl) ?_
  have hb34 := hb30
  refine wl_stored1 rfl rfl rfl (fun _ => by kernel_rfl) rfl hb34 (Nat.le_of_ble_eq_true rfl) rfl [.slice A22 n22 c22, .slice none 0 0, .int .u64 ((rm3 X v : Nat) : Int), .int .i64 0, .int .i64 (er3 v)] rfl fun v33 hb35 u36 hs37 => ?_
  have hw7 : Ext w v33 := u36.ext hw6 ge16
  refine wl_nil ?_
  refine eo_block_normal ?_
  refine eo_then ?_
  refine cw_seq ?_
  refine cw_region ?_
  refine wl_load rfl rfl (load_agg aggAns3 hb35 [.slice A22 n22 c22, .slice none 0 0, .int .u64 ((rm3 X v : Nat) : Int), .int .i64 0, .int .i64 (er3 v)] rfl (Nat.le_of_ble_eq_true rfl) rfl) (by decide) ?_
  have hb39 := ((((hb9.ext (e14.trans e19)).updN u26 (by omega)).updN u31 (by omega)).updN u36 (by omega))
  refine wl_stored rfl rfl rfl aggAns3 rfl hb39 (Nat.le_of_ble_eq_true rfl) rfl [.slice A22 n22 c22, .slice none 0 0, .int .u64 ((rm3 X v : Nat) : Int), .int .i64 0, .int .i64 (er3 v)] rfl fun v38 hb40 u41 hs42 => ?_
  have hw8 : Ext w v38 := u41.ext hw7 ge10
  refine wl_nil ?_
  refine eo_then ?_
  refine cw_ret ?_
  refine eo_ret [.agg #[.slice A22 n22 c22, .slice none 0 0, .int .u64 ((rm3 X v : Nat) : Int), .int .i64 0, .int .i64 (er3 v)]] rfl ⟨⟨_, rfl, load_agg aggAns3 hb40 [.slice A22 n22 c22, .slice none 0 0, .int .u64 ((rm3 X v : Nat) : Int), .int .i64 0, .int .i64 (er3 v)] rfl (Nat.le_of_ble_eq_true rfl) rfl⟩, trivial⟩ ?_
  have hs : spec3 1 kk X Y v = (⟨X / v, 0, rm3 X v, 0, er3 v⟩ : Ans3) := rfl
  rw [hs]
  exact ⟨_, rfl, ⟨_, _, rfl, ⟨_, _, _, rfl, j22, ((((o22.updT hb24 (by decide) u26).updT hb29 (by decide) u31).updT hb34 (by decide) u36).updT hb39 (by decide) u41).mono hb⟩, wr_nil3, (len_d3 hXl), (show (wd 0).length ≤ 68719476735 by decide)⟩, hw8⟩
set_option maxHeartbeats 4000000 in
theorem g_wants3_2 {w : World} {b : Nat} (hb : b ≤ w.heap.size) {A : Option Addr} {n cap X : Nat} (hx : Wi w A n cap X) (hl : n ≤ 1048576) {B : Option Addr} {n' cap' Y : Nat} (hy : Wi w B n' cap' Y) (hl' : n' ≤ 1048576) {v : Nat} {kk : Int} (hv : v ≤ 18446744073709551615) (hkk : kk ≤ 9223372036854775807) :
    Calls Try.prog 31 #[.agg #[.int .i64 2, .slice A n cap, .slice B n' cap', .int .u64 ((v : Nat) : Int), .int .i64 kk]] w (Gv w (AnsR3 b (spec3 2 kk X Y v))) := by
  have hXl : (wd X).length ≤ 68719476735 := Nat.le_trans hx.len (Nat.le_trans hl (by decide))
  have hYl : (wd Y).length ≤ 68719476735 := Nat.le_trans hy.len (Nat.le_trans hl' (by decide))
  refine sx_enter Try.func31 rfl (n := 91) rfl (Nat.le_of_ble_eq_true rfl) (args := [.agg #[.int .i64 2, .slice A n cap, .slice B n' cap', .int .u64 ((v : Nat) : Int), .int .i64 kk]]) ?_
  refine cw_keep [(0, .agg #[.int .i64 2, .slice A n cap, .slice B n' cap', .int .u64 ((v : Nat) : Int), .int .i64 kk])] ⟨rfl, trivial⟩ ?_
  refine cw_seq ?_
  refine cw_region ?_
  refine wl_box rfl rfl (vs := [.int .i64 2, .slice A n cap, .slice B n' cap', .int .u64 ((v : Nat) : Int), .int .i64 kk]) rfl (by decide) fun g1 v2 nb => ?_
  have hb4 := nb.bk
  have ge5 : w.heap.size ≤ g1 := by rw [← nb.at_]; exact (Ext.refl w).size
  have e3 := nb.ext
  clear nb
  have hw1 : Ext w v2 := (Ext.refl w).trans e3
  refine wl_alloc rfl (z := .agg #[.slice none 0 0, .slice none 0 0, .int .u64 0, .int .i64 0, .int .i64 0]) (vs := [.slice none 0 0, .slice none 0 0, .int .u64 0, .int .i64 0, .int .i64 0]) (fun _ => by kernel_rfl) rfl (by decide) fun g6 v7 nb => ?_
  have hb9 := nb.bk
  have ge10 : w.heap.size ≤ g6 := by rw [← nb.at_]; exact hw1.size
  have q11 : g1 < g6 := by rw [← nb.at_]; exact hb4.lt
  have e8 := nb.ext
  clear nb
  have hw2 : Ext w v7 := hw1.trans e8
  refine wl_nil ?_
  refine eo_then ?_
  refine cw_seq ?_
  refine cw_region ?_
  refine wl_alloc rfl (z := .agg #[.slice none 0 0, .slice none 0 0, .int .u64 0, .int .i64 0, .int .i64 0]) (vs := [.slice none 0 0, .slice none 0 0, .int .u64 0, .int .i64 0, .int .i64 0]) (fun _ => by kernel_rfl) rfl (by decide) fun g12 v13 nb => ?_
  have hb15 := nb.bk
  have ge16 : w.heap.size ≤ g12 := by rw [← nb.at_]; exact hw2.size
  have q17 : g6 < g12 := by rw [← nb.at_]; exact hb9.lt
  have e14 := nb.ext
  clear nb
  have hw3 : Ext w v13 := hw2.trans e14
  refine wl_nil ?_
  refine eo_then ?_
  refine cw_seq ?_
  refine cw_seq ?_
  refine cw_region ?_
  refine wl_pure rfl rfl (v := .pointer (some ⟨g1, 0, none⟩)) (by decide) (by kernel_rfl) ?_
  refine wl_load rfl rfl (load_cell (fun _ => by kernel_rfl) (hb4.ext (e8.trans e14)) rfl) (by decide) ?_
  refine wl_nil ?_
  refine eo_then ?_
  refine cw_block ?_
  refine cw_seq ?_
  refine cw_region ?_
  refine wl_cmp rfl rfl rfl false (by decide) (by decide) ?_
  refine wl_assign rfl rfl (by decide) ?_
  refine wl_nil ?_
  refine eo_then ?_
  refine cw_false rfl ?_
  refine cw_seq ?_
  refine cw_region ?_
  refine wl_cmp rfl rfl rfl true (by decide) (by decide) ?_
  refine wl_assign rfl rfl (by decide) ?_
  refine wl_nil ?_
  refine eo_then ?_
  refine cw_true rfl ?_
  refine cw_region ?_
  refine wl_pure rfl rfl (v := .pointer (some ⟨g1, 1, none⟩)) (by decide) (by kernel_rfl) ?_
  refine wl_load rfl rfl (load_cell (fun _ => by kernel_rfl) (hb4.ext (e8.trans e14)) rfl) (by decide) ?_
  refine wl_pure rfl rfl (v := .pointer (some ⟨g1, 2, none⟩)) (by decide) (by kernel_rfl) ?_
  refine wl_load rfl rfl (load_cell (fun _ => by kernel_rfl) (hb4.ext (e8.trans e14)) rfl) (by decide) ?_
  refine wl_call rfl rfl (vs := [.slice A n cap, .slice B n' cap']) (by kernel_rfl) (by decide) (j3_rDivMod hw3.size (hx.ext hw3) (Nat.le_trans hl (by decide)) (hy.ext hw3) (Nat.le_trans hl' (by decide))) ?_
  rintro _ v18 ⟨xr20, rfl, r20, e19⟩
  refine ret_intro ?_
  have hw4 : Ext w v18 := hw3.trans e19
  obtain ⟨a21_0, a21_1, a21_2, rfl, r21_0, r21_1, r21_2⟩ := r20
  obtain ⟨A22, n22, c22, rfl, j22, o22⟩ := r21_0
  obtain ⟨A23, n23, c23, rfl, j23, o23⟩ := r21_1
  obtain rfl := r21_2
  refine wl_move rfl rfl (by decide) ?_
  refine wl_pure rfl rfl (v := .slice A22 n22 c22) (by decide) (by kernel_rfl) ?_
  refine wl_pure rfl rfl (v := .slice A23 n23 c23) (by decide) (by kernel_rfl) ?_
  refine wl_pure rfl rfl (v := .int .i64 (er3 Y)) (by decide) (by kernel_rfl) ?_
  refine wl_pure rfl rfl (v := .pointer (some ⟨g12, 0, none⟩)) (by decide) (by kernel_rfl) ?_
  have hb25 := (hb15.ext e19)
  refine wl_stored1 rfl rfl rfl (fun _ => by kernel_rfl) rfl hb25 (Nat.le_of_ble_eq_true rfl) rfl [.slice A22 n22 c22, .slice none 0 0, .int .u64 0, .int .i64 0, .int .i64 0] rfl fun v24 hb26 u27 hs28 => ?_
  have hw5 : Ext w v24 := u27.ext hw4 ge16
  refine wl_pure rfl rfl (v := .pointer (some ⟨g12, 1, none⟩)) (by decide) (by kernel_rfl) ?_
  have hb30 := hb26
  refine wl_stored1 rfl rfl rfl (fun _ => by kernel_rfl) rfl hb30 (Nat.le_of_ble_eq_true rfl) rfl [.slice A22 n22 c22, .slice A23 n23 c23, .int .u64 0, .int .i64 0, .int .i64 0] rfl fun v29 hb31 u32 hs33 => ?_
  have hw6 : Ext w v29 := u32.ext hw5 ge16
  refine wl_pure rfl rfl (v := .pointer (some ⟨g12, 4, none⟩)) (by decide) (by kernel_rfl) ?_
  have hb35 := hb31
  refine wl_stored1 rfl rfl rfl (fun _ => by kernel_rfl) rfl hb35 (Nat.le_of_ble_eq_true rfl) rfl [.slice A22 n22 c22, .slice A23 n23 c23, .int .u64 0, .int .i64 0, .int .i64 (er3 Y)] rfl fun v34 hb36 u37 hs38 => ?_
  have hw7 : Ext w v34 := u37.ext hw6 ge16
  refine wl_nil ?_
  refine eo_block_normal ?_
  refine eo_then ?_
  refine cw_seq ?_
  refine cw_region ?_
  refine wl_load rfl rfl (load_agg aggAns3 hb36 [.slice A22 n22 c22, .slice A23 n23 c23, .int .u64 0, .int .i64 0, .int .i64 (er3 Y)] rfl (Nat.le_of_ble_eq_true rfl) rfl) (by decide) ?_
  have hb40 := ((((hb9.ext (e14.trans e19)).updN u27 (by omega)).updN u32 (by omega)).updN u37 (by omega))
  refine wl_stored rfl rfl rfl aggAns3 rfl hb40 (Nat.le_of_ble_eq_true rfl) rfl [.slice A22 n22 c22, .slice A23 n23 c23, .int .u64 0, .int .i64 0, .int .i64 (er3 Y)] rfl fun v39 hb41 u42 hs43 => ?_
  have hw8 : Ext w v39 := u42.ext hw7 ge10
  refine wl_nil ?_
  refine eo_then ?_
  refine cw_ret ?_
  refine eo_ret [.agg #[.slice A22 n22 c22, .slice A23 n23 c23, .int .u64 0, .int .i64 0, .int .i64 (er3 Y)]] rfl ⟨⟨_, rfl, load_agg aggAns3 hb41 [.slice A22 n22 c22, .slice A23 n23 c23, .int .u64 0, .int .i64 0, .int .i64 (er3 Y)] rfl (Nat.le_of_ble_eq_true rfl) rfl⟩, trivial⟩ ?_
  have hs : spec3 2 kk X Y v = (⟨X / Y, rm3 X Y, 0, 0, er3 Y⟩ : Ans3) := rfl
  rw [hs]
  exact ⟨_, rfl, ⟨_, _, rfl, ⟨_, _, _, rfl, j22, ((((o22.updT hb25 (by decide) u27).updT hb30 (by decide) u32).updT hb35 (by decide) u37).updT hb40 (by decide) u42).mono hb⟩, ⟨_, _, _, rfl, j23, ((((o23.updT hb25 (by decide) u27).updT hb30 (by decide) u32).updT hb35 (by decide) u37).updT hb40 (by decide) u42).mono hb⟩, (len_d3 hXl), (len_rm3 hXl)⟩, hw8⟩
set_option maxHeartbeats 4000000 in
theorem g_wants3_3 {w : World} {b : Nat} (hb : b ≤ w.heap.size) {A : Option Addr} {n cap X : Nat} (hx : Wi w A n cap X) (hl : n ≤ 1048576) {B : Option Addr} {n' cap' Y : Nat} (hy : Wi w B n' cap' Y) (hl' : n' ≤ 1048576) {v : Nat} {kk : Int} (hv : v ≤ 18446744073709551615) (hkk : kk ≤ 9223372036854775807) :
    Calls Try.prog 31 #[.agg #[.int .i64 3, .slice A n cap, .slice B n' cap', .int .u64 ((v : Nat) : Int), .int .i64 kk]] w (Gv w (AnsR3 b (spec3 3 kk X Y v))) := by
  have hXl : (wd X).length ≤ 68719476735 := Nat.le_trans hx.len (Nat.le_trans hl (by decide))
  have hYl : (wd Y).length ≤ 68719476735 := Nat.le_trans hy.len (Nat.le_trans hl' (by decide))
  refine sx_enter Try.func31 rfl (n := 91) rfl (Nat.le_of_ble_eq_true rfl) (args := [.agg #[.int .i64 3, .slice A n cap, .slice B n' cap', .int .u64 ((v : Nat) : Int), .int .i64 kk]]) ?_
  refine cw_keep [(0, .agg #[.int .i64 3, .slice A n cap, .slice B n' cap', .int .u64 ((v : Nat) : Int), .int .i64 kk])] ⟨rfl, trivial⟩ ?_
  refine cw_seq ?_
  refine cw_region ?_
  refine wl_box rfl rfl (vs := [.int .i64 3, .slice A n cap, .slice B n' cap', .int .u64 ((v : Nat) : Int), .int .i64 kk]) rfl (by decide) fun g1 v2 nb => ?_
  have hb4 := nb.bk
  have ge5 : w.heap.size ≤ g1 := by rw [← nb.at_]; exact (Ext.refl w).size
  have e3 := nb.ext
  clear nb
  have hw1 : Ext w v2 := (Ext.refl w).trans e3
  refine wl_alloc rfl (z := .agg #[.slice none 0 0, .slice none 0 0, .int .u64 0, .int .i64 0, .int .i64 0]) (vs := [.slice none 0 0, .slice none 0 0, .int .u64 0, .int .i64 0, .int .i64 0]) (fun _ => by kernel_rfl) rfl (by decide) fun g6 v7 nb => ?_
  have hb9 := nb.bk
  have ge10 : w.heap.size ≤ g6 := by rw [← nb.at_]; exact hw1.size
  have q11 : g1 < g6 := by rw [← nb.at_]; exact hb4.lt
  have e8 := nb.ext
  clear nb
  have hw2 : Ext w v7 := hw1.trans e8
  refine wl_nil ?_
  refine eo_then ?_
  refine cw_seq ?_
  refine cw_region ?_
  refine wl_alloc rfl (z := .agg #[.slice none 0 0, .slice none 0 0, .int .u64 0, .int .i64 0, .int .i64 0]) (vs := [.slice none 0 0, .slice none 0 0, .int .u64 0, .int .i64 0, .int .i64 0]) (fun _ => by kernel_rfl) rfl (by decide) fun g12 v13 nb => ?_
  have hb15 := nb.bk
  have ge16 : w.heap.size ≤ g12 := by rw [← nb.at_]; exact hw2.size
  have q17 : g6 < g12 := by rw [← nb.at_]; exact hb9.lt
  have e14 := nb.ext
  clear nb
  have hw3 : Ext w v13 := hw2.trans e14
  refine wl_nil ?_
  refine eo_then ?_
  refine cw_seq ?_
  refine cw_seq ?_
  refine cw_region ?_
  refine wl_pure rfl rfl (v := .pointer (some ⟨g1, 0, none⟩)) (by decide) (by kernel_rfl) ?_
  refine wl_load rfl rfl (load_cell (fun _ => by kernel_rfl) (hb4.ext (e8.trans e14)) rfl) (by decide) ?_
  refine wl_nil ?_
  refine eo_then ?_
  refine cw_block ?_
  refine cw_seq ?_
  refine cw_region ?_
  refine wl_cmp rfl rfl rfl false (by decide) (by decide) ?_
  refine wl_assign rfl rfl (by decide) ?_
  refine wl_nil ?_
  refine eo_then ?_
  refine cw_false rfl ?_
  refine cw_seq ?_
  refine cw_region ?_
  refine wl_cmp rfl rfl rfl false (by decide) (by decide) ?_
  refine wl_assign rfl rfl (by decide) ?_
  refine wl_nil ?_
  refine eo_then ?_
  refine cw_false rfl ?_
  refine cw_seq ?_
  refine cw_region ?_
  refine wl_cmp rfl rfl rfl true (by decide) (by decide) ?_
  refine wl_assign rfl rfl (by decide) ?_
  refine wl_nil ?_
  refine eo_then ?_
  refine cw_true rfl ?_
  refine cw_region ?_
  refine wl_pure rfl rfl (v := .pointer (some ⟨g1, 1, none⟩)) (by decide) (by kernel_rfl) ?_
  refine wl_load rfl rfl (load_cell (fun _ => by kernel_rfl) (hb4.ext (e8.trans e14)) rfl) (by decide) ?_
  refine wl_pure rfl rfl (v := .pointer (some ⟨g1, 2, none⟩)) (by decide) (by kernel_rfl) ?_
  refine wl_load rfl rfl (load_cell (fun _ => by kernel_rfl) (hb4.ext (e8.trans e14)) rfl) (by decide) ?_
  refine wl_call rfl rfl (vs := [.slice A n cap, .slice B n' cap']) (by kernel_rfl) (by decide) (j3_rExact hw3.size (hx.ext hw3) (Nat.le_trans hl (by decide)) (hy.ext hw3) (Nat.le_trans hl' (by decide))) ?_
  rintro _ v18 ⟨xr20, rfl, r20, e19⟩
  refine ret_intro ?_
  have hw4 : Ext w v18 := hw3.trans e19
  obtain ⟨a21_0, a21_1, rfl, r21_0, r21_1⟩ := r20
  obtain ⟨A22, n22, c22, rfl, j22, o22⟩ := r21_0
  obtain rfl := r21_1
  refine wl_move rfl rfl (by decide) ?_
  refine wl_pure rfl rfl (v := .slice A22 n22 c22) (by decide) (by kernel_rfl) ?_
  refine wl_pure rfl rfl (v := .int .i64 (xe3 X Y)) (by decide) (by kernel_rfl) ?_
  refine wl_pure rfl rfl (v := .pointer (some ⟨g12, 0, none⟩)) (by decide) (by kernel_rfl) ?_
  have hb24 := (hb15.ext e19)
  refine wl_stored1 rfl rfl rfl (fun _ => by kernel_rfl) rfl hb24 (Nat.le_of_ble_eq_true rfl) rfl [.slice A22 n22 c22, .slice none 0 0, .int .u64 0, .int .i64 0, .int .i64 0] rfl fun v23 hb25 u26 hs27 => ?_
  have hw5 : Ext w v23 := u26.ext hw4 ge16
  refine wl_pure rfl rfl (v := .pointer (some ⟨g12, 4, none⟩)) (by decide) (by kernel_rfl) ?_
  have hb29 := hb25
  refine wl_stored1 rfl rfl rfl (fun _ => by kernel_rfl) rfl hb29 (Nat.le_of_ble_eq_true rfl) rfl [.slice A22 n22 c22, .slice none 0 0, .int .u64 0, .int .i64 0, .int .i64 (xe3 X Y)] rfl fun v28 hb30 u31 hs32 => ?_
  have hw6 : Ext w v28 := u31.ext hw5 ge16
  refine wl_nil ?_
  refine eo_block_normal ?_
  refine eo_then ?_
  refine cw_seq ?_
  refine cw_region ?_
  refine wl_load rfl rfl (load_agg aggAns3 hb30 [.slice A22 n22 c22, .slice none 0 0, .int .u64 0, .int .i64 0, .int .i64 (xe3 X Y)] rfl (Nat.le_of_ble_eq_true rfl) rfl) (by decide) ?_
  have hb34 := (((hb9.ext (e14.trans e19)).updN u26 (by omega)).updN u31 (by omega))
  refine wl_stored rfl rfl rfl aggAns3 rfl hb34 (Nat.le_of_ble_eq_true rfl) rfl [.slice A22 n22 c22, .slice none 0 0, .int .u64 0, .int .i64 0, .int .i64 (xe3 X Y)] rfl fun v33 hb35 u36 hs37 => ?_
  have hw7 : Ext w v33 := u36.ext hw6 ge10
  refine wl_nil ?_
  refine eo_then ?_
  refine cw_ret ?_
  refine eo_ret [.agg #[.slice A22 n22 c22, .slice none 0 0, .int .u64 0, .int .i64 0, .int .i64 (xe3 X Y)]] rfl ⟨⟨_, rfl, load_agg aggAns3 hb35 [.slice A22 n22 c22, .slice none 0 0, .int .u64 0, .int .i64 0, .int .i64 (xe3 X Y)] rfl (Nat.le_of_ble_eq_true rfl) rfl⟩, trivial⟩ ?_
  have hs : spec3 3 kk X Y v = (⟨xt3 X Y, 0, 0, 0, xe3 X Y⟩ : Ans3) := rfl
  rw [hs]
  exact ⟨_, rfl, ⟨_, _, rfl, ⟨_, _, _, rfl, j22, (((o22.updT hb24 (by decide) u26).updT hb29 (by decide) u31).updT hb34 (by decide) u36).mono hb⟩, wr_nil3, (len_xt3 hXl), (show (wd 0).length ≤ 68719476735 by decide)⟩, hw7⟩
set_option maxHeartbeats 4000000 in
theorem g_wants3_4 {w : World} {b : Nat} (hb : b ≤ w.heap.size) {A : Option Addr} {n cap X : Nat} (hx : Wi w A n cap X) (hl : n ≤ 1048576) {B : Option Addr} {n' cap' Y : Nat} (hy : Wi w B n' cap' Y) (hl' : n' ≤ 1048576) {v : Nat} {kk : Int} (hv : v ≤ 18446744073709551615) (hkk : kk ≤ 9223372036854775807) :
    Calls Try.prog 31 #[.agg #[.int .i64 4, .slice A n cap, .slice B n' cap', .int .u64 ((v : Nat) : Int), .int .i64 kk]] w (Gv w (AnsR3 b (spec3 4 kk X Y v))) := by
  have hXl : (wd X).length ≤ 68719476735 := Nat.le_trans hx.len (Nat.le_trans hl (by decide))
  have hYl : (wd Y).length ≤ 68719476735 := Nat.le_trans hy.len (Nat.le_trans hl' (by decide))
  refine sx_enter Try.func31 rfl (n := 91) rfl (Nat.le_of_ble_eq_true rfl) (args := [.agg #[.int .i64 4, .slice A n cap, .slice B n' cap', .int .u64 ((v : Nat) : Int), .int .i64 kk]]) ?_
  refine cw_keep [(0, .agg #[.int .i64 4, .slice A n cap, .slice B n' cap', .int .u64 ((v : Nat) : Int), .int .i64 kk])] ⟨rfl, trivial⟩ ?_
  refine cw_seq ?_
  refine cw_region ?_
  refine wl_box rfl rfl (vs := [.int .i64 4, .slice A n cap, .slice B n' cap', .int .u64 ((v : Nat) : Int), .int .i64 kk]) rfl (by decide) fun g1 v2 nb => ?_
  have hb4 := nb.bk
  have ge5 : w.heap.size ≤ g1 := by rw [← nb.at_]; exact (Ext.refl w).size
  have e3 := nb.ext
  clear nb
  have hw1 : Ext w v2 := (Ext.refl w).trans e3
  refine wl_alloc rfl (z := .agg #[.slice none 0 0, .slice none 0 0, .int .u64 0, .int .i64 0, .int .i64 0]) (vs := [.slice none 0 0, .slice none 0 0, .int .u64 0, .int .i64 0, .int .i64 0]) (fun _ => by kernel_rfl) rfl (by decide) fun g6 v7 nb => ?_
  have hb9 := nb.bk
  have ge10 : w.heap.size ≤ g6 := by rw [← nb.at_]; exact hw1.size
  have q11 : g1 < g6 := by rw [← nb.at_]; exact hb4.lt
  have e8 := nb.ext
  clear nb
  have hw2 : Ext w v7 := hw1.trans e8
  refine wl_nil ?_
  refine eo_then ?_
  refine cw_seq ?_
  refine cw_region ?_
  refine wl_alloc rfl (z := .agg #[.slice none 0 0, .slice none 0 0, .int .u64 0, .int .i64 0, .int .i64 0]) (vs := [.slice none 0 0, .slice none 0 0, .int .u64 0, .int .i64 0, .int .i64 0]) (fun _ => by kernel_rfl) rfl (by decide) fun g12 v13 nb => ?_
  have hb15 := nb.bk
  have ge16 : w.heap.size ≤ g12 := by rw [← nb.at_]; exact hw2.size
  have q17 : g6 < g12 := by rw [← nb.at_]; exact hb9.lt
  have e14 := nb.ext
  clear nb
  have hw3 : Ext w v13 := hw2.trans e14
  refine wl_nil ?_
  refine eo_then ?_
  refine cw_seq ?_
  refine cw_seq ?_
  refine cw_region ?_
  refine wl_pure rfl rfl (v := .pointer (some ⟨g1, 0, none⟩)) (by decide) (by kernel_rfl) ?_
  refine wl_load rfl rfl (load_cell (fun _ => by kernel_rfl) (hb4.ext (e8.trans e14)) rfl) (by decide) ?_
  refine wl_nil ?_
  refine eo_then ?_
  refine cw_block ?_
  refine cw_seq ?_
  refine cw_region ?_
  refine wl_cmp rfl rfl rfl false (by decide) (by decide) ?_
  refine wl_assign rfl rfl (by decide) ?_
  refine wl_nil ?_
  refine eo_then ?_
  refine cw_false rfl ?_
  refine cw_seq ?_
  refine cw_region ?_
  refine wl_cmp rfl rfl rfl false (by decide) (by decide) ?_
  refine wl_assign rfl rfl (by decide) ?_
  refine wl_nil ?_
  refine eo_then ?_
  refine cw_false rfl ?_
  refine cw_seq ?_
  refine cw_region ?_
  refine wl_cmp rfl rfl rfl false (by decide) (by decide) ?_
  refine wl_assign rfl rfl (by decide) ?_
  refine wl_nil ?_
  refine eo_then ?_
  refine cw_false rfl ?_
  refine cw_seq ?_
  refine cw_region ?_
  refine wl_cmp rfl rfl rfl true (by decide) (by decide) ?_
  refine wl_assign rfl rfl (by decide) ?_
  refine wl_nil ?_
  refine eo_then ?_
  refine cw_true rfl ?_
  refine cw_region ?_
  refine wl_pure rfl rfl (v := .pointer (some ⟨g1, 1, none⟩)) (by decide) (by kernel_rfl) ?_
  refine wl_load rfl rfl (load_cell (fun _ => by kernel_rfl) (hb4.ext (e8.trans e14)) rfl) (by decide) ?_
  refine wl_pure rfl rfl (v := .pointer (some ⟨g1, 2, none⟩)) (by decide) (by kernel_rfl) ?_
  refine wl_load rfl rfl (load_cell (fun _ => by kernel_rfl) (hb4.ext (e8.trans e14)) rfl) (by decide) ?_
  refine wl_call rfl rfl (vs := [.slice A n cap, .slice B n' cap']) (by kernel_rfl) (by decide) (j3_rGcd hw3.size (hx.ext hw3) (Nat.le_trans hl (by decide)) (hy.ext hw3) (Nat.le_trans hl' (by decide))) ?_
  rintro _ v18 ⟨xr20, rfl, r20, e19⟩
  refine ret_intro ?_
  have hw4 : Ext w v18 := hw3.trans e19
  obtain ⟨A21, n21, c21, rfl, j21, o21⟩ := r20
  refine wl_pure rfl rfl (v := .pointer (some ⟨g12, 0, none⟩)) (by decide) (by kernel_rfl) ?_
  have hb23 := (hb15.ext e19)
  refine wl_stored1 rfl rfl rfl (fun _ => by kernel_rfl) rfl hb23 (Nat.le_of_ble_eq_true rfl) rfl [.slice A21 n21 c21, .slice none 0 0, .int .u64 0, .int .i64 0, .int .i64 0] rfl fun v22 hb24 u25 hs26 => ?_
  have hw5 : Ext w v22 := u25.ext hw4 ge16
  refine wl_nil ?_
  refine eo_block_normal ?_
  refine eo_then ?_
  refine cw_seq ?_
  refine cw_region ?_
  refine wl_load rfl rfl (load_agg aggAns3 hb24 [.slice A21 n21 c21, .slice none 0 0, .int .u64 0, .int .i64 0, .int .i64 0] rfl (Nat.le_of_ble_eq_true rfl) rfl) (by decide) ?_
  have hb28 := ((hb9.ext (e14.trans e19)).updN u25 (by omega))
  refine wl_stored rfl rfl rfl aggAns3 rfl hb28 (Nat.le_of_ble_eq_true rfl) rfl [.slice A21 n21 c21, .slice none 0 0, .int .u64 0, .int .i64 0, .int .i64 0] rfl fun v27 hb29 u30 hs31 => ?_
  have hw6 : Ext w v27 := u30.ext hw5 ge10
  refine wl_nil ?_
  refine eo_then ?_
  refine cw_ret ?_
  refine eo_ret [.agg #[.slice A21 n21 c21, .slice none 0 0, .int .u64 0, .int .i64 0, .int .i64 0]] rfl ⟨⟨_, rfl, load_agg aggAns3 hb29 [.slice A21 n21 c21, .slice none 0 0, .int .u64 0, .int .i64 0, .int .i64 0] rfl (Nat.le_of_ble_eq_true rfl) rfl⟩, trivial⟩ ?_
  have hs : spec3 4 kk X Y v = (⟨Nat.gcd X Y, 0, 0, 0, 0⟩ : Ans3) := by unfold spec3; rw [if_neg (by decide), if_neg (by decide), if_neg (by decide), if_pos rfl]
  rw [hs]
  exact ⟨_, rfl, ⟨_, _, rfl, ⟨_, _, _, rfl, j21, ((o21.updT hb23 (by decide) u25).updT hb28 (by decide) u30).mono hb⟩, wr_nil3, (len_gcd3 hXl hYl), (show (wd 0).length ≤ 68719476735 by decide)⟩, hw6⟩
set_option maxHeartbeats 4000000 in
theorem g_wants3_5 {w : World} {b : Nat} (hb : b ≤ w.heap.size) {A : Option Addr} {n cap X : Nat} (hx : Wi w A n cap X) (hl : n ≤ 1048576) {B : Option Addr} {n' cap' Y : Nat} (hy : Wi w B n' cap' Y) (hl' : n' ≤ 1048576) {v : Nat} {kk : Int} (hv : v ≤ 18446744073709551615) (hkk : kk ≤ 9223372036854775807) :
    Calls Try.prog 31 #[.agg #[.int .i64 5, .slice A n cap, .slice B n' cap', .int .u64 ((v : Nat) : Int), .int .i64 kk]] w (Gv w (AnsR3 b (spec3 5 kk X Y v))) := by
  have hXl : (wd X).length ≤ 68719476735 := Nat.le_trans hx.len (Nat.le_trans hl (by decide))
  have hYl : (wd Y).length ≤ 68719476735 := Nat.le_trans hy.len (Nat.le_trans hl' (by decide))
  refine sx_enter Try.func31 rfl (n := 91) rfl (Nat.le_of_ble_eq_true rfl) (args := [.agg #[.int .i64 5, .slice A n cap, .slice B n' cap', .int .u64 ((v : Nat) : Int), .int .i64 kk]]) ?_
  refine cw_keep [(0, .agg #[.int .i64 5, .slice A n cap, .slice B n' cap', .int .u64 ((v : Nat) : Int), .int .i64 kk])] ⟨rfl, trivial⟩ ?_
  refine cw_seq ?_
  refine cw_region ?_
  refine wl_box rfl rfl (vs := [.int .i64 5, .slice A n cap, .slice B n' cap', .int .u64 ((v : Nat) : Int), .int .i64 kk]) rfl (by decide) fun g1 v2 nb => ?_
  have hb4 := nb.bk
  have ge5 : w.heap.size ≤ g1 := by rw [← nb.at_]; exact (Ext.refl w).size
  have e3 := nb.ext
  clear nb
  have hw1 : Ext w v2 := (Ext.refl w).trans e3
  refine wl_alloc rfl (z := .agg #[.slice none 0 0, .slice none 0 0, .int .u64 0, .int .i64 0, .int .i64 0]) (vs := [.slice none 0 0, .slice none 0 0, .int .u64 0, .int .i64 0, .int .i64 0]) (fun _ => by kernel_rfl) rfl (by decide) fun g6 v7 nb => ?_
  have hb9 := nb.bk
  have ge10 : w.heap.size ≤ g6 := by rw [← nb.at_]; exact hw1.size
  have q11 : g1 < g6 := by rw [← nb.at_]; exact hb4.lt
  have e8 := nb.ext
  clear nb
  have hw2 : Ext w v7 := hw1.trans e8
  refine wl_nil ?_
  refine eo_then ?_
  refine cw_seq ?_
  refine cw_region ?_
  refine wl_alloc rfl (z := .agg #[.slice none 0 0, .slice none 0 0, .int .u64 0, .int .i64 0, .int .i64 0]) (vs := [.slice none 0 0, .slice none 0 0, .int .u64 0, .int .i64 0, .int .i64 0]) (fun _ => by kernel_rfl) rfl (by decide) fun g12 v13 nb => ?_
  have hb15 := nb.bk
  have ge16 : w.heap.size ≤ g12 := by rw [← nb.at_]; exact hw2.size
  have q17 : g6 < g12 := by rw [← nb.at_]; exact hb9.lt
  have e14 := nb.ext
  clear nb
  have hw3 : Ext w v13 := hw2.trans e14
  refine wl_nil ?_
  refine eo_then ?_
  refine cw_seq ?_
  refine cw_seq ?_
  refine cw_region ?_
  refine wl_pure rfl rfl (v := .pointer (some ⟨g1, 0, none⟩)) (by decide) (by kernel_rfl) ?_
  refine wl_load rfl rfl (load_cell (fun _ => by kernel_rfl) (hb4.ext (e8.trans e14)) rfl) (by decide) ?_
  refine wl_nil ?_
  refine eo_then ?_
  refine cw_block ?_
  refine cw_seq ?_
  refine cw_region ?_
  refine wl_cmp rfl rfl rfl false (by decide) (by decide) ?_
  refine wl_assign rfl rfl (by decide) ?_
  refine wl_nil ?_
  refine eo_then ?_
  refine cw_false rfl ?_
  refine cw_seq ?_
  refine cw_region ?_
  refine wl_cmp rfl rfl rfl false (by decide) (by decide) ?_
  refine wl_assign rfl rfl (by decide) ?_
  refine wl_nil ?_
  refine eo_then ?_
  refine cw_false rfl ?_
  refine cw_seq ?_
  refine cw_region ?_
  refine wl_cmp rfl rfl rfl false (by decide) (by decide) ?_
  refine wl_assign rfl rfl (by decide) ?_
  refine wl_nil ?_
  refine eo_then ?_
  refine cw_false rfl ?_
  refine cw_seq ?_
  refine cw_region ?_
  refine wl_cmp rfl rfl rfl false (by decide) (by decide) ?_
  refine wl_assign rfl rfl (by decide) ?_
  refine wl_nil ?_
  refine eo_then ?_
  refine cw_false rfl ?_
  refine cw_seq ?_
  refine cw_region ?_
  refine wl_cmp rfl rfl rfl true (by decide) (by decide) ?_
  refine wl_assign rfl rfl (by decide) ?_
  refine wl_nil ?_
  refine eo_then ?_
  refine cw_true rfl ?_
  refine cw_region ?_
  refine wl_pure rfl rfl (v := .pointer (some ⟨g1, 1, none⟩)) (by decide) (by kernel_rfl) ?_
  refine wl_load rfl rfl (load_cell (fun _ => by kernel_rfl) (hb4.ext (e8.trans e14)) rfl) (by decide) ?_
  refine wl_call rfl rfl (vs := [.slice A n cap]) (by kernel_rfl) (by decide) (j3_rSqrt hw3.size (hx.ext hw3) (Nat.le_trans hl (by decide))) ?_
  rintro _ v18 ⟨xr20, rfl, r20, e19⟩
  refine ret_intro ?_
  have hw4 : Ext w v18 := hw3.trans e19
  obtain ⟨a21_0, a21_1, rfl, r21_0, r21_1⟩ := r20
  obtain ⟨A22, n22, c22, rfl, j22, o22⟩ := r21_0
  obtain ⟨A23, n23, c23, rfl, j23, o23⟩ := r21_1
  refine wl_move rfl rfl (by decide) ?_
  refine wl_pure rfl rfl (v := .slice A22 n22 c22) (by decide) (by kernel_rfl) ?_
  refine wl_pure rfl rfl (v := .slice A23 n23 c23) (by decide) (by kernel_rfl) ?_
  refine wl_pure rfl rfl (v := .pointer (some ⟨g12, 0, none⟩)) (by decide) (by kernel_rfl) ?_
  have hb25 := (hb15.ext e19)
  refine wl_stored1 rfl rfl rfl (fun _ => by kernel_rfl) rfl hb25 (Nat.le_of_ble_eq_true rfl) rfl [.slice A22 n22 c22, .slice none 0 0, .int .u64 0, .int .i64 0, .int .i64 0] rfl fun v24 hb26 u27 hs28 => ?_
  have hw5 : Ext w v24 := u27.ext hw4 ge16
  refine wl_pure rfl rfl (v := .pointer (some ⟨g12, 1, none⟩)) (by decide) (by kernel_rfl) ?_
  have hb30 := hb26
  refine wl_stored1 rfl rfl rfl (fun _ => by kernel_rfl) rfl hb30 (Nat.le_of_ble_eq_true rfl) rfl [.slice A22 n22 c22, .slice A23 n23 c23, .int .u64 0, .int .i64 0, .int .i64 0] rfl fun v29 hb31 u32 hs33 => ?_
  have hw6 : Ext w v29 := u32.ext hw5 ge16
  refine wl_nil ?_
  refine eo_block_normal ?_
  refine eo_then ?_
  refine cw_seq ?_
  refine cw_region ?_
  refine wl_load rfl rfl (load_agg aggAns3 hb31 [.slice A22 n22 c22, .slice A23 n23 c23, .int .u64 0, .int .i64 0, .int .i64 0] rfl (Nat.le_of_ble_eq_true rfl) rfl) (by decide) ?_
  have hb35 := (((hb9.ext (e14.trans e19)).updN u27 (by omega)).updN u32 (by omega))
  refine wl_stored rfl rfl rfl aggAns3 rfl hb35 (Nat.le_of_ble_eq_true rfl) rfl [.slice A22 n22 c22, .slice A23 n23 c23, .int .u64 0, .int .i64 0, .int .i64 0] rfl fun v34 hb36 u37 hs38 => ?_
  have hw7 : Ext w v34 := u37.ext hw6 ge10
  refine wl_nil ?_
  refine eo_then ?_
  refine cw_ret ?_
  refine eo_ret [.agg #[.slice A22 n22 c22, .slice A23 n23 c23, .int .u64 0, .int .i64 0, .int .i64 0]] rfl ⟨⟨_, rfl, load_agg aggAns3 hb36 [.slice A22 n22 c22, .slice A23 n23 c23, .int .u64 0, .int .i64 0, .int .i64 0] rfl (Nat.le_of_ble_eq_true rfl) rfl⟩, trivial⟩ ?_
  have hs : spec3 5 kk X Y v = (⟨rt3 X 2, X - rt3 X 2 * rt3 X 2, 0, 0, 0⟩ : Ans3) := by unfold spec3; rw [if_neg (by decide), if_neg (by decide), if_neg (by decide), if_neg (by decide), if_pos rfl]
  rw [hs]
  exact ⟨_, rfl, ⟨_, _, rfl, ⟨_, _, _, rfl, j22, (((o22.updT hb25 (by decide) u27).updT hb30 (by decide) u32).updT hb35 (by decide) u37).mono hb⟩, ⟨_, _, _, rfl, j23, (((o23.updT hb25 (by decide) u27).updT hb30 (by decide) u32).updT hb35 (by decide) u37).mono hb⟩, (len_rt3 (by decide) hXl), (len_sub3 hXl)⟩, hw7⟩
set_option maxHeartbeats 4000000 in
theorem g_wants3_6 {w : World} {b : Nat} (hb : b ≤ w.heap.size) {A : Option Addr} {n cap X : Nat} (hx : Wi w A n cap X) (hl : n ≤ 1048576) {B : Option Addr} {n' cap' Y : Nat} (hy : Wi w B n' cap' Y) (hl' : n' ≤ 1048576) {v : Nat} {kk : Int} (hv : v ≤ 18446744073709551615) (hkk : kk ≤ 9223372036854775807) :
    Calls Try.prog 31 #[.agg #[.int .i64 6, .slice A n cap, .slice B n' cap', .int .u64 ((v : Nat) : Int), .int .i64 kk]] w (Gv w (AnsR3 b (spec3 6 kk X Y v))) := by
  have hXl : (wd X).length ≤ 68719476735 := Nat.le_trans hx.len (Nat.le_trans hl (by decide))
  have hYl : (wd Y).length ≤ 68719476735 := Nat.le_trans hy.len (Nat.le_trans hl' (by decide))
  refine sx_enter Try.func31 rfl (n := 91) rfl (Nat.le_of_ble_eq_true rfl) (args := [.agg #[.int .i64 6, .slice A n cap, .slice B n' cap', .int .u64 ((v : Nat) : Int), .int .i64 kk]]) ?_
  refine cw_keep [(0, .agg #[.int .i64 6, .slice A n cap, .slice B n' cap', .int .u64 ((v : Nat) : Int), .int .i64 kk])] ⟨rfl, trivial⟩ ?_
  refine cw_seq ?_
  refine cw_region ?_
  refine wl_box rfl rfl (vs := [.int .i64 6, .slice A n cap, .slice B n' cap', .int .u64 ((v : Nat) : Int), .int .i64 kk]) rfl (by decide) fun g1 v2 nb => ?_
  have hb4 := nb.bk
  have ge5 : w.heap.size ≤ g1 := by rw [← nb.at_]; exact (Ext.refl w).size
  have e3 := nb.ext
  clear nb
  have hw1 : Ext w v2 := (Ext.refl w).trans e3
  refine wl_alloc rfl (z := .agg #[.slice none 0 0, .slice none 0 0, .int .u64 0, .int .i64 0, .int .i64 0]) (vs := [.slice none 0 0, .slice none 0 0, .int .u64 0, .int .i64 0, .int .i64 0]) (fun _ => by kernel_rfl) rfl (by decide) fun g6 v7 nb => ?_
  have hb9 := nb.bk
  have ge10 : w.heap.size ≤ g6 := by rw [← nb.at_]; exact hw1.size
  have q11 : g1 < g6 := by rw [← nb.at_]; exact hb4.lt
  have e8 := nb.ext
  clear nb
  have hw2 : Ext w v7 := hw1.trans e8
  refine wl_nil ?_
  refine eo_then ?_
  refine cw_seq ?_
  refine cw_region ?_
  refine wl_alloc rfl (z := .agg #[.slice none 0 0, .slice none 0 0, .int .u64 0, .int .i64 0, .int .i64 0]) (vs := [.slice none 0 0, .slice none 0 0, .int .u64 0, .int .i64 0, .int .i64 0]) (fun _ => by kernel_rfl) rfl (by decide) fun g12 v13 nb => ?_
  have hb15 := nb.bk
  have ge16 : w.heap.size ≤ g12 := by rw [← nb.at_]; exact hw2.size
  have q17 : g6 < g12 := by rw [← nb.at_]; exact hb9.lt
  have e14 := nb.ext
  clear nb
  have hw3 : Ext w v13 := hw2.trans e14
  refine wl_nil ?_
  refine eo_then ?_
  refine cw_seq ?_
  refine cw_seq ?_
  refine cw_region ?_
  refine wl_pure rfl rfl (v := .pointer (some ⟨g1, 0, none⟩)) (by decide) (by kernel_rfl) ?_
  refine wl_load rfl rfl (load_cell (fun _ => by kernel_rfl) (hb4.ext (e8.trans e14)) rfl) (by decide) ?_
  refine wl_nil ?_
  refine eo_then ?_
  refine cw_block ?_
  refine cw_seq ?_
  refine cw_region ?_
  refine wl_cmp rfl rfl rfl false (by decide) (by decide) ?_
  refine wl_assign rfl rfl (by decide) ?_
  refine wl_nil ?_
  refine eo_then ?_
  refine cw_false rfl ?_
  refine cw_seq ?_
  refine cw_region ?_
  refine wl_cmp rfl rfl rfl false (by decide) (by decide) ?_
  refine wl_assign rfl rfl (by decide) ?_
  refine wl_nil ?_
  refine eo_then ?_
  refine cw_false rfl ?_
  refine cw_seq ?_
  refine cw_region ?_
  refine wl_cmp rfl rfl rfl false (by decide) (by decide) ?_
  refine wl_assign rfl rfl (by decide) ?_
  refine wl_nil ?_
  refine eo_then ?_
  refine cw_false rfl ?_
  refine cw_seq ?_
  refine cw_region ?_
  refine wl_cmp rfl rfl rfl false (by decide) (by decide) ?_
  refine wl_assign rfl rfl (by decide) ?_
  refine wl_nil ?_
  refine eo_then ?_
  refine cw_false rfl ?_
  refine cw_seq ?_
  refine cw_region ?_
  refine wl_cmp rfl rfl rfl false (by decide) (by decide) ?_
  refine wl_assign rfl rfl (by decide) ?_
  refine wl_nil ?_
  refine eo_then ?_
  refine cw_false rfl ?_
  refine cw_seq ?_
  refine cw_region ?_
  refine wl_cmp rfl rfl rfl true (by decide) (by decide) ?_
  refine wl_assign rfl rfl (by decide) ?_
  refine wl_nil ?_
  refine eo_then ?_
  refine cw_true rfl ?_
  refine cw_region ?_
  refine wl_pure rfl rfl (v := .pointer (some ⟨g1, 1, none⟩)) (by decide) (by kernel_rfl) ?_
  refine wl_load rfl rfl (load_cell (fun _ => by kernel_rfl) (hb4.ext (e8.trans e14)) rfl) (by decide) ?_
  refine wl_pure rfl rfl (v := .pointer (some ⟨g1, 2, none⟩)) (by decide) (by kernel_rfl) ?_
  refine wl_load rfl rfl (load_cell (fun _ => by kernel_rfl) (hb4.ext (e8.trans e14)) rfl) (by decide) ?_
  refine wl_call rfl rfl (vs := [.slice A n cap, .slice B n' cap']) (by kernel_rfl) (by decide) (j3_rStrip hw3.size (hx.ext hw3) (Nat.le_trans hl (by decide)) (hy.ext hw3) (Nat.le_trans hl' (by decide))) ?_
  rintro _ v18 ⟨xr20, rfl, r20, e19⟩
  refine ret_intro ?_
  have hw4 : Ext w v18 := hw3.trans e19
  obtain ⟨a21_0, a21_1, a21_2, rfl, r21_0, r21_1, r21_2⟩ := r20
  obtain rfl := r21_0
  obtain ⟨A22, n22, c22, rfl, j22, o22⟩ := r21_1
  obtain rfl := r21_2
  refine wl_move rfl rfl (by decide) ?_
  refine wl_pure rfl rfl (v := .int .i64 ((stN X Y : Nat) : Int)) (by decide) (by kernel_rfl) ?_
  refine wl_pure rfl rfl (v := .slice A22 n22 c22) (by decide) (by kernel_rfl) ?_
  refine wl_pure rfl rfl (v := .int .i64 (stE X Y)) (by decide) (by kernel_rfl) ?_
  refine wl_pure rfl rfl (v := .pointer (some ⟨g12, 3, none⟩)) (by decide) (by kernel_rfl) ?_
  have hb24 := (hb15.ext e19)
  refine wl_stored1 rfl rfl rfl (fun _ => by kernel_rfl) rfl hb24 (Nat.le_of_ble_eq_true rfl) rfl [.slice none 0 0, .slice none 0 0, .int .u64 0, .int .i64 ((stN X Y : Nat) : Int), .int .i64 0] rfl fun v23 hb25 u26 hs27 => ?_
  have hw5 : Ext w v23 := u26.ext hw4 ge16
  refine wl_pure rfl rfl (v := .pointer (some ⟨g12, 0, none⟩)) (by decide) (by kernel_rfl) ?_
  have hb29 := hb25
  refine wl_stored1 rfl rfl rfl (fun _ => by kernel_rfl) rfl hb29 (Nat.le_of_ble_eq_true rfl) rfl [.slice A22 n22 c22, .slice none 0 0, .int .u64 0, .int .i64 ((stN X Y : Nat) : Int), .int .i64 0] rfl fun v28 hb30 u31 hs32 => ?_
  have hw6 : Ext w v28 := u31.ext hw5 ge16
  refine wl_pure rfl rfl (v := .pointer (some ⟨g12, 4, none⟩)) (by decide) (by kernel_rfl) ?_
  have hb34 := hb30
  refine wl_stored1 rfl rfl rfl (fun _ => by kernel_rfl) rfl hb34 (Nat.le_of_ble_eq_true rfl) rfl [.slice A22 n22 c22, .slice none 0 0, .int .u64 0, .int .i64 ((stN X Y : Nat) : Int), .int .i64 (stE X Y)] rfl fun v33 hb35 u36 hs37 => ?_
  have hw7 : Ext w v33 := u36.ext hw6 ge16
  refine wl_nil ?_
  refine eo_block_normal ?_
  refine eo_then ?_
  refine cw_seq ?_
  refine cw_region ?_
  refine wl_load rfl rfl (load_agg aggAns3 hb35 [.slice A22 n22 c22, .slice none 0 0, .int .u64 0, .int .i64 ((stN X Y : Nat) : Int), .int .i64 (stE X Y)] rfl (Nat.le_of_ble_eq_true rfl) rfl) (by decide) ?_
  have hb39 := ((((hb9.ext (e14.trans e19)).updN u26 (by omega)).updN u31 (by omega)).updN u36 (by omega))
  refine wl_stored rfl rfl rfl aggAns3 rfl hb39 (Nat.le_of_ble_eq_true rfl) rfl [.slice A22 n22 c22, .slice none 0 0, .int .u64 0, .int .i64 ((stN X Y : Nat) : Int), .int .i64 (stE X Y)] rfl fun v38 hb40 u41 hs42 => ?_
  have hw8 : Ext w v38 := u41.ext hw7 ge10
  refine wl_nil ?_
  refine eo_then ?_
  refine cw_ret ?_
  refine eo_ret [.agg #[.slice A22 n22 c22, .slice none 0 0, .int .u64 0, .int .i64 ((stN X Y : Nat) : Int), .int .i64 (stE X Y)]] rfl ⟨⟨_, rfl, load_agg aggAns3 hb40 [.slice A22 n22 c22, .slice none 0 0, .int .u64 0, .int .i64 ((stN X Y : Nat) : Int), .int .i64 (stE X Y)] rfl (Nat.le_of_ble_eq_true rfl) rfl⟩, trivial⟩ ?_
  have hs : spec3 6 kk X Y v = (⟨stL X Y, 0, 0, ((stN X Y : Nat) : Int), stE X Y⟩ : Ans3) := by unfold spec3; rw [if_neg (by decide), if_neg (by decide), if_neg (by decide), if_neg (by decide), if_neg (by decide), if_pos rfl]
  rw [hs]
  exact ⟨_, rfl, ⟨_, _, rfl, ⟨_, _, _, rfl, j22, ((((o22.updT hb24 (by decide) u26).updT hb29 (by decide) u31).updT hb34 (by decide) u36).updT hb39 (by decide) u41).mono hb⟩, wr_nil3, (len_stL hXl), (show (wd 0).length ≤ 68719476735 by decide)⟩, hw8⟩
set_option maxHeartbeats 4000000 in
theorem g_wants3_7 {w : World} {b : Nat} (hb : b ≤ w.heap.size) {A : Option Addr} {n cap X : Nat} (hx : Wi w A n cap X) (hl : n ≤ 1048576) {B : Option Addr} {n' cap' Y : Nat} (hy : Wi w B n' cap' Y) (hl' : n' ≤ 1048576) {v : Nat} {kk : Int} (hv : v ≤ 18446744073709551615) (hkk : kk ≤ 9223372036854775807) :
    Calls Try.prog 31 #[.agg #[.int .i64 7, .slice A n cap, .slice B n' cap', .int .u64 ((v : Nat) : Int), .int .i64 kk]] w (Gv w (AnsR3 b (spec3 7 kk X Y v))) := by
  have hXl : (wd X).length ≤ 68719476735 := Nat.le_trans hx.len (Nat.le_trans hl (by decide))
  have hYl : (wd Y).length ≤ 68719476735 := Nat.le_trans hy.len (Nat.le_trans hl' (by decide))
  refine sx_enter Try.func31 rfl (n := 91) rfl (Nat.le_of_ble_eq_true rfl) (args := [.agg #[.int .i64 7, .slice A n cap, .slice B n' cap', .int .u64 ((v : Nat) : Int), .int .i64 kk]]) ?_
  refine cw_keep [(0, .agg #[.int .i64 7, .slice A n cap, .slice B n' cap', .int .u64 ((v : Nat) : Int), .int .i64 kk])] ⟨rfl, trivial⟩ ?_
  refine cw_seq ?_
  refine cw_region ?_
  refine wl_box rfl rfl (vs := [.int .i64 7, .slice A n cap, .slice B n' cap', .int .u64 ((v : Nat) : Int), .int .i64 kk]) rfl (by decide) fun g1 v2 nb => ?_
  have hb4 := nb.bk
  have ge5 : w.heap.size ≤ g1 := by rw [← nb.at_]; exact (Ext.refl w).size
  have e3 := nb.ext
  clear nb
  have hw1 : Ext w v2 := (Ext.refl w).trans e3
  refine wl_alloc rfl (z := .agg #[.slice none 0 0, .slice none 0 0, .int .u64 0, .int .i64 0, .int .i64 0]) (vs := [.slice none 0 0, .slice none 0 0, .int .u64 0, .int .i64 0, .int .i64 0]) (fun _ => by kernel_rfl) rfl (by decide) fun g6 v7 nb => ?_
  have hb9 := nb.bk
  have ge10 : w.heap.size ≤ g6 := by rw [← nb.at_]; exact hw1.size
  have q11 : g1 < g6 := by rw [← nb.at_]; exact hb4.lt
  have e8 := nb.ext
  clear nb
  have hw2 : Ext w v7 := hw1.trans e8
  refine wl_nil ?_
  refine eo_then ?_
  refine cw_seq ?_
  refine cw_region ?_
  refine wl_alloc rfl (z := .agg #[.slice none 0 0, .slice none 0 0, .int .u64 0, .int .i64 0, .int .i64 0]) (vs := [.slice none 0 0, .slice none 0 0, .int .u64 0, .int .i64 0, .int .i64 0]) (fun _ => by kernel_rfl) rfl (by decide) fun g12 v13 nb => ?_
  have hb15 := nb.bk
  have ge16 : w.heap.size ≤ g12 := by rw [← nb.at_]; exact hw2.size
  have q17 : g6 < g12 := by rw [← nb.at_]; exact hb9.lt
  have e14 := nb.ext
  clear nb
  have hw3 : Ext w v13 := hw2.trans e14
  refine wl_nil ?_
  refine eo_then ?_
  refine cw_seq ?_
  refine cw_seq ?_
  refine cw_region ?_
  refine wl_pure rfl rfl (v := .pointer (some ⟨g1, 0, none⟩)) (by decide) (by kernel_rfl) ?_
  refine wl_load rfl rfl (load_cell (fun _ => by kernel_rfl) (hb4.ext (e8.trans e14)) rfl) (by decide) ?_
  refine wl_nil ?_
  refine eo_then ?_
  refine cw_block ?_
  refine cw_seq ?_
  refine cw_region ?_
  refine wl_cmp rfl rfl rfl false (by decide) (by decide) ?_
  refine wl_assign rfl rfl (by decide) ?_
  refine wl_nil ?_
  refine eo_then ?_
  refine cw_false rfl ?_
  refine cw_seq ?_
  refine cw_region ?_
  refine wl_cmp rfl rfl rfl false (by decide) (by decide) ?_
  refine wl_assign rfl rfl (by decide) ?_
  refine wl_nil ?_
  refine eo_then ?_
  refine cw_false rfl ?_
  refine cw_seq ?_
  refine cw_region ?_
  refine wl_cmp rfl rfl rfl false (by decide) (by decide) ?_
  refine wl_assign rfl rfl (by decide) ?_
  refine wl_nil ?_
  refine eo_then ?_
  refine cw_false rfl ?_
  refine cw_seq ?_
  refine cw_region ?_
  refine wl_cmp rfl rfl rfl false (by decide) (by decide) ?_
  refine wl_assign rfl rfl (by decide) ?_
  refine wl_nil ?_
  refine eo_then ?_
  refine cw_false rfl ?_
  refine cw_seq ?_
  refine cw_region ?_
  refine wl_cmp rfl rfl rfl false (by decide) (by decide) ?_
  refine wl_assign rfl rfl (by decide) ?_
  refine wl_nil ?_
  refine eo_then ?_
  refine cw_false rfl ?_
  refine cw_seq ?_
  refine cw_region ?_
  refine wl_cmp rfl rfl rfl false (by decide) (by decide) ?_
  refine wl_assign rfl rfl (by decide) ?_
  refine wl_nil ?_
  refine eo_then ?_
  refine cw_false rfl ?_
  refine cw_seq ?_
  refine cw_region ?_
  refine wl_cmp rfl rfl rfl true (by decide) (by decide) ?_
  refine wl_assign rfl rfl (by decide) ?_
  refine wl_nil ?_
  refine eo_then ?_
  refine cw_true rfl ?_
  refine cw_region ?_
  refine wl_pure rfl rfl (v := .pointer (some ⟨g1, 1, none⟩)) (by decide) (by kernel_rfl) ?_
  refine wl_load rfl rfl (load_cell (fun _ => by kernel_rfl) (hb4.ext (e8.trans e14)) rfl) (by decide) ?_
  refine wl_pure rfl rfl (v := .pointer (some ⟨g1, 4, none⟩)) (by decide) (by kernel_rfl) ?_
  refine wl_load rfl rfl (load_cell (fun _ => by kernel_rfl) (hb4.ext (e8.trans e14)) rfl) (by decide) ?_
  refine wl_call rfl rfl (vs := [.slice A n cap, .int .i64 kk]) (by kernel_rfl) (by decide) (j3_rRoot hw3.size (hx.ext hw3) (Nat.le_trans hl (by decide)) hkk) ?_
  rintro _ v18 ⟨xr20, rfl, r20, e19⟩
  refine ret_intro ?_
  have hw4 : Ext w v18 := hw3.trans e19
  obtain ⟨a21_0, a21_1, rfl, r21_0, r21_1⟩ := r20
  obtain ⟨A22, n22, c22, rfl, j22, o22⟩ := r21_0
  obtain rfl := r21_1
  refine wl_move rfl rfl (by decide) ?_
  refine wl_pure rfl rfl (v := .slice A22 n22 c22) (by decide) (by kernel_rfl) ?_
  refine wl_pure rfl rfl (v := .int .i64 (roE kk)) (by decide) (by kernel_rfl) ?_
  refine wl_pure rfl rfl (v := .pointer (some ⟨g12, 0, none⟩)) (by decide) (by kernel_rfl) ?_
  have hb24 := (hb15.ext e19)
  refine wl_stored1 rfl rfl rfl (fun _ => by kernel_rfl) rfl hb24 (Nat.le_of_ble_eq_true rfl) rfl [.slice A22 n22 c22, .slice none 0 0, .int .u64 0, .int .i64 0, .int .i64 0] rfl fun v23 hb25 u26 hs27 => ?_
  have hw5 : Ext w v23 := u26.ext hw4 ge16
  refine wl_pure rfl rfl (v := .pointer (some ⟨g12, 4, none⟩)) (by decide) (by kernel_rfl) ?_
  have hb29 := hb25
  refine wl_stored1 rfl rfl rfl (fun _ => by kernel_rfl) rfl hb29 (Nat.le_of_ble_eq_true rfl) rfl [.slice A22 n22 c22, .slice none 0 0, .int .u64 0, .int .i64 0, .int .i64 (roE kk)] rfl fun v28 hb30 u31 hs32 => ?_
  have hw6 : Ext w v28 := u31.ext hw5 ge16
  refine wl_nil ?_
  refine eo_block_normal ?_
  refine eo_then ?_
  refine cw_seq ?_
  refine cw_region ?_
  refine wl_load rfl rfl (load_agg aggAns3 hb30 [.slice A22 n22 c22, .slice none 0 0, .int .u64 0, .int .i64 0, .int .i64 (roE kk)] rfl (Nat.le_of_ble_eq_true rfl) rfl) (by decide) ?_
  have hb34 := (((hb9.ext (e14.trans e19)).updN u26 (by omega)).updN u31 (by omega))
  refine wl_stored rfl rfl rfl aggAns3 rfl hb34 (Nat.le_of_ble_eq_true rfl) rfl [.slice A22 n22 c22, .slice none 0 0, .int .u64 0, .int .i64 0, .int .i64 (roE kk)] rfl fun v33 hb35 u36 hs37 => ?_
  have hw7 : Ext w v33 := u36.ext hw6 ge10
  refine wl_nil ?_
  refine eo_then ?_
  refine cw_ret ?_
  refine eo_ret [.agg #[.slice A22 n22 c22, .slice none 0 0, .int .u64 0, .int .i64 0, .int .i64 (roE kk)]] rfl ⟨⟨_, rfl, load_agg aggAns3 hb35 [.slice A22 n22 c22, .slice none 0 0, .int .u64 0, .int .i64 0, .int .i64 (roE kk)] rfl (Nat.le_of_ble_eq_true rfl) rfl⟩, trivial⟩ ?_
  have hs : spec3 7 kk X Y v = (⟨roV X kk, 0, 0, 0, roE kk⟩ : Ans3) := by unfold spec3; rw [if_neg (by decide), if_neg (by decide), if_neg (by decide), if_neg (by decide), if_neg (by decide), if_neg (by decide), if_pos rfl]
  rw [hs]
  exact ⟨_, rfl, ⟨_, _, rfl, ⟨_, _, _, rfl, j22, (((o22.updT hb24 (by decide) u26).updT hb29 (by decide) u31).updT hb34 (by decide) u36).mono hb⟩, wr_nil3, (len_roV hXl), (show (wd 0).length ≤ 68719476735 by decide)⟩, hw7⟩
set_option maxHeartbeats 4000000 in
theorem g_wants3_k {w : World} {b : Nat} (hb : b ≤ w.heap.size) {A : Option Addr} {n cap X : Nat} (hx : Wi w A n cap X) (hl : n ≤ 1048576) {B : Option Addr} {n' cap' Y : Nat} (hy : Wi w B n' cap' Y) (hl' : n' ≤ 1048576) {v : Nat} {kk : Int} (hv : v ≤ 18446744073709551615) (hkk : kk ≤ 9223372036854775807) {k : Int} (hk1 : ¬ k = 1) (hk2 : ¬ k = 2) (hk3 : ¬ k = 3) (hk4 : ¬ k = 4) (hk5 : ¬ k = 5) (hk6 : ¬ k = 6) (hk7 : ¬ k = 7) :
    Calls Try.prog 31 #[.agg #[.int .i64 k, .slice A n cap, .slice B n' cap', .int .u64 ((v : Nat) : Int), .int .i64 kk]] w (Gv w (AnsR3 b (spec3 k kk X Y v))) := by
  have hXl : (wd X).length ≤ 68719476735 := Nat.le_trans hx.len (Nat.le_trans hl (by decide))
  have hYl : (wd Y).length ≤ 68719476735 := Nat.le_trans hy.len (Nat.le_trans hl' (by decide))
  refine sx_enter Try.func31 rfl (n := 91) rfl (Nat.le_of_ble_eq_true rfl) (args := [.agg #[.int .i64 k, .slice A n cap, .slice B n' cap', .int .u64 ((v : Nat) : Int), .int .i64 kk]]) ?_
  refine cw_keep [(0, .agg #[.int .i64 k, .slice A n cap, .slice B n' cap', .int .u64 ((v : Nat) : Int), .int .i64 kk])] ⟨rfl, trivial⟩ ?_
  refine cw_seq ?_
  refine cw_region ?_
  refine wl_box rfl rfl (vs := [.int .i64 k, .slice A n cap, .slice B n' cap', .int .u64 ((v : Nat) : Int), .int .i64 kk]) rfl (by decide) fun g1 v2 nb => ?_
  have hb4 := nb.bk
  have ge5 : w.heap.size ≤ g1 := by rw [← nb.at_]; exact (Ext.refl w).size
  have e3 := nb.ext
  clear nb
  have hw1 : Ext w v2 := (Ext.refl w).trans e3
  refine wl_alloc rfl (z := .agg #[.slice none 0 0, .slice none 0 0, .int .u64 0, .int .i64 0, .int .i64 0]) (vs := [.slice none 0 0, .slice none 0 0, .int .u64 0, .int .i64 0, .int .i64 0]) (fun _ => by kernel_rfl) rfl (by decide) fun g6 v7 nb => ?_
  have hb9 := nb.bk
  have ge10 : w.heap.size ≤ g6 := by rw [← nb.at_]; exact hw1.size
  have q11 : g1 < g6 := by rw [← nb.at_]; exact hb4.lt
  have e8 := nb.ext
  clear nb
  have hw2 : Ext w v7 := hw1.trans e8
  refine wl_nil ?_
  refine eo_then ?_
  refine cw_seq ?_
  refine cw_region ?_
  refine wl_alloc rfl (z := .agg #[.slice none 0 0, .slice none 0 0, .int .u64 0, .int .i64 0, .int .i64 0]) (vs := [.slice none 0 0, .slice none 0 0, .int .u64 0, .int .i64 0, .int .i64 0]) (fun _ => by kernel_rfl) rfl (by decide) fun g12 v13 nb => ?_
  have hb15 := nb.bk
  have ge16 : w.heap.size ≤ g12 := by rw [← nb.at_]; exact hw2.size
  have q17 : g6 < g12 := by rw [← nb.at_]; exact hb9.lt
  have e14 := nb.ext
  clear nb
  have hw3 : Ext w v13 := hw2.trans e14
  refine wl_nil ?_
  refine eo_then ?_
  refine cw_seq ?_
  refine cw_seq ?_
  refine cw_region ?_
  refine wl_pure rfl rfl (v := .pointer (some ⟨g1, 0, none⟩)) (by decide) (by kernel_rfl) ?_
  refine wl_load rfl rfl (load_cell (fun _ => by kernel_rfl) (hb4.ext (e8.trans e14)) rfl) (by decide) ?_
  refine wl_nil ?_
  refine eo_then ?_
  refine cw_block ?_
  refine cw_seq ?_
  refine cw_region ?_
  refine wl_cmp rfl rfl rfl false (eq_f hk1) (by decide) ?_
  refine wl_assign rfl rfl (by decide) ?_
  refine wl_nil ?_
  refine eo_then ?_
  refine cw_false rfl ?_
  refine cw_seq ?_
  refine cw_region ?_
  refine wl_cmp rfl rfl rfl false (eq_f hk2) (by decide) ?_
  refine wl_assign rfl rfl (by decide) ?_
  refine wl_nil ?_
  refine eo_then ?_
  refine cw_false rfl ?_
  refine cw_seq ?_
  refine cw_region ?_
  refine wl_cmp rfl rfl rfl false (eq_f hk3) (by decide) ?_
  refine wl_assign rfl rfl (by decide) ?_
  refine wl_nil ?_
  refine eo_then ?_
  refine cw_false rfl ?_
  refine cw_seq ?_
  refine cw_region ?_
  refine wl_cmp rfl rfl rfl false (eq_f hk4) (by decide) ?_
  refine wl_assign rfl rfl (by decide) ?_
  refine wl_nil ?_
  refine eo_then ?_
  refine cw_false rfl ?_
  refine cw_seq ?_
  refine cw_region ?_
  refine wl_cmp rfl rfl rfl false (eq_f hk5) (by decide) ?_
  refine wl_assign rfl rfl (by decide) ?_
  refine wl_nil ?_
  refine eo_then ?_
  refine cw_false rfl ?_
  refine cw_seq ?_
  refine cw_region ?_
  refine wl_cmp rfl rfl rfl false (eq_f hk6) (by decide) ?_
  refine wl_assign rfl rfl (by decide) ?_
  refine wl_nil ?_
  refine eo_then ?_
  refine cw_false rfl ?_
  refine cw_seq ?_
  refine cw_region ?_
  refine wl_cmp rfl rfl rfl false (eq_f hk7) (by decide) ?_
  refine wl_assign rfl rfl (by decide) ?_
  refine wl_nil ?_
  refine eo_then ?_
  refine cw_false rfl ?_
  refine cw_skip ?_
  refine eo_block_normal ?_
  refine eo_then ?_
  refine cw_seq ?_
  refine cw_region ?_
  refine wl_load rfl rfl (load_agg aggAns3 hb15 [.slice none 0 0, .slice none 0 0, .int .u64 0, .int .i64 0, .int .i64 0] rfl (Nat.le_of_ble_eq_true rfl) rfl) (by decide) ?_
  have hb19 := (hb9.ext e14)
  refine wl_stored rfl rfl rfl aggAns3 rfl hb19 (Nat.le_of_ble_eq_true rfl) rfl [.slice none 0 0, .slice none 0 0, .int .u64 0, .int .i64 0, .int .i64 0] rfl fun v18 hb20 u21 hs22 => ?_
  have hw4 : Ext w v18 := u21.ext hw3 ge10
  refine wl_nil ?_
  refine eo_then ?_
  refine cw_ret ?_
  refine eo_ret [.agg #[.slice none 0 0, .slice none 0 0, .int .u64 0, .int .i64 0, .int .i64 0]] rfl ⟨⟨_, rfl, load_agg aggAns3 hb20 [.slice none 0 0, .slice none 0 0, .int .u64 0, .int .i64 0, .int .i64 0] rfl (Nat.le_of_ble_eq_true rfl) rfl⟩, trivial⟩ ?_
  have hs : spec3 k kk X Y v = (⟨0, 0, 0, 0, 0⟩ : Ans3) := by unfold spec3; rw [if_neg hk1, if_neg hk2, if_neg hk3, if_neg hk4, if_neg hk5, if_neg hk6, if_neg hk7]
  rw [hs]
  exact ⟨_, rfl, ⟨_, _, rfl, wr_nil3, wr_nil3, (show (wd 0).length ≤ 68719476735 by decide), (show (wd 0).length ≤ 68719476735 by decide)⟩, hw4⟩
theorem g_wants3 {w : World} {b : Nat} (hb : b ≤ w.heap.size) {A : Option Addr} {n cap X : Nat} (hx : Wi w A n cap X) (hl : n ≤ 1048576) {B : Option Addr} {n' cap' Y : Nat} (hy : Wi w B n' cap' Y) (hl' : n' ≤ 1048576) {v : Nat} {kk : Int} (hv : v ≤ 18446744073709551615) (hkk : kk ≤ 9223372036854775807) {k : Int} :
    Calls Try.prog 31 #[.agg #[.int .i64 k, .slice A n cap, .slice B n' cap', .int .u64 ((v : Nat) : Int), .int .i64 kk]] w (Gv w (AnsR3 b (spec3 k kk X Y v))) := by
  by_cases hk1 : k = 1
  · subst hk1; exact g_wants3_1 hb hx hl hy hl' hv hkk
  by_cases hk2 : k = 2
  · subst hk2; exact g_wants3_2 hb hx hl hy hl' hv hkk
  by_cases hk3 : k = 3
  · subst hk3; exact g_wants3_3 hb hx hl hy hl' hv hkk
  by_cases hk4 : k = 4
  · subst hk4; exact g_wants3_4 hb hx hl hy hl' hv hkk
  by_cases hk5 : k = 5
  · subst hk5; exact g_wants3_5 hb hx hl hy hl' hv hkk
  by_cases hk6 : k = 6
  · subst hk6; exact g_wants3_6 hb hx hl hy hl' hv hkk
  by_cases hk7 : k = 7
  · subst hk7; exact g_wants3_7 hb hx hl hy hl' hv hkk
  exact g_wants3_k hb hx hl hy hl' hv hkk hk1 hk2 hk3 hk4 hk5 hk6 hk7
set_option maxHeartbeats 4000000 in
theorem g_same3AI {w : World} {t : Ans3} {b1 b2 : Nat} {Ax Bx : Option Addr} {nx cx mx dx : Nat} {Ay By : Option Addr} {ny cy my dy : Nat} (jx : nx = (wd t.Q).length) (ox : Own w b1 23 1 Ax nx cx ((wd t.Q).map W64)) (ix : mx = (wd t.R).length) (qx : Own w b1 23 1 Bx mx dx ((wd t.R).map W64)) (jy : ny = (wd t.Q).length) (oy : Own w b2 23 1 Ay ny cy ((wd t.Q).map W64)) (iy : my = (wd t.R).length) (qy : Own w b2 23 1 By my dy ((wd t.R).map W64)) (lx : (wd t.Q).length ≤ 68719476735) (ly : (wd t.R).length ≤ 68719476735) :
    Calls Try.prog 33 #[.agg #[.slice Ax nx cx, .slice Bx mx dx, .int .u64 ((t.W : Nat) : Int), .int .i64 t.N, .int .i64 t.E], .agg #[.slice Ay ny cy, .slice By my dy, .int .u64 ((t.W : Nat) : Int), .int .i64 t.N, .int .i64 t.E]] w (Gv w (Is (.bool true))) := by
  refine sx_enter Try.func33 rfl (n := 42) rfl (Nat.le_of_ble_eq_true rfl) (args := [.agg #[.slice Ax nx cx, .slice Bx mx dx, .int .u64 ((t.W : Nat) : Int), .int .i64 t.N, .int .i64 t.E], .agg #[.slice Ay ny cy, .slice By my dy, .int .u64 ((t.W : Nat) : Int), .int .i64 t.N, .int .i64 t.E]]) ?_
  refine cw_keep [(0, .agg #[.slice Ax nx cx, .slice Bx mx dx, .int .u64 ((t.W : Nat) : Int), .int .i64 t.N, .int .i64 t.E]), (1, .agg #[.slice Ay ny cy, .slice By my dy, .int .u64 ((t.W : Nat) : Int), .int .i64 t.N, .int .i64 t.E])] ⟨rfl, rfl, trivial⟩ ?_
  refine cw_seq ?_
  refine cw_region ?_
  refine wl_box rfl rfl (vs := [.slice Ax nx cx, .slice Bx mx dx, .int .u64 ((t.W : Nat) : Int), .int .i64 t.N, .int .i64 t.E]) rfl (by decide) fun g1 v2 nb => ?_
  have hb4 := nb.bk
  have ge5 : w.heap.size ≤ g1 := by rw [← nb.at_]; exact (Ext.refl w).size
  have e3 := nb.ext
  clear nb
  have hw1 : Ext w v2 := (Ext.refl w).trans e3
  refine wl_box rfl rfl (vs := [.slice Ay ny cy, .slice By my dy, .int .u64 ((t.W : Nat) : Int), .int .i64 t.N, .int .i64 t.E]) rfl (by decide) fun g6 v7 nb => ?_
  have hb9 := nb.bk
  have ge10 : w.heap.size ≤ g6 := by rw [← nb.at_]; exact hw1.size
  have q11 : g1 < g6 := by rw [← nb.at_]; exact hb4.lt
  have e8 := nb.ext
  clear nb
  have hw2 : Ext w v7 := hw1.trans e8
  refine wl_assign rfl rfl (by decide) ?_
  refine wl_nil ?_
  refine eo_then ?_
  refine cw_seq ?_
  refine cw_region ?_
  refine wl_pure rfl rfl (v := .pointer (some ⟨g1, 0, none⟩)) (by decide) (by kernel_rfl) ?_
  refine wl_load rfl rfl (load_cell (fun _ => by kernel_rfl) (hb4.ext e8) rfl) (by decide) ?_
  refine wl_pure rfl rfl (v := .pointer (some ⟨g6, 0, none⟩)) (by decide) (by kernel_rfl) ?_
  refine wl_load rfl rfl (load_cell (fun _ => by kernel_rfl) hb9 rfl) (by decide) ?_
  refine wl_call rfl rfl (vs := [.slice Ax nx cx, .slice Ay ny cy]) (by kernel_rfl) (by decide) (g_same3 (ox.ext (e3.trans e8)) (by rw [jx]; omega) (oy.ext (e3.trans e8)) (by rw [jy]; omega)) ?_
  rintro _ v12 ⟨xr14, rfl, r14, e13⟩
  refine ret_intro ?_
  have hw3 : Ext w v12 := hw2.trans e13
  obtain rfl := r14
  refine wl_assign rfl rfl (by decide) ?_
  refine wl_nil ?_
  refine eo_then ?_
  refine cw_seq ?_
  refine cw_region ?_
  refine wl_pure rfl rfl (v := .pointer (some ⟨g1, 1, none⟩)) (by decide) (by kernel_rfl) ?_
  refine wl_load rfl rfl (load_cell (fun _ => by kernel_rfl) (hb4.ext (e8.trans e13)) rfl) (by decide) ?_
  refine wl_pure rfl rfl (v := .pointer (some ⟨g6, 1, none⟩)) (by decide) (by kernel_rfl) ?_
  refine wl_load rfl rfl (load_cell (fun _ => by kernel_rfl) (hb9.ext e13) rfl) (by decide) ?_
  refine wl_call rfl rfl (vs := [.slice Bx mx dx, .slice By my dy]) (by kernel_rfl) (by decide) (g_same3 (qx.ext (e3.trans (e8.trans e13))) (by rw [ix]; omega) (qy.ext (e3.trans (e8.trans e13))) (by rw [iy]; omega)) ?_
  rintro _ v15 ⟨xr17, rfl, r17, e16⟩
  refine ret_intro ?_
  have hw4 : Ext w v15 := hw3.trans e16
  obtain rfl := r17
  refine wl_assign rfl rfl (by decide) ?_
  refine wl_nil ?_
  refine eo_then ?_
  refine cw_seq ?_
  refine cw_region ?_
  refine wl_move rfl rfl (by decide) ?_
  refine wl_move rfl rfl (by decide) ?_
  refine wl_move rfl rfl (by decide) ?_
  refine wl_pure rfl rfl (v := .bool true) (by decide) (by kernel_rfl) ?_
  refine wl_move rfl rfl (by decide) ?_
  refine wl_pure rfl rfl (v := .pointer (some ⟨g1, 2, none⟩)) (by decide) (by kernel_rfl) ?_
  refine wl_load rfl rfl (load_cell (fun _ => by kernel_rfl) (hb4.ext (e8.trans (e13.trans e16))) rfl) (by decide) ?_
  refine wl_pure rfl rfl (v := .pointer (some ⟨g6, 2, none⟩)) (by decide) (by kernel_rfl) ?_
  refine wl_load rfl rfl (load_cell (fun _ => by kernel_rfl) (hb9.ext (e13.trans e16)) rfl) (by decide) ?_
  refine wl_cmp rfl rfl rfl true (cb_eq_t (a := t.W) (b := t.W) rfl rfl (by omega)) (by decide) ?_
  refine wl_pure rfl rfl (v := .bool true) (by decide) (by kernel_rfl) ?_
  refine wl_move rfl rfl (by decide) ?_
  refine wl_pure rfl rfl (v := .pointer (some ⟨g1, 3, none⟩)) (by decide) (by kernel_rfl) ?_
  refine wl_load rfl rfl (load_cell (fun _ => by kernel_rfl) (hb4.ext (e8.trans (e13.trans e16))) rfl) (by decide) ?_
  refine wl_pure rfl rfl (v := .pointer (some ⟨g6, 3, none⟩)) (by decide) (by kernel_rfl) ?_
  refine wl_load rfl rfl (load_cell (fun _ => by kernel_rfl) (hb9.ext (e13.trans e16)) rfl) (by decide) ?_
  refine wl_cmp rfl rfl rfl true (eq_t rfl) (by decide) ?_
  refine wl_pure rfl rfl (v := .bool true) (by decide) (by kernel_rfl) ?_
  refine wl_move rfl rfl (by decide) ?_
  refine wl_pure rfl rfl (v := .pointer (some ⟨g1, 4, none⟩)) (by decide) (by kernel_rfl) ?_
  refine wl_load rfl rfl (load_cell (fun _ => by kernel_rfl) (hb4.ext (e8.trans (e13.trans e16))) rfl) (by decide) ?_
  refine wl_pure rfl rfl (v := .pointer (some ⟨g6, 4, none⟩)) (by decide) (by kernel_rfl) ?_
  refine wl_load rfl rfl (load_cell (fun _ => by kernel_rfl) (hb9.ext (e13.trans e16)) rfl) (by decide) ?_
  refine wl_cmp rfl rfl rfl true (eq_t rfl) (by decide) ?_
  refine wl_pure rfl rfl (v := .bool true) (by decide) (by kernel_rfl) ?_
  refine wl_assign rfl rfl (by decide) ?_
  refine wl_nil ?_
  refine eo_then ?_
  refine cw_ret ?_
  refine eo_ret [.bool true] rfl ⟨rfl, trivial⟩ ?_
  exact ⟨_, rfl, rfl, hw4⟩
theorem g_same3A {w : World} {t : Ans3} {b1 b2 : Nat} {u v : Value} (hu : AnsR3 b1 t u w) (hv : AnsR3 b2 t v w) : Calls Try.prog 33 #[u, v] w (Gv w (Is (.bool true))) := by
  obtain ⟨_, _, rfl, ⟨A, n, c, rfl, j, o⟩, ⟨B, m, d, rfl, i, q⟩, lx, ly⟩ := hu
  obtain ⟨_, _, rfl, ⟨A', n', c', rfl, j', o'⟩, ⟨B', m', d', rfl, i', q'⟩, _, _⟩ := hv
  exact g_same3AI j o i q j' o' i' q' lx ly
set_option maxHeartbeats 4000000 in
theorem g_right3 {w : World} {A : Option Addr} {n cap X : Nat} (hx : Wi w A n cap X) (hl : n ≤ 1048576) {B : Option Addr} {n' cap' Y : Nat} (hy : Wi w B n' cap' Y) (hl' : n' ≤ 1048576) {v : Nat} {kk : Int} (hv : v ≤ 18446744073709551615) (hkk : kk ≤ 9223372036854775807) {k : Int} :
    Calls Try.prog 9 #[.agg #[.int .i64 k, .slice A n cap, .slice B n' cap', .int .u64 ((v : Nat) : Int), .int .i64 kk]] w (Gv w (Is (.bool true))) := by
  refine sx_enter Try.func9 rfl (n := 12) rfl (Nat.le_of_ble_eq_true rfl) (args := [.agg #[.int .i64 k, .slice A n cap, .slice B n' cap', .int .u64 ((v : Nat) : Int), .int .i64 kk]]) ?_
  refine cw_keep [(0, .agg #[.int .i64 k, .slice A n cap, .slice B n' cap', .int .u64 ((v : Nat) : Int), .int .i64 kk])] ⟨rfl, trivial⟩ ?_
  refine cw_seq ?_
  refine cw_region ?_
  refine wl_box rfl rfl (vs := [.int .i64 k, .slice A n cap, .slice B n' cap', .int .u64 ((v : Nat) : Int), .int .i64 kk]) rfl (by decide) fun g1 v2 nb => ?_
  have hb4 := nb.bk
  have ge5 : w.heap.size ≤ g1 := by rw [← nb.at_]; exact (Ext.refl w).size
  have e3 := nb.ext
  clear nb
  have hw1 : Ext w v2 := (Ext.refl w).trans e3
  refine wl_assign rfl rfl (by decide) ?_
  refine wl_nil ?_
  refine eo_then ?_
  refine cw_seq ?_
  refine cw_region ?_
  refine wl_load rfl rfl (load_agg aggOp3 hb4 [.int .i64 k, .slice A n cap, .slice B n' cap', .int .u64 ((v : Nat) : Int), .int .i64 kk] rfl (Nat.le_of_ble_eq_true rfl) rfl) (by decide) ?_
  refine wl_call rfl rfl (vs := [.agg #[.int .i64 k, .slice A n cap, .slice B n' cap', .int .u64 ((v : Nat) : Int), .int .i64 kk]]) (by kernel_rfl) (by decide) (g_wants3 hw1.size (hx.ext hw1) hl (hy.ext hw1) hl' hv hkk) ?_
  rintro _ v6 ⟨xr8, rfl, r8, e7⟩
  refine ret_intro ?_
  have hw2 : Ext w v6 := hw1.trans e7
  obtain ⟨_, _, rfl, ⟨A9, n9, c9, rfl, j9, o9⟩, ⟨B9, m9, d9, rfl, i9, q9⟩, lx9, ly9⟩ := r8
  refine wl_alloc rfl (z := .agg #[.slice none 0 0, .slice none 0 0, .int .u64 0, .int .i64 0, .int .i64 0]) (vs := [.slice none 0 0, .slice none 0 0, .int .u64 0, .int .i64 0, .int .i64 0]) (fun _ => by kernel_rfl) rfl (by decide) fun g10 v11 nb => ?_
  have hb13 := nb.bk
  have ge14 : w.heap.size ≤ g10 := by rw [← nb.at_]; exact hw2.size
  have q15 : g1 < g10 := by rw [← nb.at_]; exact (hb4.ext e7).lt
  have e12 := nb.ext
  clear nb
  have hw3 : Ext w v11 := hw2.trans e12
  have hb17 := hb13
  refine wl_stored rfl rfl rfl aggAns3 rfl hb17 (Nat.le_of_ble_eq_true rfl) rfl [.slice A9 n9 c9, .slice B9 m9 d9, .int .u64 (((spec3 k kk X Y v).W : Nat) : Int), .int .i64 ((spec3 k kk X Y v).N), .int .i64 ((spec3 k kk X Y v).E)] rfl fun v16 hb18 u19 hs20 => ?_
  have hw4 : Ext w v16 := u19.ext hw3 ge14
  refine wl_nil ?_
  refine eo_then ?_
  refine cw_seq ?_
  refine cw_region ?_
  refine wl_load rfl rfl (load_agg aggOp3 ((hb4.ext (e7.trans e12)).updN u19 (by omega)) [.int .i64 k, .slice A n cap, .slice B n' cap', .int .u64 ((v : Nat) : Int), .int .i64 kk] rfl (Nat.le_of_ble_eq_true rfl) rfl) (by decide) ?_
  refine wl_call rfl rfl (vs := [.agg #[.int .i64 k, .slice A n cap, .slice B n' cap', .int .u64 ((v : Nat) : Int), .int .i64 kk]]) (by kernel_rfl) (by decide) (g_plays3 hw4.size (hx.ext hw4) hl (hy.ext hw4) hl' hv hkk) ?_
  rintro _ v21 ⟨xr23, rfl, r23, e22⟩
  refine ret_intro ?_
  have hw5 : Ext w v21 := hw4.trans e22
  obtain ⟨_, _, rfl, ⟨A24, n24, c24, rfl, j24, o24⟩, ⟨B24, m24, d24, rfl, i24, q24⟩, lx24, ly24⟩ := r23
  refine wl_alloc rfl (z := .agg #[.slice none 0 0, .slice none 0 0, .int .u64 0, .int .i64 0, .int .i64 0]) (vs := [.slice none 0 0, .slice none 0 0, .int .u64 0, .int .i64 0, .int .i64 0]) (fun _ => by kernel_rfl) rfl (by decide) fun g25 v26 nb => ?_
  have hb28 := nb.bk
  have ge29 : w.heap.size ≤ g25 := by rw [← nb.at_]; exact hw5.size
  have q30 : g10 < g25 := by rw [← nb.at_]; exact (hb18.ext e22).lt
  have e27 := nb.ext
  clear nb
  have hw6 : Ext w v26 := hw5.trans e27
  have hb32 := hb28
  refine wl_stored rfl rfl rfl aggAns3 rfl hb32 (Nat.le_of_ble_eq_true rfl) rfl [.slice A24 n24 c24, .slice B24 m24 d24, .int .u64 (((spec3 k kk X Y v).W : Nat) : Int), .int .i64 ((spec3 k kk X Y v).N), .int .i64 ((spec3 k kk X Y v).E)] rfl fun v31 hb33 u34 hs35 => ?_
  have hw7 : Ext w v31 := u34.ext hw6 ge29
  refine wl_nil ?_
  refine eo_then ?_
  refine cw_seq ?_
  refine cw_region ?_
  refine wl_load rfl rfl (load_agg aggAns3 hb33 [.slice A24 n24 c24, .slice B24 m24 d24, .int .u64 (((spec3 k kk X Y v).W : Nat) : Int), .int .i64 ((spec3 k kk X Y v).N), .int .i64 ((spec3 k kk X Y v).E)] rfl (Nat.le_of_ble_eq_true rfl) rfl) (by decide) ?_
  refine wl_load rfl rfl (load_agg aggAns3 ((hb18.ext (e22.trans e27)).updN u34 (by omega)) [.slice A9 n9 c9, .slice B9 m9 d9, .int .u64 (((spec3 k kk X Y v).W : Nat) : Int), .int .i64 ((spec3 k kk X Y v).N), .int .i64 ((spec3 k kk X Y v).E)] rfl (Nat.le_of_ble_eq_true rfl) rfl) (by decide) ?_
  refine wl_call rfl rfl (vs := [.agg #[.slice A24 n24 c24, .slice B24 m24 d24, .int .u64 (((spec3 k kk X Y v).W : Nat) : Int), .int .i64 ((spec3 k kk X Y v).N), .int .i64 ((spec3 k kk X Y v).E)], .agg #[.slice A9 n9 c9, .slice B9 m9 d9, .int .u64 (((spec3 k kk X Y v).W : Nat) : Int), .int .i64 ((spec3 k kk X Y v).N), .int .i64 ((spec3 k kk X Y v).E)]]) (by kernel_rfl) (by decide) (g_same3A ⟨_, _, rfl, ⟨_, _, _, rfl, j24, ((o24.ext e27).updT hb32 (by decide) u34)⟩, ⟨_, _, _, rfl, i24, ((q24.ext e27).updT hb32 (by decide) u34)⟩, lx24, ly24⟩ ⟨_, _, rfl, ⟨_, _, _, rfl, j9, ((((o9.ext e12).updT hb17 (by decide) u19).ext (e22.trans e27)).updT hb32 (by decide) u34)⟩, ⟨_, _, _, rfl, i9, ((((q9.ext e12).updT hb17 (by decide) u19).ext (e22.trans e27)).updT hb32 (by decide) u34)⟩, lx9, ly9⟩) ?_
  rintro _ v36 ⟨xr38, rfl, r38, e37⟩
  refine ret_intro ?_
  have hw8 : Ext w v36 := hw7.trans e37
  obtain rfl := r38
  refine wl_assign rfl rfl (by decide) ?_
  refine wl_nil ?_
  refine eo_then ?_
  refine cw_ret ?_
  refine eo_ret [.bool true] rfl ⟨rfl, trivial⟩ ?_
  exact ⟨_, rfl, rfl, hw8⟩
set_option maxHeartbeats 4000000 in
theorem law_DivnatAllP {w : World} {A : Option Addr} {n cap : Nat} (ho : Al 5 (Op3 1048576) w A n) (hn : n ≤ 1048576) :
    Calls Try.prog 4 #[.slice A n cap] w (Gv w (Is (.bool true))) := by
  refine sx_enter Try.func4 rfl (n := 20) rfl (Nat.le_of_ble_eq_true rfl) (args := [.slice A n cap]) ?_
  refine cw_keep [(0, .slice A n cap)] ⟨rfl, trivial⟩ ?_
  refine cw_seq ?_
  refine cw_region ?_
  refine wl_assign rfl rfl (by decide) ?_
  refine wl_nil ?_
  refine eo_then ?_
  refine cw_seq ?_
  refine cw_seq ?_
  refine cw_region ?_
  refine wl_call rfl rfl (vs := []) (by kernel_rfl) (by decide) ((law_wakes _).mono gbool) ?_
  rintro _ v1 ⟨xr3, rfl, r3, e2⟩
  refine ret_intro ?_
  have hw1 : Ext w v1 := (Ext.refl w).trans e2
  obtain rfl := r3
  refine wl_pure rfl rfl (v := .bool false) (by decide) (by kernel_rfl) ?_
  refine wl_nil ?_
  refine eo_then ?_
  refine cw_false rfl ?_
  refine cw_skip ?_
  refine eo_then ?_
  refine cw_seq ?_
  refine cw_seq ?_
  refine cw_region ?_
  refine wl_assign rfl rfl (by decide) ?_
  refine wl_nil ?_
  refine eo_then ?_
  refine cw_block ?_
  refine cw_loop (T := World × Nat)
    (fun ⟨wr, i⟩ => [(0, .slice A n cap), (3, .int .i64 ((i : Nat) : Int))])
    (fun ⟨wr, i⟩ => wr)
    (fun ⟨wr, i⟩ => (Ext w wr) ∧ (i ≤ n))
    (fun ⟨wr, i⟩ => n - i)
    (⟨v1, 0⟩ : World × Nat) ⟨hw1, (Nat.zero_le _)⟩ rfl ⟨rfl, rfl, trivial⟩ ?_
  rintro ⟨wr, i⟩ ⟨hw1, hile⟩
  refine cw_re [(0, .slice A n cap), (3, .int .i64 ((i : Nat) : Int))] wr rfl ⟨rfl, rfl, trivial⟩ ?_
  refine cw_seq ?_
  refine cw_seq ?_
  by_cases hin : i < n
  ·
    refine cw_region ?_
    refine wl_move rfl rfl (by decide) ?_
    refine wl_move rfl rfl (by decide) ?_
    refine wl_pure rfl rfl (v := .int .i64 ((n : Nat) : Int)) (by decide) (by kernel_rfl) ?_
    refine wl_cmp rfl rfl rfl true (cb_lt_t (a := i) (b := n) rfl rfl (by omega)) (by decide) ?_
    refine wl_nil ?_
    refine eo_then ?_
    refine cw_true rfl ?_
    refine cw_skip ?_
    refine eo_then ?_
    refine cw_seq ?_
    refine cw_block ?_
    refine cw_seq ?_
    refine cw_region ?_
    refine wl_move rfl rfl (by decide) ?_
    refine wl_move rfl rfl (by decide) ?_
    obtain ⟨p4, kk4, B4, m4, c4, xs4, D4, l4, d4, ys4, vv4, k24, hp4, ld4, hrx4, hrm4, hry4, hrl4, hvv4, hkl4, hku4⟩ := ho.at3 (i := i) (by omega)
    refine wl_idx rfl rfl rfl Try.underlying29 aggOp3.size i rfl (by omega) p4 hp4 (by decide) ?_
    refine wl_load rfl rfl (ld4 _ hw1) (by decide) ?_
    refine wl_call rfl rfl (vs := [.agg #[.int .i64 kk4, .slice B4 m4 c4, .slice D4 l4 d4, .int .u64 ((vv4 : Nat) : Int), .int .i64 k24]]) (by kernel_rfl) (by decide) (g_right3 ⟨_, hrx4.ext hw1, rfl⟩ hrm4 ⟨_, hry4.ext hw1, rfl⟩ hrl4 hvv4 hku4) ?_
    rintro _ v5 ⟨xr7, rfl, r7, e6⟩
    refine ret_intro ?_
    have hw2 : Ext w v5 := hw1.trans e6
    obtain rfl := r7
    refine wl_assign rfl rfl (by decide) ?_
    refine wl_nil ?_
    refine eo_then ?_
    refine cw_seq ?_
    refine cw_region ?_
    refine wl_move rfl rfl (by decide) ?_
    refine wl_pure rfl rfl (v := .bool false) (by decide) (by kernel_rfl) ?_
    refine wl_nil ?_
    refine eo_then ?_
    refine cw_false rfl ?_
    refine cw_skip ?_
    refine eo_block_normal ?_
    refine eo_then ?_
    refine cw_region ?_
    refine wl_move rfl rfl (by decide) ?_
    refine wl_ar rfl rfl rfl ((i + 1 : Nat) : Int) (ai_add (a := i) (b := 1) rfl rfl (by omega)) (by decide) ?_
    refine wl_assign rfl rfl (by decide) ?_
    refine wl_nil ?_
    refine eo_round (⟨v5, i + 1⟩ : World × Nat) ⟨hw2, (by omega)⟩ (show n - (i + 1) < n - i by omega) rfl ⟨rfl, rfl, trivial⟩
  ·
    refine cw_region ?_
    refine wl_move rfl rfl (by decide) ?_
    refine wl_move rfl rfl (by decide) ?_
    refine wl_pure rfl rfl (v := .int .i64 ((n : Nat) : Int)) (by decide) (by kernel_rfl) ?_
    refine wl_cmp rfl rfl rfl false (cb_lt_f (a := i) (b := n) rfl rfl (by omega)) (by decide) ?_
    refine wl_nil ?_
    refine eo_then ?_
    refine cw_false rfl ?_
    refine cw_exit ?_
    refine eo_thenX ?_
    refine eo_loopX ?_
    refine eo_block_here ?_
    refine eo_then ?_
    refine cw_seq ?_
    refine cw_region ?_
    refine wl_assign rfl rfl (by decide) ?_
    refine wl_nil ?_
    refine eo_then ?_
    refine cw_ret ?_
    refine eo_ret [.bool true] rfl ⟨rfl, trivial⟩ ?_
    exact ⟨_, rfl, rfl, hw1⟩
theorem law_DivnatAll {w : World} {A : Option Addr} {n cap : Nat} (ho : Al 5 (Op3 1048576) w A n) (hn : n ≤ 1048576) : Calls Try.prog 4 #[.slice A n cap] w (BoolP true w) := (law_DivnatAllP ho hn).mono fun e w' h => bool_of3 _ _ h
end Go.Proofs.Ythggegdkpalgbaa
