/- Parts Ref3g, Ref3h, App, Ref3i, Ref3j, Strip, Ref3k, Law3, joined. -/
import Derived.Test.YthggegdkpalgbaaA3
import Derived.ArgAppend

namespace Go.Proofs.Ythggegdkpalgbaa
open Go.RowKit
theorem db_digit {b : Nat} (hb : 2 ≤ b) (X : Nat) : ∀ j, (db b X).getD j 0 = X / b ^ j % b := by
  induction X using db_ind hb with
  | h0 => intro j; rw [db_zero, Nat.zero_div, Nat.zero_mod]; rfl
  | hs n h ih =>
    intro j
    rw [db_pos hb h]
    cases j with
    | zero => rw [Nat.pow_zero, Nat.div_one]; rfl
    | succ j => rw [Nat.pow_succ, Nat.mul_comm, ← Nat.div_div_eq_div_mul]; exact ih j
theorem copy_all {N : Nat} {lx ly : List Nat} (hx : lx.length = N) (hy : ly.length = N) : splice (lx.map W64) 0 ((ly.map W64).take N) = ly.map W64 := by
  unfold splice
  rw [List.take_zero, List.nil_append, Nat.zero_add, List.take_of_length_le (by rw [List.length_map]; omega), List.length_map, List.drop_of_length_le (by rw [List.length_map]; omega), List.append_nil]
theorem one_W64' {xs : List Nat} : ∀ v ∈ xs.map W64, v.oneCell' = true := fun v hv => by
  obtain ⟨x, _, rfl⟩ := List.mem_map.1 hv
  rfl
theorem sq_small {X L n s : Nat} (hX : X < 4294967296 ^ L) (hn : n = L / 2 + 2) (hs : s * s ≤ X) : 8 * s + 8 ≤ 4294967296 ^ n := by
  have h1 : s < 4294967296 ^ (n - 1) := by
    refine Nat.lt_of_not_le fun h => ?_
    have h2 := Nat.mul_le_mul h h
    rw [← Nat.pow_add] at h2
    have h3 : 4294967296 ^ L ≤ 4294967296 ^ (n - 1 + (n - 1)) := Nat.pow_le_pow_right (by decide) (by omega)
    omega
  obtain ⟨k, rfl⟩ : ∃ k, n = k + 1 := ⟨n - 1, by omega⟩
  rw [Nat.add_sub_cancel] at h1
  rw [Nat.pow_succ]
  omega
/-- two digits of a at a time -/
theorem sq_pair {X i : Nat} : (db 4294967296 X).getD (i / 16) 0 / 2 ^ (2 * (i % 16)) % 4 = X / 4 ^ i % 4 := by
  rw [db_digit b32]
  have e1 : (4294967296 : Nat) ^ (i / 16) = 2 ^ (32 * (i / 16)) := by rw [Nat.pow_mul]
  have e2 : (4 : Nat) ^ i = 2 ^ (32 * (i / 16)) * 2 ^ (2 * (i % 16)) := by
    rw [← Nat.pow_add, show 32 * (i / 16) + 2 * (i % 16) = 2 * i by omega, Nat.pow_mul]
  rw [e1, e2, ← Nat.div_div_eq_div_mul]
  generalize X / 2 ^ (32 * (i / 16)) = Z
  have e3 : (4294967296 : Nat) = 2 ^ (2 * (i % 16)) * 2 ^ (32 - 2 * (i % 16)) := by
    rw [← Nat.pow_add, show 2 * (i % 16) + (32 - 2 * (i % 16)) = 32 by omega]
  rw [e3, Nat.mod_mul_right_div_self]
  have e4 : (2 : Nat) ^ (32 - 2 * (i % 16)) = 4 * 2 ^ (30 - 2 * (i % 16)) := by
    rw [show (4 : Nat) = 2 ^ 2 from rfl, ← Nat.pow_add]; congr 1; omega
  rw [e4, Nat.mod_mul_right_mod]
theorem sq_next {X i p : Nat} (hp : p = X / 4 ^ i % 4) : X / 4 ^ i = 4 * (X / 4 ^ (i + 1)) + p := by
  rw [Nat.pow_succ, ← Nat.div_div_eq_div_mul, hp]
  omega
theorem sq_zero {P s R p : Nat} (h : IsRoot P 2 s) (hR : R + s * s = P) (hlt : R * 4 + p < 4 * s + 1) : IsRoot (4 * P + p) 2 (2 * s) ∧ R * 4 + p + 2 * s * (2 * s) = 4 * P + p := by
  have e : 2 * s * (2 * s) = 4 * (s * s) := by grind
  refine ⟨⟨by rw [Nat.pow_two]; omega, ?_⟩, by omega⟩
  have e2 : (2 * s + 1) ^ 2 = 4 * (s * s) + 4 * s + 1 := by grind
  rw [e2]; omega
theorem sq_one {P s R p : Nat} (h : IsRoot P 2 s) (hp : p < 4) (hR : R + s * s = P) (hlt : ¬ R * 4 + p < 4 * s + 1) : IsRoot (4 * P + p) 2 (2 * s + 1) ∧ (R * 4 + p - (4 * s + 1)) + (2 * s + 1) * (2 * s + 1) = 4 * P + p := by
  have e : (2 * s + 1) * (2 * s + 1) = 4 * (s * s) + 4 * s + 1 := by grind
  refine ⟨⟨by rw [Nat.pow_two]; omega, ?_⟩, by omega⟩
  have h2 := h.2
  have e2 : (2 * s + 1 + 1) ^ 2 = 4 * (s + 1) ^ 2 := by grind
  rw [e2]; omega
theorem sq_rest {P s R : Nat} (h : IsRoot P 2 s) (hR : R + s * s = P) : R ≤ 2 * s := by
  have h2 := h.2
  have e2 : (s + 1) ^ 2 = s * s + 2 * s + 1 := by grind
  rw [e2] at h2; omega
theorem dbl_step {b c x d d' q i : Nat} {l l' : List Nat} (h : nb b (l'.take i) + b ^ i * c = nb b (l.take i) * 2 + q) (hi : i < l'.length) (hi2 : i < l.length) (hx : l.getD i 0 = x) (hd : d + b * d' = 2 * x + c) :
    nb b ((l'.set i d).take (i + 1)) + b ^ (i + 1) * d' = nb b (l.take (i + 1)) * 2 + q := by
  rw [nb_set_snoc b hi, nb_take_snoc b l i hi2, hx, Nat.pow_succ, Nat.mul_assoc, Nat.add_assoc, ← Nat.mul_add, hd, Nat.mul_add, Nat.add_mul]
  have e : b ^ i * (2 * x) = b ^ i * x * 2 := by grind
  omega
theorem dbl_done {l l' : List Nat} {N c q : Nat} (hl : l.length = N) (hl' : l'.length = N) (h : nb 4294967296 (l'.take N) + 4294967296 ^ N * c = nb 4294967296 (l.take N) * 2 + q) (hb : nb 4294967296 l * 2 + q < 4294967296 ^ N) : nb 4294967296 l' = nb 4294967296 l * 2 + q := by
  rw [List.take_of_length_le (by omega), List.take_of_length_le (by omega)] at h
  have hc : c = 0 := by
    refine Nat.eq_zero_of_not_pos fun hp => ?_
    have h3 : 4294967296 ^ N * 1 ≤ 4294967296 ^ N * c := Nat.mul_le_mul_left _ hp
    omega
  rw [hc, Nat.mul_zero, Nat.add_zero] at h
  exact h
theorem ref3_below' {w : World} {A D : Option Addr} {n cap m cd X Y : Nat} {b : Bool} (hx : Rd w A n cap (db 4294967296 X)) (hln : n ≤ 274877906944) (hy : Rd w D m cd (db 4294967296 Y)) (hlm : m ≤ 274877906944) (hb : decide (X < Y) = b) :
    Calls Try.prog 86 #[.slice A n cap, .slice D m cd] w (Gv w (Is (.bool b))) := hb ▸ ref3_below hx hln hy hlm
set_option maxHeartbeats 4000000 in
theorem ref3_Sqrt {w : World} {A : Option Addr} {n cap : Nat} {xs : List Nat} (hx : Rd w A n cap xs) (hln : n ≤ 137438953472) :
    Calls Try.prog 60 #[.slice A n cap] w (fun e w' => ∃ r, IsRoot (nv xs) 2 r ∧ Gv w (T2 (WR w.heap.size r) (WR w.heap.size (nv xs - r * r))) e w') := by
  refine sx_enter Try.func60 rfl (n := 90) rfl (Nat.le_of_ble_eq_true rfl) (args := [.slice A n cap]) ?_
  refine cw_keep [(0, .slice A n cap)] ⟨rfl, trivial⟩ ?_
  refine cw_seq ?_
  refine cw_region ?_
  refine wl_assign rfl rfl (by decide) ?_
  refine wl_assign rfl rfl (by decide) ?_
  refine wl_nil ?_
  refine eo_then ?_
  refine cw_seq ?_
  refine cw_region ?_
  refine wl_move rfl rfl (by decide) ?_
  refine wl_call rfl rfl (vs := [.slice A n cap]) (by kernel_rfl) (by decide) (ref3_halves hx (by omega)) ?_
  rintro _ v1 ⟨xr3, rfl, r3, e2⟩
  refine ret_intro ?_
  have hw1 : Ext w v1 := (Ext.refl w).trans e2
  obtain ⟨A4, n4, c4, rfl, rd4⟩ := r3
  refine wl_assign rfl rfl (by decide) ?_
  refine wl_nil ?_
  refine eo_then ?_
  refine cw_seq ?_
  have hld := rd4.len
  have hdl := rd4.hl hx (Nat.le_refl _)
  have hXL : nv xs < 4294967296 ^ n4 := by have h := nb_lt (Wfb_db b32 (nv xs)); rwa [nb_db b32, hld] at h
  refine cw_region ?_
  refine wl_move rfl rfl (by decide) ?_
  refine wl_pure rfl rfl (v := .int .i64 ((n4 : Nat) : Int)) (by decide) (by kernel_rfl) ?_
  refine wl_ar rfl rfl rfl ((n4 / 2 : Nat) : Int) (ai_quo (a := n4) (b := 2) rfl rfl (by omega) (by omega)) (by decide) ?_
  refine wl_ar rfl rfl rfl (((n4 / 2) + 2 : Nat) : Int) (ai_add (a := n4 / 2) (b := 2) rfl rfl (by omega)) (by decide) ?_
  refine wl_assign rfl rfl (by decide) ?_
  refine wl_nil ?_
  refine eo_then ?_
  refine cw_seq ?_
  refine cw_region ?_
  refine wl_move rfl rfl (by decide) ?_
  refine wl_make rfl (k := (n4 / 2) + 2) rfl rfl rfl un_u64 info64 rfl (by decide) (by omega) (by decide) fun g5 v6 hg7 hb8 e9 => ?_
  rw [replicate_W64] at hb8
  have ge10 : w.heap.size ≤ g5 := by rw [← hg7]; exact hw1.size
  have ne12 : 0 < cap → ∀ a, A = some a → a.block ≠ g5 := fun hc a ha => by have := ((hx.ext e2)).rv.blk a ha hc; omega
  have ne13 : 0 < c4 → ∀ a, A4 = some a → a.block ≠ g5 := fun hc a ha => by have := (rd4).rv.blk a ha hc; omega
  clear hg7
  have hw2 : Ext w v6 := hw1.trans e9
  refine wl_assign rfl rfl (by decide) ?_
  refine wl_nil ?_
  refine eo_then ?_
  refine cw_seq ?_
  refine cw_region ?_
  refine wl_move rfl rfl (by decide) ?_
  refine wl_make rfl (k := (n4 / 2) + 2) rfl rfl rfl un_u64 info64 rfl (by decide) (by omega) (by decide) fun g14 v15 hg16 hb17 e18 => ?_
  rw [replicate_W64] at hb17
  have ge19 : w.heap.size ≤ g14 := by rw [← hg16]; exact hw2.size
  have q21 : g5 < g14 := by rw [← hg16]; exact hb8.lt
  have ne22 : 0 < cap → ∀ a, A = some a → a.block ≠ g14 := fun hc a ha => by have := ((hx.ext (e2.trans e9))).rv.blk a ha hc; omega
  have ne23 : 0 < c4 → ∀ a, A4 = some a → a.block ≠ g14 := fun hc a ha => by have := ((rd4.ext e9)).rv.blk a ha hc; omega
  clear hg16
  have hw3 : Ext w v15 := hw2.trans e18
  refine wl_assign rfl rfl (by decide) ?_
  refine wl_nil ?_
  refine eo_then ?_
  refine cw_seq ?_
  refine cw_seq ?_
  refine cw_region ?_
  refine wl_move rfl rfl (by decide) ?_
  refine wl_pure rfl rfl (v := .int .i64 ((n4 : Nat) : Int)) (by decide) (by kernel_rfl) ?_
  refine wl_ar rfl rfl rfl ((16 * n4 : Nat) : Int) (ai_mul (a := 16) (b := n4) rfl rfl (by omega)) (by decide) ?_
  refine wl_ar rfl rfl rfl (((16 * n4 : Nat) : Int) - 1) (ar_i64s rfl (by omega) (by omega)) (by decide) ?_
  refine wl_assign rfl rfl (by decide) ?_
  refine wl_nil ?_
  refine eo_then ?_
  refine cw_block ?_
  have hq0 : nv xs / 4 ^ (16 * n4) = 0 := Nat.div_eq_of_lt (by rw [show (4 : Nat) = 2 ^ 2 from rfl, ← Nat.pow_mul, show 2 * (16 * n4) = 32 * n4 by omega, Nat.pow_mul]; exact hXL)
  have hz0 : nb 4294967296 (List.replicate ((n4 / 2) + 2) 0) = 0 := nb_zeros _ _
  refine cw_loop (T := World × Nat × Int × List Nat × List Nat)
    (fun ⟨wr, k, ii, lr, ls⟩ => [(4, .slice A4 n4 c4), (5, .int .i64 (((n4 / 2) + 2 : Nat) : Int)), (6, .slice (some ⟨g5, 0, none⟩) ((n4 / 2) + 2) ((n4 / 2) + 2)), (7, .slice (some ⟨g14, 0, none⟩) ((n4 / 2) + 2) ((n4 / 2) + 2)), (8, .int .i64 ii)])
    (fun ⟨wr, k, ii, lr, ls⟩ => wr)
    (fun ⟨wr, k, ii, lr, ls⟩ => (Ext w wr) ∧ (k ≤ 16 * n4) ∧ (ii = (k : Int) - 1) ∧ (Bk wr g5 23 (lr.map W64)) ∧ (lr.length = ((n4 / 2) + 2)) ∧ (Wfb 4294967296 lr) ∧ (Bk wr g14 23 (ls.map W64)) ∧ (ls.length = ((n4 / 2) + 2)) ∧ (Wfb 4294967296 ls) ∧ (IsRoot (nv xs / 4 ^ k) 2 (nb 4294967296 ls)) ∧ (nb 4294967296 lr + nb 4294967296 ls * nb 4294967296 ls = nv xs / 4 ^ k) ∧ (Rd wr A4 n4 c4 (db 4294967296 (nv xs))))
    (fun ⟨wr, k, ii, lr, ls⟩ => k)
    (⟨v15, 16 * n4, _, _, _⟩ : World × Nat × Int × List Nat × List Nat) ⟨hw3, Nat.le_refl _, (by omega), (hb8.ext e18), (List.length_replicate (n := (n4 / 2) + 2) (a := 0)), (Wfb_zeros (by decide) _), hb17, (List.length_replicate (n := (n4 / 2) + 2) (a := 0)), (Wfb_zeros (by decide) _), (by rw [hq0, hz0]; exact IsRoot.zero (by decide)), (by rw [hq0, hz0]), (rd4.ext (e9.trans e18))⟩ rfl ⟨rfl, rfl, rfl, rfl, rfl, trivial⟩ ?_
  rintro ⟨wr, k, ii, lr, ls⟩ ⟨hw1, hk, hii, hbr, hlr, hwr, hbs, hls, hws, hI, hR, rl4⟩
  refine cw_re [(4, .slice A4 n4 c4), (5, .int .i64 (((n4 / 2) + 2 : Nat) : Int)), (6, .slice (some ⟨g5, 0, none⟩) ((n4 / 2) + 2) ((n4 / 2) + 2)), (7, .slice (some ⟨g14, 0, none⟩) ((n4 / 2) + 2) ((n4 / 2) + 2)), (8, .int .i64 ii)] wr rfl ⟨rfl, rfl, rfl, rfl, rfl, trivial⟩ ?_
  refine cw_seq ?_
  refine cw_seq ?_
  by_cases hk0 : 0 < k
  ·
    obtain ⟨j, rfl⟩ : ∃ j, k = j + 1 := ⟨k - 1, by omega⟩
    obtain rfl : ii = (j : Int) := by omega
    refine cw_region ?_
    refine wl_move rfl rfl (by decide) ?_
    refine wl_cmp rfl rfl rfl true (cb_ge_t (a := j) (b := 0) rfl rfl (by omega)) (by decide) ?_
    refine wl_nil ?_
    refine eo_then ?_
    refine cw_true rfl ?_
    refine cw_skip ?_
    refine eo_then ?_
    refine cw_seq ?_
    refine cw_block ?_
    refine cw_seq ?_
    have hss : nb 4294967296 ls * nb 4294967296 ls ≤ nv xs := Nat.le_trans (Nat.le_trans (Nat.le_add_left _ _) (Nat.le_of_eq hR)) (Nat.div_le_self _ _)
    have hsm8 := sq_small hXL rfl hss
    have hrr := sq_rest hI hR
    have hdb := Wfb_getD (b := 4294967296) (by decide) (Wfb_db b32 (nv xs)) (j / 16)
    have hpr := sq_pair (X := nv xs) (i := j)
    have hnx := sq_next hpr
    have hp4 : (db 4294967296 (nv xs)).getD (j / 16) 0 / 2 ^ (2 * (j % 16)) % 4 < 4 := Nat.mod_lt _ (by decide)
    have hdv : (db 4294967296 (nv xs)).getD (j / 16) 0 / 2 ^ (2 * (j % 16)) ≤ 4294967295 := Nat.le_trans (Nat.div_le_self _ _) (by omega)
    refine cw_region ?_
    refine wl_move rfl rfl (by decide) ?_
    refine wl_move rfl rfl (by decide) ?_
    refine wl_ar rfl rfl rfl ((j / 16 : Nat) : Int) (ai_quo (a := j) (b := 16) rfl rfl (by omega) (by omega)) (by decide) ?_
    obtain ⟨p24, hp24, hc24, hv24⟩ := (rl4).at (i := j / 16) (by omega)
    refine wl_idx rfl rfl rfl un_u64 sz_u64 (j / 16) rfl (by omega) p24 hp24 (by decide) ?_
    refine wl_load rfl rfl (load_cell1 ag_u64 hc24) (by decide) ?_
    refine wl_move rfl rfl (by decide) ?_
    refine wl_ar rfl rfl rfl ((j % 16 : Nat) : Int) (au_rem (a := j) (b := 16) rfl rfl (by omega)) (by decide) ?_
    refine wl_ar rfl rfl rfl ((2 * (j % 16) : Nat) : Int) (ai_mul (a := 2) (b := j % 16) rfl rfl (by omega)) (by decide) ?_
    refine wl_pureE rfl rfl (v := .int .u64 (IntKind.u64.wrap ((2 * (j % 16) : Nat) : Int))) (v' := .int .u64 ((2 * (j % 16) : Nat) : Int)) (by decide) (by kernel_rfl) (cv_u64 (by first | omega | exact (by omega))) ?_
    refine wl_op rfl rfl rfl (r := .int .u64 ((((db 4294967296 (nv xs)).getD (j / 16) 0) / 2 ^ (2 * (j % 16)) : Nat) : Int)) rfl (fun w => u64_shr (x := (db 4294967296 (nv xs)).getD (j / 16) 0) (s := 2 * (j % 16)) (by omega) _ _ w) (by decide) ?_
    refine wl_ar rfl rfl rfl (((((db 4294967296 (nv xs)).getD (j / 16) 0) / 2 ^ (2 * (j % 16))) % 4 : Nat) : Int) (au_rem (a := ((db 4294967296 (nv xs)).getD (j / 16) 0) / 2 ^ (2 * (j % 16))) (b := 4) rfl rfl (by omega)) (by decide) ?_
    refine wl_assign rfl rfl (by decide) ?_
    refine wl_nil ?_
    refine eo_then ?_
    refine cw_seq ?_
    obtain ⟨p, hpd⟩ : ∃ p, (((db 4294967296 (nv xs)).getD (j / 16) 0) / 2 ^ (2 * (j % 16))) % 4 = p := ⟨_, rfl⟩
    rw [hpd] at hpr hnx hp4
    have hpd2 : (((((db 4294967296 (nv xs)).getD (j / 16) 0) / 2 ^ (2 * (j % 16))) % 4 : Nat) : Int) = (p : Int) := by rw [hpd]
    refine cw_region ?_
    refine wl_move rfl rfl (by decide) ?_
    refine wl_move rfl rfl (by decide) ?_
    refine wl_call rfl rfl (vs := [.slice (some ⟨g5, 0, none⟩) ((n4 / 2) + 2) ((n4 / 2) + 2), .int .u64 (((((db 4294967296 (nv xs)).getD (j / 16) 0) / 2 ^ (2 * (j % 16))) % 4 : Nat) : Int)]) (by kernel_rfl) (by decide) (ref3_push (q := (((db 4294967296 (nv xs)).getD (j / 16) 0) / 2 ^ (2 * (j % 16))) % 4) hbr hlr (by omega) hwr (by rw [hpd]; omega) (by rw [hpd]; omega)) ?_
    rintro _ v25 ⟨rfl, u26, l29, hb27, hl28, wf30, hv31⟩
    refine ret_intro ?_
    have hw2 : Ext w v25 := u26.ext hw1 ge10
    refine wl_nil ?_
    refine eo_then ?_
    refine cw_seq ?_
    refine cw_region ?_
    refine wl_move rfl rfl (by decide) ?_
    refine wl_make rfl (k := (n4 / 2) + 2) rfl rfl rfl un_u64 info64 rfl (by decide) (by omega) (by decide) fun g32 v33 hg34 hb35 e36 => ?_
    rw [replicate_W64] at hb35
    have ge37 : w.heap.size ≤ g32 := by rw [← hg34]; exact hw2.size
    have q39 : g5 < g32 := by rw [← hg34]; exact hb27.lt
    have q40 : g14 < g32 := by rw [← hg34]; exact (hbs.updN u26 (by omega)).lt
    have ne41 : 0 < c4 → ∀ a, A4 = some a → a.block ≠ g32 := fun hc a ha => by have := ((Rd.updL rl4 u26 ne13)).rv.blk a ha hc; omega
    clear hg34
    have hw3 : Ext w v33 := hw2.trans e36
    refine wl_assign rfl rfl (by decide) ?_
    refine wl_nil ?_
    refine eo_then ?_
    refine cw_seq ?_
    refine cw_region ?_
    refine wl_move rfl rfl (by decide) ?_
    refine wl_move rfl rfl (by decide) ?_
    have hb43 := hb35
    refine wl_copy rfl rfl Try.underlying22 (by kernel_rfl) hb43 (((hbs.updN u26 (by omega)).ext e36).rd0 hws.wf hls (by omega)).rv (fun _ => rfl) (by rw [List.length_map, (List.length_replicate (n := (n4 / 2) + 2) (a := 0))]; omega) one_W64' (by decide) fun v42 hb44 u45 => ?_
    rw [copy_all (List.length_replicate (n := (n4 / 2) + 2) (a := 0)) hls] at hb44
    have hw4 : Ext w v42 := u45.ext hw3 ge37
    refine wl_nil ?_
    refine eo_then ?_
    refine cw_seq ?_
    rw [hpd] at hv31
    refine cw_region ?_
    refine wl_move rfl rfl (by decide) ?_
    refine wl_call rfl rfl (vs := [.slice (some ⟨g32, 0, none⟩) ((n4 / 2) + 2) ((n4 / 2) + 2), .int .u64 1]) (by kernel_rfl) (by decide) (ref3_push (q := 1) hb44 hls (by omega) hws (by decide) (by omega)) ?_
    rintro _ v46 ⟨rfl, u47, l50, hb48, hl49, wf51, hv52⟩
    refine ret_intro ?_
    have hw5 : Ext w v46 := u47.ext hw4 ge37
    refine wl_nil ?_
    refine eo_then ?_
    refine cw_seq ?_
    refine cw_region ?_
    refine wl_assign rfl rfl (by decide) ?_
    refine wl_nil ?_
    refine eo_then ?_
    refine cw_seq ?_
    by_cases hlt : nb 4294967296 l29 < nb 4294967296 l50
    ·
      have hlt2 : nb 4294967296 lr * 4 + p < 4 * nb 4294967296 ls + 1 := by omega
      have hS := sq_zero hI hR hlt2
      refine cw_region ?_
      refine wl_move rfl rfl (by decide) ?_
      refine wl_call rfl rfl (vs := [.slice (some ⟨g5, 0, none⟩) ((n4 / 2) + 2) ((n4 / 2) + 2)]) (by kernel_rfl) (by decide) (ref3_Trim ((((hb27.ext e36).updN u45 (by omega)).updN u47 (by omega)).rd0 wf30.wf hl28 (by omega)) (by omega)) ?_
      rintro _ v53 ⟨xr55, rfl, r55, e54⟩
      refine ret_intro ?_
      have hw6 : Ext w v53 := hw5.trans e54
      obtain ⟨k56, rfl, hk56, ht56, hv56⟩ := r55
      refine wl_move rfl rfl (by decide) ?_
      refine wl_call rfl rfl (vs := [.slice (some ⟨g32, 0, none⟩) ((n4 / 2) + 2) ((n4 / 2) + 2)]) (by kernel_rfl) (by decide) (ref3_Trim ((hb48.ext e54).rd0 wf51.wf hl49 (by omega)) (by omega)) ?_
      rintro _ v57 ⟨xr59, rfl, r59, e58⟩
      refine ret_intro ?_
      have hw7 : Ext w v57 := hw6.trans e58
      obtain ⟨k60, rfl, hk60, ht60, hv60⟩ := r59
      refine wl_call rfl rfl (vs := [.slice (some ⟨g5, 0, none⟩) k56 ((n4 / 2) + 2), .slice (some ⟨g32, 0, none⟩) k60 ((n4 / 2) + 2)]) (by kernel_rfl) (by decide) (ref3_below' (b := true) ((((((hb27.ext e36).updN u45 (by omega)).updN u47 (by omega)).ext (e54.trans e58)).rd0 wf30.wf hl28 (by omega)).trim wf30 hk56 ht56 hv56) (by omega) (((hb48.ext (e54.trans e58)).rd0 wf51.wf hl49 (by omega)).trim wf51 hk60 ht60 hv60) (by omega) (by rw [decide_eq_true hlt])) ?_
      rintro _ v61 ⟨xr63, rfl, r63, e62⟩
      refine ret_intro ?_
      have hw8 : Ext w v61 := hw7.trans e62
      obtain rfl := r63
      refine wl_assign rfl rfl (by decide) ?_
      refine wl_nil ?_
      refine eo_then ?_
      refine cw_seq ?_
      refine cw_seq ?_
      refine cw_region ?_
      refine wl_move rfl rfl (by decide) ?_
      refine wl_pure rfl rfl (v := .bool false) (by decide) (by kernel_rfl) ?_
      refine wl_nil ?_
      refine eo_then ?_
      refine cw_false rfl ?_
      refine cw_skip ?_
      refine eo_then ?_
      refine cw_seq ?_
      refine cw_region ?_
      refine wl_move rfl rfl (by decide) ?_
      refine wl_assign rfl rfl (by decide) ?_
      refine wl_nil ?_
      refine eo_then ?_
      refine cw_seq ?_
      refine cw_region ?_
      refine wl_assign rfl rfl (by decide) ?_
      refine wl_nil ?_
      refine eo_then ?_
      refine cw_block ?_
      refine cw_loop (T := World × Nat × Nat × List Nat)
        (fun ⟨wr2, j2, c, l2⟩ => [(4, .slice A4 n4 c4), (5, .int .i64 (((n4 / 2) + 2 : Nat) : Int)), (6, .slice (some ⟨g5, 0, none⟩) ((n4 / 2) + 2) ((n4 / 2) + 2)), (7, .slice (some ⟨g14, 0, none⟩) ((n4 / 2) + 2) ((n4 / 2) + 2)), (8, .int .i64 ((j : Nat) : Int)), (13, .int .u64 ((c : Nat) : Int)), (14, .int .i64 ((j2 : Nat) : Int))])
        (fun ⟨wr2, j2, c, l2⟩ => wr2)
        (fun ⟨wr2, j2, c, l2⟩ => (Ext w wr2) ∧ (j2 ≤ ((n4 / 2) + 2)) ∧ (c ≤ 1) ∧ (Bk wr2 g5 23 (l29.map W64)) ∧ (Bk wr2 g14 23 (l2.map W64)) ∧ (l2.length = ((n4 / 2) + 2)) ∧ (Wfb 4294967296 l2) ∧ (∀ q, j2 ≤ q → l2.getD q 0 = ls.getD q 0) ∧ (nb 4294967296 (l2.take j2) + 4294967296 ^ j2 * c = nb 4294967296 (ls.take j2) * 2 + 0) ∧ (Rd wr2 A4 n4 c4 (db 4294967296 (nv xs))))
        (fun ⟨wr2, j2, c, l2⟩ => ((n4 / 2) + 2) - j2)
        (⟨v61, 0, 0, ls⟩ : World × Nat × Nat × List Nat) ⟨hw8, (Nat.zero_le _), (by decide), ((((hb27.ext e36).updN u45 (by omega)).updN u47 (by omega)).ext (e54.trans (e58.trans e62))), (((((hbs.updN u26 (by omega)).ext e36).updN u45 (by omega)).updN u47 (by omega)).ext (e54.trans (e58.trans e62))), hls, hws, (fun _ _ => rfl), (by simp [nb]), ((Rd.updL (Rd.updL ((Rd.updL rl4 u26 ne13).ext e36) u45 ne41) u47 ne41).ext (e54.trans (e58.trans e62)))⟩ rfl ⟨rfl, rfl, rfl, rfl, rfl, rfl, rfl, trivial⟩ ?_
      rintro ⟨wr2, j2, c, l2⟩ ⟨hw1, hj2, hc, hbr2, hbs2, hl2, hwq, hsm, hv2, rl4⟩
      refine cw_re [(4, .slice A4 n4 c4), (5, .int .i64 (((n4 / 2) + 2 : Nat) : Int)), (6, .slice (some ⟨g5, 0, none⟩) ((n4 / 2) + 2) ((n4 / 2) + 2)), (7, .slice (some ⟨g14, 0, none⟩) ((n4 / 2) + 2) ((n4 / 2) + 2)), (8, .int .i64 ((j : Nat) : Int)), (13, .int .u64 ((c : Nat) : Int)), (14, .int .i64 ((j2 : Nat) : Int))] wr2 rfl ⟨rfl, rfl, rfl, rfl, rfl, rfl, rfl, trivial⟩ ?_
      refine cw_seq ?_
      refine cw_seq ?_
      by_cases hjn : j2 < (n4 / 2) + 2
      ·
        refine cw_region ?_
        refine wl_move rfl rfl (by decide) ?_
        refine wl_move rfl rfl (by decide) ?_
        refine wl_cmp rfl rfl rfl true (cb_lt_t (a := j2) (b := (n4 / 2) + 2) rfl rfl (by omega)) (by decide) ?_
        refine wl_nil ?_
        refine eo_then ?_
        refine cw_true rfl ?_
        refine cw_skip ?_
        refine eo_then ?_
        refine cw_seq ?_
        refine cw_block ?_
        refine cw_seq ?_
        have hd := Wfb_getD (b := 4294967296) (by decide) hwq j2
        refine cw_region ?_
        refine wl_move rfl rfl (by decide) ?_
        refine wl_move rfl rfl (by decide) ?_
        refine wl_idx rfl rfl rfl un_u64 sz_u64 j2 rfl (by omega) ⟨g14, j2, none⟩ (arr_at _ _) (by decide) ?_
        refine wl_load rfl rfl (load_word ag_u64 hbs2 (by rw [hl2]; omega)) (by decide) ?_
        refine wl_ar rfl rfl rfl ((2 * (l2.getD j2 0) : Nat) : Int) (au_mul (a := 2) (b := l2.getD j2 0) rfl rfl (by omega)) (by decide) ?_
        refine wl_move rfl rfl (by decide) ?_
        refine wl_ar rfl rfl rfl (((2 * (l2.getD j2 0)) + c : Nat) : Int) (au_add (a := 2 * (l2.getD j2 0)) (b := c) rfl rfl (by omega)) (by decide) ?_
        refine wl_assign rfl rfl (by decide) ?_
        refine wl_nil ?_
        refine eo_then ?_
        refine cw_seq ?_
        refine cw_region ?_
        refine wl_move rfl rfl (by decide) ?_
        refine wl_move rfl rfl (by decide) ?_
        refine wl_move rfl rfl (by decide) ?_
        refine wl_ar rfl rfl rfl ((((2 * (l2.getD j2 0)) + c) % 4294967296 : Nat) : Int) (au_rem (a := (2 * (l2.getD j2 0)) + c) (b := 4294967296) rfl rfl (by omega)) (by decide) ?_
        refine wl_idx rfl rfl rfl un_u64 sz_u64 j2 rfl (by omega) ⟨g14, j2, none⟩ (arr_at _ _) (by decide) ?_
        have hb65 := hbs2
        refine wl_stored1 rfl rfl rfl sz_u64 rfl hb65 (len_map (by rw [hl2]; omega)) rfl ((l2.set j2 (((2 * (l2.getD j2 0)) + c) % 4294967296)).map W64) (map_W64_set _ _ _) fun v64 hb66 u67 hs68 => ?_
        have hw2 : Ext w v64 := u67.ext hw1 ge19
        refine wl_nil ?_
        refine eo_then ?_
        refine cw_region ?_
        refine wl_move rfl rfl (by decide) ?_
        refine wl_ar rfl rfl rfl ((((2 * (l2.getD j2 0)) + c) / 4294967296 : Nat) : Int) (au_quo (a := (2 * (l2.getD j2 0)) + c) (b := 4294967296) rfl rfl (by omega) (by omega)) (by decide) ?_
        refine wl_assign rfl rfl (by decide) ?_
        refine wl_nil ?_
        refine eo_block_normal ?_
        refine eo_then ?_
        refine cw_region ?_
        refine wl_move rfl rfl (by decide) ?_
        refine wl_ar rfl rfl rfl ((j2 + 1 : Nat) : Int) (ai_add (a := j2) (b := 1) rfl rfl (by omega)) (by decide) ?_
        refine wl_assign rfl rfl (by decide) ?_
        refine wl_nil ?_
        refine eo_round (⟨v64, j2 + 1, _, _⟩ : World × Nat × Nat × List Nat) ⟨hw2, (by omega), (by omega), (hbr2.updN u67 (by omega)), hb66, (len_set (l := l2) (hl2)), Wfb_set hwq _ (Nat.mod_lt _ (by decide)), (push_same hsm), (dbl_step hv2 (by omega) (by omega) (hsm j2 (Nat.le_refl _)).symm (Nat.mod_add_div _ _)), (Rd.updL rl4 u67 ne23)⟩ (show ((n4 / 2) + 2) - (j2 + 1) < ((n4 / 2) + 2) - j2 by omega) rfl ⟨rfl, rfl, rfl, rfl, rfl, rfl, rfl, trivial⟩
      ·
        have hje : j2 = ((n4 / 2) + 2) := by omega
        rw [hje] at hv2
        have hdbl : nb 4294967296 l2 = 2 * nb 4294967296 ls := by have h := dbl_done hls hl2 hv2 (by omega); omega
        refine cw_region ?_
        refine wl_move rfl rfl (by decide) ?_
        refine wl_move rfl rfl (by decide) ?_
        refine wl_cmp rfl rfl rfl false (cb_lt_f (a := j2) (b := (n4 / 2) + 2) rfl rfl (by omega)) (by decide) ?_
        refine wl_nil ?_
        refine eo_then ?_
        refine cw_false rfl ?_
        refine cw_exit ?_
        refine eo_thenX ?_
        refine eo_loopX ?_
        refine eo_block_here ?_
        refine eo_block_normal ?_
        refine eo_then ?_
        refine cw_region ?_
        refine wl_move rfl rfl (by decide) ?_
        refine wl_ar rfl rfl rfl (((j : Nat) : Int) - 1) (ar_i64s rfl (by omega) (by omega)) (by decide) ?_
        refine wl_assign rfl rfl (by decide) ?_
        refine wl_nil ?_
        refine eo_round (⟨wr2, j, _, _, _⟩ : World × Nat × Int × List Nat × List Nat) ⟨hw1, (by omega), rfl, hbr2, hl28, wf30, hbs2, hl2, hwq, (by rw [hdbl, hnx]; exact hS.1), (by rw [hdbl, hnx, hv31]; exact hS.2), rl4⟩ (show j < j + 1 by omega) rfl ⟨rfl, rfl, rfl, rfl, rfl, trivial⟩
    ·
      have hlt2 : ¬ nb 4294967296 lr * 4 + p < 4 * nb 4294967296 ls + 1 := by omega
      have hS := sq_one hI hp4 hR hlt2
      refine cw_region ?_
      refine wl_move rfl rfl (by decide) ?_
      refine wl_call rfl rfl (vs := [.slice (some ⟨g5, 0, none⟩) ((n4 / 2) + 2) ((n4 / 2) + 2)]) (by kernel_rfl) (by decide) (ref3_Trim ((((hb27.ext e36).updN u45 (by omega)).updN u47 (by omega)).rd0 wf30.wf hl28 (by omega)) (by omega)) ?_
      rintro _ v69 ⟨xr71, rfl, r71, e70⟩
      refine ret_intro ?_
      have hw6 : Ext w v69 := hw5.trans e70
      obtain ⟨k72, rfl, hk72, ht72, hv72⟩ := r71
      refine wl_move rfl rfl (by decide) ?_
      refine wl_call rfl rfl (vs := [.slice (some ⟨g32, 0, none⟩) ((n4 / 2) + 2) ((n4 / 2) + 2)]) (by kernel_rfl) (by decide) (ref3_Trim ((hb48.ext e70).rd0 wf51.wf hl49 (by omega)) (by omega)) ?_
      rintro _ v73 ⟨xr75, rfl, r75, e74⟩
      refine ret_intro ?_
      have hw7 : Ext w v73 := hw6.trans e74
      obtain ⟨k76, rfl, hk76, ht76, hv76⟩ := r75
      refine wl_call rfl rfl (vs := [.slice (some ⟨g5, 0, none⟩) k72 ((n4 / 2) + 2), .slice (some ⟨g32, 0, none⟩) k76 ((n4 / 2) + 2)]) (by kernel_rfl) (by decide) (ref3_below' (b := false) ((((((hb27.ext e36).updN u45 (by omega)).updN u47 (by omega)).ext (e70.trans e74)).rd0 wf30.wf hl28 (by omega)).trim wf30 hk72 ht72 hv72) (by omega) (((hb48.ext (e70.trans e74)).rd0 wf51.wf hl49 (by omega)).trim wf51 hk76 ht76 hv76) (by omega) (by rw [decide_eq_false hlt])) ?_
      rintro _ v77 ⟨xr79, rfl, r79, e78⟩
      refine ret_intro ?_
      have hw8 : Ext w v77 := hw7.trans e78
      obtain rfl := r79
      refine wl_assign rfl rfl (by decide) ?_
      refine wl_nil ?_
      refine eo_then ?_
      refine cw_seq ?_
      refine cw_seq ?_
      refine cw_region ?_
      refine wl_move rfl rfl (by decide) ?_
      refine wl_pure rfl rfl (v := .bool true) (by decide) (by kernel_rfl) ?_
      refine wl_nil ?_
      refine eo_then ?_
      refine cw_true rfl ?_
      refine cw_seq ?_
      refine cw_region ?_
      refine wl_move rfl rfl (by decide) ?_
      refine wl_move rfl rfl (by decide) ?_
      refine wl_call rfl rfl (vs := [.slice (some ⟨g32, 0, none⟩) ((n4 / 2) + 2) ((n4 / 2) + 2)]) (by kernel_rfl) (by decide) (ref3_Trim ((hb48.ext (e70.trans (e74.trans e78))).rd0 wf51.wf hl49 (by omega)) (by omega)) ?_
      rintro _ v80 ⟨xr82, rfl, r82, e81⟩
      refine ret_intro ?_
      have hw9 : Ext w v80 := hw8.trans e81
      obtain ⟨k83, rfl, hk83, ht83, hv83⟩ := r82
      have hvt := hv83 4294967296
      refine wl_call rfl rfl (vs := [.slice (some ⟨g5, 0, none⟩) ((n4 / 2) + 2) ((n4 / 2) + 2), .slice (some ⟨g32, 0, none⟩) k83 ((n4 / 2) + 2), .int .u64 1, .int .i64 0]) (by kernel_rfl) (by decide) (ref3_takeOff (q := 1) (s := 0) ((((hb27.ext e36).updN u45 (by omega)).updN u47 (by omega)).ext (e70.trans (e74.trans (e78.trans e81)))) hl28 (by omega) wf30 (((hb48.ext (e70.trans (e74.trans (e78.trans e81)))).rd0 wf51.wf hl49 (by omega)).take (k := k83) (by omega) (by omega) (Nat.le_refl _)) (Wfb_take wf51 _) (fun _ a ha => by cases ha; show g32 ≠ g5; omega) (by decide) (by omega) (by rw [hvt, Nat.pow_zero]; omega)) ?_
      rintro _ v84 ⟨rfl, u85, l88, hb86, hl87, wf89, hv90⟩
      refine ret_intro ?_
      rw [hvt, Nat.pow_zero, Nat.mul_one, Nat.one_mul] at hv90
      have hw10 : Ext w v84 := u85.ext hw9 ge10
      have hvr : nb 4294967296 l88 = nb 4294967296 lr * 4 + p - (4 * nb 4294967296 ls + 1) := by omega
      refine wl_nil ?_
      refine eo_then ?_
      refine cw_region ?_
      refine wl_assign rfl rfl (by decide) ?_
      refine wl_nil ?_
      refine eo_then ?_
      refine cw_seq ?_
      refine cw_region ?_
      refine wl_move rfl rfl (by decide) ?_
      refine wl_assign rfl rfl (by decide) ?_
      refine wl_nil ?_
      refine eo_then ?_
      refine cw_seq ?_
      refine cw_region ?_
      refine wl_assign rfl rfl (by decide) ?_
      refine wl_nil ?_
      refine eo_then ?_
      refine cw_block ?_
      refine cw_loop (T := World × Nat × Nat × List Nat)
        (fun ⟨wr2, j2, c, l2⟩ => [(4, .slice A4 n4 c4), (5, .int .i64 (((n4 / 2) + 2 : Nat) : Int)), (6, .slice (some ⟨g5, 0, none⟩) ((n4 / 2) + 2) ((n4 / 2) + 2)), (7, .slice (some ⟨g14, 0, none⟩) ((n4 / 2) + 2) ((n4 / 2) + 2)), (8, .int .i64 ((j : Nat) : Int)), (13, .int .u64 ((c : Nat) : Int)), (14, .int .i64 ((j2 : Nat) : Int))])
        (fun ⟨wr2, j2, c, l2⟩ => wr2)
        (fun ⟨wr2, j2, c, l2⟩ => (Ext w wr2) ∧ (j2 ≤ ((n4 / 2) + 2)) ∧ (c ≤ 1) ∧ (Bk wr2 g5 23 (l88.map W64)) ∧ (Bk wr2 g14 23 (l2.map W64)) ∧ (l2.length = ((n4 / 2) + 2)) ∧ (Wfb 4294967296 l2) ∧ (∀ q, j2 ≤ q → l2.getD q 0 = ls.getD q 0) ∧ (nb 4294967296 (l2.take j2) + 4294967296 ^ j2 * c = nb 4294967296 (ls.take j2) * 2 + 1) ∧ (Rd wr2 A4 n4 c4 (db 4294967296 (nv xs))))
        (fun ⟨wr2, j2, c, l2⟩ => ((n4 / 2) + 2) - j2)
        (⟨v84, 0, 1, ls⟩ : World × Nat × Nat × List Nat) ⟨hw10, (Nat.zero_le _), (by decide), hb86, ((((((hbs.updN u26 (by omega)).ext e36).updN u45 (by omega)).updN u47 (by omega)).ext (e70.trans (e74.trans (e78.trans e81)))).updN u85 (by omega)), hls, hws, (fun _ _ => rfl), (by simp [nb]), (Rd.updL ((Rd.updL (Rd.updL ((Rd.updL rl4 u26 ne13).ext e36) u45 ne41) u47 ne41).ext (e70.trans (e74.trans (e78.trans e81)))) u85 ne13)⟩ rfl ⟨rfl, rfl, rfl, rfl, rfl, rfl, rfl, trivial⟩ ?_
      rintro ⟨wr2, j2, c, l2⟩ ⟨hw1, hj2, hc, hbr2, hbs2, hl2, hwq, hsm, hv2, rl4⟩
      refine cw_re [(4, .slice A4 n4 c4), (5, .int .i64 (((n4 / 2) + 2 : Nat) : Int)), (6, .slice (some ⟨g5, 0, none⟩) ((n4 / 2) + 2) ((n4 / 2) + 2)), (7, .slice (some ⟨g14, 0, none⟩) ((n4 / 2) + 2) ((n4 / 2) + 2)), (8, .int .i64 ((j : Nat) : Int)), (13, .int .u64 ((c : Nat) : Int)), (14, .int .i64 ((j2 : Nat) : Int))] wr2 rfl ⟨rfl, rfl, rfl, rfl, rfl, rfl, rfl, trivial⟩ ?_
      refine cw_seq ?_
      refine cw_seq ?_
      by_cases hjn : j2 < (n4 / 2) + 2
      ·
        refine cw_region ?_
        refine wl_move rfl rfl (by decide) ?_
        refine wl_move rfl rfl (by decide) ?_
        refine wl_cmp rfl rfl rfl true (cb_lt_t (a := j2) (b := (n4 / 2) + 2) rfl rfl (by omega)) (by decide) ?_
        refine wl_nil ?_
        refine eo_then ?_
        refine cw_true rfl ?_
        refine cw_skip ?_
        refine eo_then ?_
        refine cw_seq ?_
        refine cw_block ?_
        refine cw_seq ?_
        have hd := Wfb_getD (b := 4294967296) (by decide) hwq j2
        refine cw_region ?_
        refine wl_move rfl rfl (by decide) ?_
        refine wl_move rfl rfl (by decide) ?_
        refine wl_idx rfl rfl rfl un_u64 sz_u64 j2 rfl (by omega) ⟨g14, j2, none⟩ (arr_at _ _) (by decide) ?_
        refine wl_load rfl rfl (load_word ag_u64 hbs2 (by rw [hl2]; omega)) (by decide) ?_
        refine wl_ar rfl rfl rfl ((2 * (l2.getD j2 0) : Nat) : Int) (au_mul (a := 2) (b := l2.getD j2 0) rfl rfl (by omega)) (by decide) ?_
        refine wl_move rfl rfl (by decide) ?_
        refine wl_ar rfl rfl rfl (((2 * (l2.getD j2 0)) + c : Nat) : Int) (au_add (a := 2 * (l2.getD j2 0)) (b := c) rfl rfl (by omega)) (by decide) ?_
        refine wl_assign rfl rfl (by decide) ?_
        refine wl_nil ?_
        refine eo_then ?_
        refine cw_seq ?_
        refine cw_region ?_
        refine wl_move rfl rfl (by decide) ?_
        refine wl_move rfl rfl (by decide) ?_
        refine wl_move rfl rfl (by decide) ?_
        refine wl_ar rfl rfl rfl ((((2 * (l2.getD j2 0)) + c) % 4294967296 : Nat) : Int) (au_rem (a := (2 * (l2.getD j2 0)) + c) (b := 4294967296) rfl rfl (by omega)) (by decide) ?_
        refine wl_idx rfl rfl rfl un_u64 sz_u64 j2 rfl (by omega) ⟨g14, j2, none⟩ (arr_at _ _) (by decide) ?_
        have hb92 := hbs2
        refine wl_stored1 rfl rfl rfl sz_u64 rfl hb92 (len_map (by rw [hl2]; omega)) rfl ((l2.set j2 (((2 * (l2.getD j2 0)) + c) % 4294967296)).map W64) (map_W64_set _ _ _) fun v91 hb93 u94 hs95 => ?_
        have hw2 : Ext w v91 := u94.ext hw1 ge19
        refine wl_nil ?_
        refine eo_then ?_
        refine cw_region ?_
        refine wl_move rfl rfl (by decide) ?_
        refine wl_ar rfl rfl rfl ((((2 * (l2.getD j2 0)) + c) / 4294967296 : Nat) : Int) (au_quo (a := (2 * (l2.getD j2 0)) + c) (b := 4294967296) rfl rfl (by omega) (by omega)) (by decide) ?_
        refine wl_assign rfl rfl (by decide) ?_
        refine wl_nil ?_
        refine eo_block_normal ?_
        refine eo_then ?_
        refine cw_region ?_
        refine wl_move rfl rfl (by decide) ?_
        refine wl_ar rfl rfl rfl ((j2 + 1 : Nat) : Int) (ai_add (a := j2) (b := 1) rfl rfl (by omega)) (by decide) ?_
        refine wl_assign rfl rfl (by decide) ?_
        refine wl_nil ?_
        refine eo_round (⟨v91, j2 + 1, _, _⟩ : World × Nat × Nat × List Nat) ⟨hw2, (by omega), (by omega), (hbr2.updN u94 (by omega)), hb93, (len_set (l := l2) (hl2)), Wfb_set hwq _ (Nat.mod_lt _ (by decide)), (push_same hsm), (dbl_step hv2 (by omega) (by omega) (hsm j2 (Nat.le_refl _)).symm (Nat.mod_add_div _ _)), (Rd.updL rl4 u94 ne23)⟩ (show ((n4 / 2) + 2) - (j2 + 1) < ((n4 / 2) + 2) - j2 by omega) rfl ⟨rfl, rfl, rfl, rfl, rfl, rfl, rfl, trivial⟩
      ·
        have hje : j2 = ((n4 / 2) + 2) := by omega
        rw [hje] at hv2
        have hdbl : nb 4294967296 l2 = 2 * nb 4294967296 ls + 1 := by have h := dbl_done hls hl2 hv2 (by omega); omega
        refine cw_region ?_
        refine wl_move rfl rfl (by decide) ?_
        refine wl_move rfl rfl (by decide) ?_
        refine wl_cmp rfl rfl rfl false (cb_lt_f (a := j2) (b := (n4 / 2) + 2) rfl rfl (by omega)) (by decide) ?_
        refine wl_nil ?_
        refine eo_then ?_
        refine cw_false rfl ?_
        refine cw_exit ?_
        refine eo_thenX ?_
        refine eo_loopX ?_
        refine eo_block_here ?_
        refine eo_block_normal ?_
        refine eo_then ?_
        refine cw_region ?_
        refine wl_move rfl rfl (by decide) ?_
        refine wl_ar rfl rfl rfl (((j : Nat) : Int) - 1) (ar_i64s rfl (by omega) (by omega)) (by decide) ?_
        refine wl_assign rfl rfl (by decide) ?_
        refine wl_nil ?_
        refine eo_round (⟨wr2, j, _, _, _⟩ : World × Nat × Int × List Nat × List Nat) ⟨hw1, (by omega), rfl, hbr2, hl87, wf89, hbs2, hl2, hwq, (by rw [hdbl, hnx]; exact hS.1), (by rw [hdbl, hnx, hvr]; exact hS.2), rl4⟩ (show j < j + 1 by omega) rfl ⟨rfl, rfl, rfl, rfl, rfl, trivial⟩
  ·
    obtain rfl : k = 0 := by omega
    refine cw_region ?_
    refine wl_move rfl rfl (by decide) ?_
    refine wl_cmp rfl rfl rfl false (ge_f (by omega)) (by decide) ?_
    refine wl_nil ?_
    refine eo_then ?_
    refine cw_false rfl ?_
    refine cw_exit ?_
    refine eo_thenX ?_
    refine eo_loopX ?_
    refine eo_block_here ?_
    refine eo_then ?_
    refine cw_seq ?_
    refine cw_region ?_
    refine wl_move rfl rfl (by decide) ?_
    refine wl_call rfl rfl (vs := [.slice (some ⟨g14, 0, none⟩) ((n4 / 2) + 2) ((n4 / 2) + 2)]) (by kernel_rfl) (by decide) (ref3_words (hbs.rd0 hws.wf hls (by omega)) (by omega) hws) ?_
    rintro _ v96 ⟨xr98, rfl, r98, e97⟩
    refine ret_intro ?_
    have hw2 : Ext w v96 := hw1.trans e97
    obtain ⟨A99, n99, c99, rfl, j99, o99⟩ := r98
    refine wl_move rfl rfl (by decide) ?_
    refine wl_call rfl rfl (vs := [.slice (some ⟨g5, 0, none⟩) ((n4 / 2) + 2) ((n4 / 2) + 2)]) (by kernel_rfl) (by decide) (ref3_words ((hbr.ext e97).rd0 hwr.wf hlr (by omega)) (by omega) hwr) ?_
    rintro _ v100 ⟨xr102, rfl, r102, e101⟩
    refine ret_intro ?_
    have hw3 : Ext w v100 := hw2.trans e101
    obtain ⟨A103, n103, c103, rfl, j103, o103⟩ := r102
    refine wl_assign rfl rfl (by decide) ?_
    refine wl_assign rfl rfl (by decide) ?_
    refine wl_nil ?_
    refine eo_then ?_
    refine cw_ret ?_
    refine eo_ret [.slice A99 n99 c99, .slice A103 n103 c103] rfl ⟨rfl, rfl, trivial⟩ ?_
    rw [Nat.pow_zero, Nat.div_one] at hI hR
    exact ⟨_, hI, _, rfl, ⟨_, _, rfl, ⟨_, _, _, rfl, j99, ((o99.ext e101)).mono hw1.size⟩, (by rw [show nv xs - nb 4294967296 ls * nb 4294967296 ls = nb 4294967296 lr by omega]; exact ⟨_, _, _, rfl, j103, (o103).mono hw2.size⟩)⟩, hw3⟩
end Go.Proofs.Ythggegdkpalgbaa

namespace Go.Proofs.Ythggegdkpalgbaa
open Go.RowKit
theorem am_next {i k : Nat} : (if 2 ^ i / 2 = 0 then k else k / (2 * (2 ^ i / 2))) = k / 2 ^ i := by
  cases i with
  | zero => simp
  | succ i =>
    have e : 2 ^ (i + 1) / 2 = 2 ^ i := by rw [Nat.pow_succ]; exact Nat.mul_div_cancel _ (by omega)
    have h := Nat.two_pow_pos i
    rw [e, if_neg (by omega), Nat.pow_succ, Nat.mul_comm 2]
theorem am_half {i : Nat} : 2 ^ i / 2 = 0 ∨ ∃ j, 2 ^ i / 2 = 2 ^ j := by
  cases i with
  | zero => exact Or.inl (by decide)
  | succ i => exact Or.inr ⟨i, by rw [Nat.pow_succ]; exact Nat.mul_div_cancel _ (by omega)⟩
theorem am_exp {S k i : Nat} : S ^ (k / 2 ^ i) = S ^ (k / (2 * 2 ^ i)) * S ^ (k / (2 * 2 ^ i)) * (if k / 2 ^ i % 2 = 1 then S else 1) := by
  have := pow_half (S := S) (n := k) (k := i)
  rw [Nat.pow_succ, Nat.mul_comm (2 ^ i) 2] at this
  exact this
theorem am_over {R k e Y : Nat} (he : 1 ≤ e) (hek : e ≤ k) (h : Y < R ^ e) : ¬ R ^ k ≤ Y := by
  by_cases h0 : R = 0
  · subst h0; rw [Nat.zero_pow (by omega)] at h; omega
  · have := Nat.pow_le_pow_right (n := R) (by omega) hek
    omega
theorem len_db_mul {x y : Nat} : (db 4294967296 (x * y)).length ≤ (db 4294967296 x).length + (db 4294967296 y).length := by
  refine len_db_le b32 ?_
  rw [Nat.pow_add]
  have h1 := lt_pow_len_db b32 x
  have h2 := lt_pow_len_db b32 y
  exact Nat.mul_lt_mul'' h1 h2
theorem db_one : db 4294967296 1 = [1] := by rw [db_pos b32 (by decide)]; rfl
theorem db_small {x : Nat} (h0 : x ≠ 0) (h : x < 4294967296) : db 4294967296 x = [x] := by rw [db_pos b32 h0, Nat.mod_eq_of_lt h, Nat.div_eq_of_lt h, db_zero]
theorem one_rd {w : World} {b x : Nat} {A : Option Addr} (h : Own w b 23 1 A 1 1 [W64 x]) (h0 : x ≠ 0) (hx : x < 4294967296) : Rd w A 1 1 (db 4294967296 x) := by
  rw [db_small h0 hx]
  exact Own.rd (xs := [x]) h (Wf_one (by rw [WB_def]; omega))
/-- (1 + 1/x)^m is at most 2 -/
theorem bern (x : Nat) : ∀ j, j ≤ x → (x + 1) ^ j * (x - j) ≤ x ^ j * x := by
  intro j
  induction j with
  | zero => intro _; simp
  | succ j ih =>
    intro h
    have h1 := Nat.mul_le_mul_right x (ih (by omega))
    obtain ⟨d, rfl⟩ : ∃ d, x = j + 1 + d := ⟨x - (j + 1), by omega⟩
    rw [show j + 1 + d - (j + 1) = d by omega]
    rw [show j + 1 + d - j = d + 1 by omega] at h1
    have h2 : (j + 1 + d + 1) * d ≤ (d + 1) * (j + 1 + d) := by
      have e : (j + 1 + d + 1) * d + (j + 1) = (d + 1) * (j + 1 + d) := by grind
      omega
    have h3 := Nat.mul_le_mul_left ((j + 1 + d + 1) ^ j) h2
    have e1 : (j + 1 + d + 1) ^ (j + 1) * d = (j + 1 + d + 1) ^ j * ((j + 1 + d + 1) * d) := by rw [Nat.pow_succ, Nat.mul_assoc]
    have e2 : (j + 1 + d + 1) ^ j * ((d + 1) * (j + 1 + d)) = (j + 1 + d + 1) ^ j * (d + 1) * (j + 1 + d) := by rw [Nat.mul_assoc]
    have e3 : (j + 1 + d) ^ (j + 1) * (j + 1 + d) = (j + 1 + d) ^ j * (j + 1 + d) * (j + 1 + d) := by rw [Nat.pow_succ]
    rw [e1, e3]; omega
theorem bern2 {x m : Nat} (h : 2 * m ≤ x) : (x + 1) ^ m ≤ 2 * x ^ m := by
  by_cases h0 : x = 0
  · obtain rfl : m = 0 := by omega
    simp
  · have h1 := bern x m (by omega)
    have h2 : (x + 1) ^ m * x ≤ (x + 1) ^ m * (2 * (x - m)) := Nat.mul_le_mul_left _ (by omega)
    have e1 : (x + 1) ^ m * (2 * (x - m)) = 2 * ((x + 1) ^ m * (x - m)) := by rw [Nat.mul_left_comm]
    have h3 : (x + 1) ^ m * x ≤ 2 * x ^ m * x := by rw [Nat.mul_assoc]; omega
    exact Nat.le_of_mul_le_mul_right h3 (by omega)
/-- the quotient of a step of Newton's is not longer than what it is added to -/
theorem nw_quo {X x m : Nat} (h : X < (x + 1) ^ (m + 1)) (hm : 2 * m ≤ x) (hx : 0 < x) : X / x ^ m < 2 * (x + 1) := by
  refine (Nat.div_lt_iff_lt_mul (Nat.pow_pos hx)).2 ?_
  have h1 := Nat.mul_le_mul_right (x + 1) (bern2 hm)
  rw [Nat.pow_succ] at h
  have e : 2 * x ^ m * (x + 1) = 2 * (x + 1) * x ^ m := by grind
  omega
theorem nw_low {X n k high x : Nat} (hX : 2 ^ (n - 1) ≤ X) (hk : 2 ≤ k) (hh : high = n / k) (hhk : k < high) (h : X < (x + 1) ^ k) : 2 * k ≤ x := by
  have h1 : (high - 1) * k ≤ n - 1 := by
    have h2 : high * k ≤ n := by rw [hh]; exact Nat.div_mul_le_self n k
    rw [Nat.sub_mul, Nat.one_mul]
    omega
  have h2 : (2 ^ (high - 1)) ^ k ≤ X := by rw [← Nat.pow_mul]; exact Nat.le_trans (Nat.pow_le_pow_right (by decide) h1) hX
  have h3 : 2 ^ (high - 1) < x + 1 := by
    refine Nat.lt_of_not_le fun h4 => ?_
    have := Nat.pow_le_pow_left h4 k
    omega
  have h4 : 2 ^ k ≤ 2 ^ (high - 1) := Nat.pow_le_pow_right (by decide) (by omega)
  have h5 : ∀ k, 1 ≤ k → 2 * k ≤ 2 ^ k := by
    intro k hk
    induction k with
    | zero => omega
    | succ k ih => by_cases h0 : k = 0
                   · subst h0; decide
                   · have := ih (by omega); rw [Nat.pow_succ]; omega
  have := h5 k (by omega)
  omega
set_option maxHeartbeats 4000000 in
theorem ref3_atMost {w : World} {A D : Option Addr} {n cap m cd R Y k : Nat} (hx : Rd w A n cap (db 4294967296 (R))) (hln : n ≤ 1073741824) (hy : Rd w D m cd (db 4294967296 (Y))) (hlm : m ≤ 1073741824) (hk1 : 1 ≤ k) (hk2 : k ≤ 9223372036854775807) :
    Calls Try.prog 92 #[.slice A n cap, .int .i64 ((k : Nat) : Int), .slice D m cd] w (Gv w (Is (.bool (decide (R ^ k ≤ Y))))) := by
  refine sx_enter Try.func92 rfl (n := 36) rfl (Nat.le_of_ble_eq_true rfl) (args := [.slice A n cap, .int .i64 ((k : Nat) : Int), .slice D m cd]) ?_
  refine cw_keep [(0, .slice A n cap), (1, .int .i64 ((k : Nat) : Int)), (2, .slice D m cd)] ⟨rfl, rfl, rfl, trivial⟩ ?_
  refine cw_seq ?_
  refine cw_region ?_
  refine wl_assign rfl rfl (by decide) ?_
  refine wl_nil ?_
  refine eo_then ?_
  refine cw_seq ?_
  refine cw_region ?_
  refine wl_bslice rfl rfl (by decide) (k := 1) (e := 23) [.int .u64 1] (fun _ => by kernel_rfl) fun g1 v2 nb3 => ?_
  have o4 := O1.mk_ (x := 1) (b := w.heap.size) nb3 (Ext.refl w).size
  have e5 := nb3.ext
  have hw1 : Ext w v2 := (Ext.refl w).trans e5
  refine wl_assign rfl rfl (by decide) ?_
  refine wl_nil ?_
  refine eo_then ?_
  refine cw_seq ?_
  have rd8 := one_rd o4 (by decide) (by decide)
  refine cw_region ?_
  refine wl_assign rfl rfl (by decide) ?_
  refine wl_nil ?_
  refine eo_then ?_
  refine cw_seq ?_
  refine cw_block ?_
  refine cw_loop (T := World × Nat)
    (fun ⟨wr, bit⟩ => [(0, .slice A n cap), (1, .int .i64 ((k : Nat) : Int)), (2, .slice D m cd), (7, .slice (some ⟨g1, 0, none⟩) 1 1), (8, .int .i64 ((bit : Nat) : Int))])
    (fun ⟨wr, bit⟩ => wr)
    (fun ⟨wr, bit⟩ => (Ext w wr) ∧ (∃ i, bit = 2 ^ i) ∧ (bit ≤ k) ∧ (Rd wr A n cap (db 4294967296 (R))) ∧ (Rd wr D m cd (db 4294967296 (Y))) ∧ (Rd wr (some ⟨g1, 0, none⟩) 1 1 (db 4294967296 (1))))
    (fun ⟨wr, bit⟩ => k - bit)
    (⟨v2, 1⟩ : World × Nat) ⟨hw1, ⟨0, rfl⟩, hk1, (hx.ext e5), (hy.ext e5), rd8⟩ rfl ⟨rfl, rfl, rfl, rfl, rfl, trivial⟩ ?_
  rintro ⟨wr, bit⟩ ⟨hw1, hbi, hbk, rl0, rl2, rl7⟩
  refine cw_re [(0, .slice A n cap), (1, .int .i64 ((k : Nat) : Int)), (2, .slice D m cd), (7, .slice (some ⟨g1, 0, none⟩) 1 1), (8, .int .i64 ((bit : Nat) : Int))] wr rfl ⟨rfl, rfl, rfl, rfl, rfl, trivial⟩ ?_
  refine cw_seq ?_
  refine cw_seq ?_
  by_cases hkb : k / 2 ≥ bit
  ·
    refine cw_region ?_
    refine wl_move rfl rfl (by decide) ?_
    refine wl_ar rfl rfl rfl ((k / 2 : Nat) : Int) (ai_quo (a := k) (b := 2) rfl rfl (by omega) (by omega)) (by decide) ?_
    refine wl_move rfl rfl (by decide) ?_
    refine wl_cmp rfl rfl rfl true (cb_ge_t (a := k / 2) (b := bit) rfl rfl (by omega)) (by decide) ?_
    refine wl_nil ?_
    refine eo_then ?_
    refine cw_true rfl ?_
    refine cw_skip ?_
    refine eo_then ?_
    refine cw_block ?_
    refine cw_region ?_
    refine wl_move rfl rfl (by decide) ?_
    refine wl_ar rfl rfl rfl ((2 * bit : Nat) : Int) (ai_mul (a := 2) (b := bit) rfl rfl (by omega)) (by decide) ?_
    refine wl_assign rfl rfl (by decide) ?_
    refine wl_nil ?_
    refine eo_block_normal ?_
    refine eo_round (⟨wr, 2 * bit⟩ : World × Nat) ⟨hw1, (by obtain ⟨i, hi⟩ := hbi; exact ⟨i + 1, by rw [hi, Nat.pow_succ, Nat.mul_comm]⟩), (by omega), rl0, rl2, rl7⟩ (show k - 2 * bit < k - bit by obtain ⟨i, hi⟩ := hbi; have := Nat.two_pow_pos i; omega) rfl ⟨rfl, rfl, rfl, rfl, rfl, trivial⟩
  ·
    refine cw_region ?_
    refine wl_move rfl rfl (by decide) ?_
    refine wl_ar rfl rfl rfl ((k / 2 : Nat) : Int) (ai_quo (a := k) (b := 2) rfl rfl (by omega) (by omega)) (by decide) ?_
    refine wl_move rfl rfl (by decide) ?_
    refine wl_cmp rfl rfl rfl false (cb_ge_f (a := k / 2) (b := bit) rfl rfl (by omega)) (by decide) ?_
    refine wl_nil ?_
    refine eo_then ?_
    refine cw_false rfl ?_
    refine cw_exit ?_
    refine eo_thenX ?_
    refine eo_loopX ?_
    refine eo_block_here ?_
    refine eo_then ?_
    refine cw_seq ?_
    refine cw_block ?_
    refine cw_loop (T := World × Nat × Option Addr × Nat × Nat × Nat)
      (fun ⟨wr2, bt, A7, n7, c7, P⟩ => [(0, .slice A n cap), (1, .int .i64 ((k : Nat) : Int)), (2, .slice D m cd), (7, .slice A7 n7 c7), (8, .int .i64 ((bt : Nat) : Int))])
      (fun ⟨wr2, bt, A7, n7, c7, P⟩ => wr2)
      (fun ⟨wr2, bt, A7, n7, c7, P⟩ => (Ext w wr2) ∧ (bt = 0 ∨ ∃ i, bt = 2 ^ i) ∧ (bt ≤ k) ∧ (P = R ^ (if bt = 0 then k else k / (2 * bt))) ∧ (P ≤ Y ∨ P = 1 ∧ bt ≠ 0) ∧ (Rd wr2 A n cap (db 4294967296 (R))) ∧ (Rd wr2 D m cd (db 4294967296 (Y))) ∧ (Rd wr2 A7 n7 c7 (db 4294967296 (P))))
      (fun ⟨wr2, bt, A7, n7, c7, P⟩ => bt)
      (⟨wr, bit, _, _, _, 1⟩ : World × Nat × Option Addr × Nat × Nat × Nat) ⟨hw1, (Or.inr hbi), hbk, (by obtain ⟨i, hi⟩ := hbi; have := Nat.two_pow_pos i; rw [if_neg (by omega), Nat.div_eq_of_lt (by omega), Nat.pow_zero]), (Or.inr ⟨rfl, by obtain ⟨i, hi⟩ := hbi; have := Nat.two_pow_pos i; omega⟩), rl0, rl2, rl7⟩ rfl ⟨rfl, rfl, rfl, rfl, rfl, trivial⟩ ?_
    rintro ⟨wr2, bt, A7, n7, c7, P⟩ ⟨hw1, hbi2, hbk2, hP, hPY, rl0, rl2, rl7⟩
    refine cw_re [(0, .slice A n cap), (1, .int .i64 ((k : Nat) : Int)), (2, .slice D m cd), (7, .slice A7 n7 c7), (8, .int .i64 ((bt : Nat) : Int))] wr2 rfl ⟨rfl, rfl, rfl, rfl, rfl, trivial⟩ ?_
    refine cw_seq ?_
    refine cw_seq ?_
    by_cases hbt : bt > 0
    ·
      obtain ⟨i, hi⟩ : ∃ i, bt = 2 ^ i := by rcases hbi2 with h | h; (· omega); (· exact h)
      rw [if_neg (by omega)] at hP
      have hlP := rl7.len
      have hlY := hy.len
      have hlX := hx.len
      have hlP2 : n7 ≤ 1073741825 := by rcases hPY with h | h; (· have := len_db_mono b32 h; omega); (· rw [h.1, db_one] at hlP; simp only [List.length_cons, List.length_nil] at hlP; omega)
      have hpe := am_exp (S := R) (k := k) (i := i)
      rw [← hi, ← hP] at hpe
      refine cw_region ?_
      refine wl_move rfl rfl (by decide) ?_
      refine wl_cmp rfl rfl rfl true (cb_gt_t (a := bt) (b := 0) rfl rfl (by omega)) (by decide) ?_
      refine wl_nil ?_
      refine eo_then ?_
      refine cw_true rfl ?_
      refine cw_skip ?_
      refine eo_then ?_
      refine cw_block ?_
      refine cw_seq ?_
      refine cw_region ?_
      refine wl_move rfl rfl (by decide) ?_
      refine wl_move rfl rfl (by decide) ?_
      refine wl_call rfl rfl (vs := [.slice A7 n7 c7, .slice A7 n7 c7]) (by kernel_rfl) (by decide) (ref3_times rl7 (by omega) rl7 (by omega)) ?_
      rintro _ v9 ⟨xr11, rfl, r11, e10⟩
      refine ret_intro ?_
      have hw2 : Ext w v9 := hw1.trans e10
      obtain ⟨A12, n12, c12, rfl, rd12⟩ := r11
      refine wl_assign rfl rfl (by decide) ?_
      refine wl_nil ?_
      refine eo_then ?_
      refine cw_seq ?_
      refine cw_seq ?_
      have hlPP := rd12.len
      have hml := len_db_mul (x := P) (y := P)
      by_cases hod : (k / bt) % 2 = 1
      ·
        rw [if_pos hod] at hpe
        refine cw_region ?_
        refine wl_move rfl rfl (by decide) ?_
        refine wl_move rfl rfl (by decide) ?_
        refine wl_ar rfl rfl rfl ((k / bt : Nat) : Int) (ai_quo (a := k) (b := bt) rfl rfl (by omega) (by omega)) (by decide) ?_
        refine wl_ar rfl rfl rfl (((k / bt) % 2 : Nat) : Int) (au_rem (a := k / bt) (b := 2) rfl rfl (by omega)) (by decide) ?_
        refine wl_cmp rfl rfl rfl true (cb_eq_t (a := (k / bt) % 2) (b := 1) rfl rfl (by omega)) (by decide) ?_
        refine wl_nil ?_
        refine eo_then ?_
        refine cw_true rfl ?_
        refine cw_region ?_
        refine wl_move rfl rfl (by decide) ?_
        refine wl_move rfl rfl (by decide) ?_
        refine wl_call rfl rfl (vs := [.slice A12 n12 c12, .slice A n cap]) (by kernel_rfl) (by decide) (ref3_times rd12 (by omega) (rl0.ext e10) (by omega)) ?_
        rintro _ v13 ⟨xr15, rfl, r15, e14⟩
        refine ret_intro ?_
        have hw3 : Ext w v13 := hw2.trans e14
        obtain ⟨A16, n16, c16, rfl, rd16⟩ := r15
        refine wl_assign rfl rfl (by decide) ?_
        refine wl_nil ?_
        refine eo_then ?_
        refine cw_seq ?_
        have hlPR := rd16.len
        have hml2 := len_db_mul (x := P * P) (y := R)
        have hPn : (P * P) * R = R ^ (k / bt) := hpe.symm
        by_cases hov : Y < (P * P) * R
        ·
          refine cw_region ?_
          refine wl_move rfl rfl (by decide) ?_
          refine wl_move rfl rfl (by decide) ?_
          refine wl_call rfl rfl (vs := [.slice D m cd, .slice A16 n16 c16]) (by kernel_rfl) (by decide) (ref3_below' (b := true) (rl2.ext (e10.trans e14)) (by omega) rd16 (by omega) (by rw [decide_eq_true hov])) ?_
          rintro _ v17 ⟨xr19, rfl, r19, e18⟩
          refine ret_intro ?_
          have hw4 : Ext w v17 := hw3.trans e18
          obtain rfl := r19
          refine wl_assign rfl rfl (by decide) ?_
          refine wl_nil ?_
          refine eo_then ?_
          refine cw_seq ?_
          refine cw_seq ?_
          refine cw_region ?_
          refine wl_move rfl rfl (by decide) ?_
          refine wl_nil ?_
          refine eo_then ?_
          refine cw_true rfl ?_
          refine cw_seq ?_
          refine cw_region ?_
          refine wl_assign rfl rfl (by decide) ?_
          refine wl_nil ?_
          refine eo_then ?_
          refine cw_ret ?_
          refine eo_thenR ?_
          refine eo_block_ret ?_
          refine eo_loopR ?_
          refine eo_block_ret ?_
          refine eo_thenR ?_
          refine eo_ret [.bool false] rfl ⟨rfl, trivial⟩ ?_
          rw [hPn] at hov
          have hR := am_over (Nat.div_pos hbk2 hbt) (Nat.div_le_self k bt) hov
          exact ⟨_, rfl, (by rw [decide_eq_false hR]; rfl), hw4⟩
        ·
          refine cw_region ?_
          refine wl_move rfl rfl (by decide) ?_
          refine wl_move rfl rfl (by decide) ?_
          refine wl_call rfl rfl (vs := [.slice D m cd, .slice A16 n16 c16]) (by kernel_rfl) (by decide) (ref3_below' (b := false) (rl2.ext (e10.trans e14)) (by omega) rd16 (by omega) (by rw [decide_eq_false hov])) ?_
          rintro _ v20 ⟨xr22, rfl, r22, e21⟩
          refine ret_intro ?_
          have hw4 : Ext w v20 := hw3.trans e21
          obtain rfl := r22
          refine wl_assign rfl rfl (by decide) ?_
          refine wl_nil ?_
          refine eo_then ?_
          refine cw_seq ?_
          refine cw_seq ?_
          refine cw_region ?_
          refine wl_move rfl rfl (by decide) ?_
          refine wl_nil ?_
          refine eo_then ?_
          refine cw_false rfl ?_
          refine cw_skip ?_
          refine eo_then ?_
          refine cw_region ?_
          refine wl_move rfl rfl (by decide) ?_
          refine wl_ar rfl rfl rfl ((bt / 2 : Nat) : Int) (ai_quo (a := bt) (b := 2) rfl rfl (by omega) (by omega)) (by decide) ?_
          refine wl_assign rfl rfl (by decide) ?_
          refine wl_nil ?_
          refine eo_block_normal ?_
          refine eo_round (⟨v20, bt / 2, _, _, _, _⟩ : World × Nat × Option Addr × Nat × Nat × Nat) ⟨hw4, (by rw [hi]; exact am_half), (by omega), (by rw [hPn, hi, am_next]), (Or.inl (by omega)), (rl0.ext (e10.trans (e14.trans e21))), (rl2.ext (e10.trans (e14.trans e21))), (rd16.ext e21)⟩ (show bt / 2 < bt by omega) rfl ⟨rfl, rfl, rfl, rfl, rfl, trivial⟩
      ·
        rw [if_neg hod, Nat.mul_one] at hpe
        refine cw_region ?_
        refine wl_move rfl rfl (by decide) ?_
        refine wl_move rfl rfl (by decide) ?_
        refine wl_ar rfl rfl rfl ((k / bt : Nat) : Int) (ai_quo (a := k) (b := bt) rfl rfl (by omega) (by omega)) (by decide) ?_
        refine wl_ar rfl rfl rfl (((k / bt) % 2 : Nat) : Int) (au_rem (a := k / bt) (b := 2) rfl rfl (by omega)) (by decide) ?_
        refine wl_cmp rfl rfl rfl false (cb_eq_f (a := (k / bt) % 2) (b := 1) rfl rfl (by omega)) (by decide) ?_
        refine wl_nil ?_
        refine eo_then ?_
        refine cw_false rfl ?_
        refine cw_skip ?_
        refine eo_then ?_
        refine cw_seq ?_
        have hPn : P * P = R ^ (k / bt) := hpe.symm
        by_cases hov : Y < P * P
        ·
          refine cw_region ?_
          refine wl_move rfl rfl (by decide) ?_
          refine wl_move rfl rfl (by decide) ?_
          refine wl_call rfl rfl (vs := [.slice D m cd, .slice A12 n12 c12]) (by kernel_rfl) (by decide) (ref3_below' (b := true) (rl2.ext e10) (by omega) rd12 (by omega) (by rw [decide_eq_true hov])) ?_
          rintro _ v23 ⟨xr25, rfl, r25, e24⟩
          refine ret_intro ?_
          have hw3 : Ext w v23 := hw2.trans e24
          obtain rfl := r25
          refine wl_assign rfl rfl (by decide) ?_
          refine wl_nil ?_
          refine eo_then ?_
          refine cw_seq ?_
          refine cw_seq ?_
          refine cw_region ?_
          refine wl_move rfl rfl (by decide) ?_
          refine wl_nil ?_
          refine eo_then ?_
          refine cw_true rfl ?_
          refine cw_seq ?_
          refine cw_region ?_
          refine wl_assign rfl rfl (by decide) ?_
          refine wl_nil ?_
          refine eo_then ?_
          refine cw_ret ?_
          refine eo_thenR ?_
          refine eo_block_ret ?_
          refine eo_loopR ?_
          refine eo_block_ret ?_
          refine eo_thenR ?_
          refine eo_ret [.bool false] rfl ⟨rfl, trivial⟩ ?_
          rw [hPn] at hov
          have hR := am_over (Nat.div_pos hbk2 hbt) (Nat.div_le_self k bt) hov
          exact ⟨_, rfl, (by rw [decide_eq_false hR]; rfl), hw3⟩
        ·
          refine cw_region ?_
          refine wl_move rfl rfl (by decide) ?_
          refine wl_move rfl rfl (by decide) ?_
          refine wl_call rfl rfl (vs := [.slice D m cd, .slice A12 n12 c12]) (by kernel_rfl) (by decide) (ref3_below' (b := false) (rl2.ext e10) (by omega) rd12 (by omega) (by rw [decide_eq_false hov])) ?_
          rintro _ v26 ⟨xr28, rfl, r28, e27⟩
          refine ret_intro ?_
          have hw3 : Ext w v26 := hw2.trans e27
          obtain rfl := r28
          refine wl_assign rfl rfl (by decide) ?_
          refine wl_nil ?_
          refine eo_then ?_
          refine cw_seq ?_
          refine cw_seq ?_
          refine cw_region ?_
          refine wl_move rfl rfl (by decide) ?_
          refine wl_nil ?_
          refine eo_then ?_
          refine cw_false rfl ?_
          refine cw_skip ?_
          refine eo_then ?_
          refine cw_region ?_
          refine wl_move rfl rfl (by decide) ?_
          refine wl_ar rfl rfl rfl ((bt / 2 : Nat) : Int) (ai_quo (a := bt) (b := 2) rfl rfl (by omega) (by omega)) (by decide) ?_
          refine wl_assign rfl rfl (by decide) ?_
          refine wl_nil ?_
          refine eo_block_normal ?_
          refine eo_round (⟨v26, bt / 2, _, _, _, _⟩ : World × Nat × Option Addr × Nat × Nat × Nat) ⟨hw3, (by rw [hi]; exact am_half), (by omega), (by rw [hPn, hi, am_next]), (Or.inl (by omega)), (rl0.ext (e10.trans e27)), (rl2.ext (e10.trans e27)), (rd12.ext e27)⟩ (show bt / 2 < bt by omega) rfl ⟨rfl, rfl, rfl, rfl, rfl, trivial⟩
    ·
      refine cw_region ?_
      refine wl_move rfl rfl (by decide) ?_
      refine wl_cmp rfl rfl rfl false (cb_gt_f (a := bt) (b := 0) rfl rfl (by omega)) (by decide) ?_
      refine wl_nil ?_
      refine eo_then ?_
      refine cw_false rfl ?_
      refine cw_exit ?_
      refine eo_thenX ?_
      refine eo_loopX ?_
      refine eo_block_here ?_
      refine eo_then ?_
      refine cw_seq ?_
      refine cw_region ?_
      refine wl_assign rfl rfl (by decide) ?_
      refine wl_nil ?_
      refine eo_then ?_
      refine cw_ret ?_
      refine eo_ret [.bool true] rfl ⟨rfl, trivial⟩ ?_
      have hb0 : bt = 0 := by omega
      rw [if_pos hb0] at hP
      have hR : R ^ k ≤ Y := by rw [← hP]; omega
      exact ⟨_, rfl, (by rw [decide_eq_true hR]; rfl), hw1⟩
end Go.Proofs.Ythggegdkpalgbaa

namespace Go.Proofs.Ythggegdkpalgbaa
open Go.RowKit
theorem UpdO.of {w w' : World} {A : Option Addr} (h : w.grownBy w' none) : UpdO A w w' := ⟨⟨h.os, h.tape, h.output, h.size, fun k hk _ => h.block k hk (by simp)⟩⟩
theorem Upd.updO {w w' : World} {g : Nat} (h : Upd g w w') {o : Nat} {x : _} : UpdO (some ⟨g, o, x⟩) w w' := ⟨h.by_⟩
theorem overl_take {cs us vs : List Value} {k : Nat} (hv : cs.take k = vs) (hk : k ≤ cs.length) : (overl cs k us).take (k + us.length) = vs ++ us := by
  unfold overl
  have e : (cs.take k ++ us).length = k + us.length := by rw [List.length_append, List.length_take, Nat.min_eq_left hk]
  rw [← e, List.take_left', hv]
  rfl
/-- the block of what an append answers: the old one, or a new one -/
def Kept (w : World) (A A' : Option Addr) : Prop := ∀ a', A' = some a' → (∃ a, A = some a ∧ a'.block = a.block) ∨ w.heap.size ≤ a'.block
section
variable {P : Program}
theorem run_app {t ty e : TypeId} {z : Value} {s bytes : Nat} (ht : P.underlying t = some (.slice e)) (hinfo : (P.info? e).map (fun i => (i.zero, i.size, i.bytes)) = some (some z, s, bytes)) (hzs : z.cells.size = s) (hsz : 0 < s) (hby : bytes ≤ 64)
    {w : World} {base : Nat} {A : Option Addr} {n cap : Nat} {xs : List Value} (hown : Own w base e s A n cap xs) (hb : base ≤ w.heap.size) {a : Addr} {m c : Nat} {news : List Value} (hl : news.length = m * s) (hnews : ∀ j u, news[j]? = some u → w.cell? (a.add j) = some u)
    (h1 : news.all (·.oneCell') = true) (hm : n + m ≤ 1099511627776) :
    ∃ A' cap' w', (Builtin.append_ #[t, t] ty #[.slice A n cap, .slice (some a) m c]).run P w = .ok (.slice A' (n + m) cap') w' ∧ Own w' base e s A' (n + m) cap' (xs ++ news) ∧ UpdO A w w' ∧ Kept w A A' := by
  obtain ⟨i, hi, hz, hz1, hz2⟩ := info_parts hinfo
  have h1' : ∀ u ∈ news, u.oneCell' = true := by simpa [List.all_eq_true] using h1
  have h63 : n + m ≤ maxLen := by rw [len_maxLen]; omega
  have hbytes : (n + m) * bytes ≤ 140737488355328 := by
    have : (n + m) * bytes ≤ 1099511627776 * 64 := Nat.mul_le_mul hm hby
    omega
  rcases hown with ⟨rfl, rfl, rfl, rfl⟩ | ⟨g, cs, rfl, hg, hk, hn, hcm, hcl, hv⟩
  · obtain ⟨v', w', hr, h2, h3, _⟩ := run_append_own (P := P) w w.heap.size t ty e i z s bytes ht hi hz hz1 hz2 hzs hsz (.slice none 0 0) 0 [] (World.ownsRow_nil w _ e s) a m c news hl hnews h1' h63 hbytes (Nat.le_refl _)
    obtain ⟨A', cap', rfl, ho⟩ := Own.of_row h2
    exact ⟨A', cap', w', hr, ho.mono hb, UpdO.of h3, fun a' ha => Or.inr (ho.block a' ha).1⟩
  · by_cases hroom : n + m ≤ cap
    · have hfit : n * s + news.length ≤ cs.length := by rw [hl, hcl, ← Nat.add_mul]; exact Nat.mul_le_mul_right s hroom
      obtain ⟨w', hst, hb2, hu, hs⟩ := store_cells (P := P) news 0 (n * s) w cs hk (by omega) h1'
      rw [Nat.add_zero] at hb2
      have hfc := run_firstCells_some (P := P) w i.size m a m c news (by rw [hz1]; exact hl) hnews
      rw [hz1] at hfc
      refine ⟨some ⟨g, 0, none⟩, cap, w', ?_, Or.inr ⟨g, _, rfl, hg, hb2, hroom, hcm, ?_, ?_⟩, hu.updO, fun a' ha => Or.inl ⟨_, rfl, by cases ha; rfl⟩⟩
      · simp [Builtin.append_, run_underlying ht, sizeOf, typeInfo, hi, Builtin.lenOf, hroom, hfc, Addr.add_lit, hz1, hst]
      · unfold overl
        simp only [List.length_append, List.length_take, List.length_drop]
        omega
      · rw [Nat.add_mul, ← hl]
        exact overl_take hv (by omega)
    · have hx := hv
      obtain ⟨v', w', hr, h2, h3⟩ := run_append_arg_grows (P := P) w t ty e i z s bytes ht hi hz hz1 hz2 hzs hsz ⟨g, 0, none⟩ n cap xs
        (by rw [← hv, List.length_take]; have := Nat.mul_le_mul_right s hn; omega)
        (fun j u hj => by
          have hjl := (List.getElem?_eq_some_iff.1 hj).1
          rw [add_lit0, Nat.zero_add, hk.cell (by rw [← hv, List.length_take] at hjl; omega)]
          rw [← hv, List.getElem?_take] at hj
          split at hj
          · rw [List.getD_eq_getElem?_getD, hj]; rfl
          · cases hj) a m c news hl hnews (by omega) h63 hbytes
      obtain ⟨A', cap', rfl, ho⟩ := Own.of_row h2
      exact ⟨A', cap', w', hr, ho.mono hb, UpdO.of h3, fun a' ha => Or.inr (ho.block a' ha).1⟩
variable {Q : Exit → Act → World → Prop} {n : Nat} {l : Fr} {w : World} {ops : Array Oper} {rest : List Oper} {d : Nat} {ty : TypeId} {pos : String} {af : Array Edge} {gd : Option (Nat × Bool)}
/-- append(x, y...) onto a slice of its own -/
theorem wl_app {x y : Operand} {t e : TypeId} {z : Value} {s bytes k m c cap base : Nat} {A : Option Addr} {a : Addr} {xs : List Value} (hw : guardB ops l gd = some true) (hx : evo l x = some (.slice A k cap)) (hy : evo l y = some (.slice (some a) m c))
    (ht : P.underlying t = some (.slice e)) (hinfo : (P.info? e).map (fun i => (i.zero, i.size, i.bytes)) = some (some z, s, bytes)) (hzs : z.cells.size = s) (hsz : 0 < s) (hby : bytes ≤ 64)
    (hown : Own w base e s A k cap xs) (hb : base ≤ w.heap.size) (news : List Value) (hl : news.length = m * s) (hnews : ∀ j u, news[j]? = some u → w.cell? (a.add j) = some u)
    (h1 : news.all (·.oneCell') = true) (hm : k + m ≤ 1099511627776) (hn : d < n)
    (h : ∀ A' cap' w', Own w' base e s A' (k + m) cap' (xs ++ news) → UpdO A w w' → Kept w A A' → wl P ops Q n rest ((d, .slice A' (k + m) cap') :: l) w') :
    wl P ops Q n (⟨some d, .call { callee := .builtin .append, args := #[x, y], argTypes := #[t, t] }, ty, pos, af, gd⟩ :: rest) l w := by
  obtain ⟨A', cap', w', hr, h2, h3, h4⟩ := run_app (P := P) (ty := ty) ht hinfo hzs hsz hby hown hb hl hnews h1 hm
  refine wl_val hw hn (fun a' ha => ?_) (h A' cap' w' h2 h3 h4)
  unfold execOp
  simp only [resolve, invoke, builtin, Sem.run_bind, Sem.run_pure, Result.andThen_ok, List.map_toArray, List.map_cons, List.map_nil, ha.ev hx, ha.ev hy]
  rw [hr]
  rfl
end
theorem Own.updOT {w w' : World} {b b' : Nat} {t T : TypeId} {s s' : Nat} {A B : Option Addr} {n cap m c : Nat} {vs us : List Value} (h : Own w b t s A n cap vs) (ho : Own w b' T s' B m c us) (hT : t ≠ T) (x : UpdO B w w') : Own w' b t s A n cap vs := by
  refine h.updO x (fun p q hp hq hg => ?_)
  rcases ho with ⟨h1, _⟩ | ⟨k, cs, hB, _, hk, _⟩
  · rw [h1] at hp; cases hp
  · rcases h with ⟨h2, _⟩ | ⟨k', cs', hA, _, hk', _⟩
    · rw [h2] at hq; cases hq
    · rw [hB] at hp; rw [hA] at hq
      cases hp; cases hq
      simp only at hg
      subst hg
      unfold Bk at hk hk'
      rw [hk] at hk'
      injection hk' with hk'
      injection hk' with e1 e2
      exact hT e2.symm
theorem un_wl : Try.prog.underlying 70 = some (.slice 22) := by kernel_rfl
theorem sz_wl (w : World) : (sizeOf 22).run Try.prog w = .ok 1 w := by kernel_rfl
theorem ag_wl (w : World) : (isAgg 22).run Try.prog w = .ok false w := by kernel_rfl
end Go.Proofs.Ythggegdkpalgbaa

namespace Go.Proofs.Ythggegdkpalgbaa
open Go.RowKit
section
variable {P : Program} {Q : Exit → Act → World → Prop} {n : Nat} {l : Fr} {w : World} {ops : Array Oper} {rest : List Oper} {d : Nat} {ty : TypeId} {pos : String} {af : Array Edge} {gd : Option (Nat × Bool)}
/-- append of one word onto a list that has no room left: a new block -/
theorem wl_appF {x y : Operand} {t e : TypeId} {z : Value} {bytes N g base v : Nat} {B : Option Addr} {xs : List Nat} (hw : guardB ops l gd = some true) (hx : evo l x = some (.slice (some ⟨g, 0, none⟩) N N)) (hy : evo l y = some (.slice B 1 1))
    (ht : P.underlying t = some (.slice e)) (hinfo : (P.info? e).map (fun i => (i.zero, i.size, i.bytes)) = some (some z, 1, bytes)) (hzs : z.cells.size = 1) (hby : bytes ≤ 64)
    (hb : Bk w g e (xs.map W64)) (hlen : xs.length = N) (hown : Own w base e 1 B 1 1 [W64 v]) (hm : N + 1 ≤ 1099511627776) (hn : d < n)
    (h : ∀ A' cap' w', Own w' w.heap.size e 1 A' (N + 1) cap' ((xs ++ [v]).map W64) → Ext w w' → wl P ops Q n rest ((d, .slice A' (N + 1) cap') :: l) w') :
    wl P ops Q n (⟨some d, .call { callee := .builtin .append, args := #[x, y], argTypes := #[t, t] }, ty, pos, af, gd⟩ :: rest) l w := by
  obtain ⟨i, hi, hz, hz1, hz2⟩ := info_parts hinfo
  have h63 : N + 1 ≤ maxLen := by rw [len_maxLen]; omega
  have hbytes : (N + 1) * bytes ≤ 140737488355328 := by
    have : (N + 1) * bytes ≤ 1099511627776 * 64 := Nat.mul_le_mul hm hby
    omega
  obtain ⟨a, rfl, hc⟩ := hown.rv.get 0 (by decide)
  have hnews : ∀ j u, [W64 v][j]? = some u → w.cell? (a.add j) = some u := by
    intro j u hj
    have hjl := (List.getElem?_eq_some_iff.1 hj).1
    obtain rfl : j = 0 := by simp only [List.length_cons, List.length_nil] at hjl; omega
    rw [hc]
    simpa using hj
  obtain ⟨v', w', hr, h2, h3⟩ := run_append_arg_grows (P := P) w t ty e i z 1 bytes ht hi hz hz1 hz2 hzs (by decide) ⟨g, 0, none⟩ N N (xs.map W64)
    (by rw [List.length_map, hlen, Nat.mul_one])
    (fun j u hj => by
      have hjl := (List.getElem?_eq_some_iff.1 hj).1
      rw [add_lit0, Nat.zero_add, hb.cell hjl, List.getD_eq_getElem?_getD, hj]; rfl) a 1 1 [W64 v] (by simp) hnews (by omega) h63 hbytes
  obtain ⟨A', cap', rfl, ho⟩ := Own.of_row h2
  refine wl_val hw hn (fun a' ha => ?_) (h A' cap' w' (by rw [List.map_append]; exact ho) (Ext.of_grown h3))
  unfold execOp
  simp only [resolve, invoke, builtin, Sem.run_bind, Sem.run_pure, Result.andThen_ok, List.map_toArray, List.map_cons, List.map_nil, ha.ev hx, ha.ev hy]
  rw [hr]
  rfl
end
theorem u64_shl1 {s : Nat} (hs : s ≤ 63) (P : Program) (t : TypeId) (w : World) : (binOp .shl t (.int .u64 1) (.int .u64 (s : Int))).run P w = .ok (.int .u64 ((2 ^ s : Nat) : Int)) w := by
  have h := u64_shl (x := 1) (s := s) (by omega) P t w
  rw [Nat.one_mul, Nat.mod_eq_of_lt (Nat.lt_of_le_of_lt (Nat.pow_le_pow_right (by decide) hs) (by decide))] at h
  exact h
theorem nw_step {b c x y d d' j : Nat} {l l' Q : List Nat} (h : nb b (l'.take j) + b ^ j * c = nb b (l.take j) + nb b (Q.take j)) (hi : j < l'.length) (hi2 : j < l.length) (hx : l.getD j 0 = x) (hy : nb b (Q.take (j + 1)) = nb b (Q.take j) + b ^ j * y) (hd : d + b * d' = x + c + y) :
    nb b ((l'.set j d).take (j + 1)) + b ^ (j + 1) * d' = nb b (l.take (j + 1)) + nb b (Q.take (j + 1)) := by
  rw [nb_set_snoc b hi, nb_take_snoc b l j hi2, hx, hy, Nat.pow_succ, Nat.mul_assoc, Nat.add_assoc, ← Nat.mul_add, hd, Nat.mul_add, Nat.mul_add]
  omega
theorem nw_start {h : Nat} : nb 4294967296 ((List.replicate (h / 32 + 2) 0).set ((h + 1) / 32) (2 ^ ((h + 1) % 32))) = 2 ^ (h + 1) := by
  have h1 := nb_set 4294967296 (l := List.replicate (h / 32 + 2) 0) (k := (h + 1) / 32) (by rw [List.length_replicate]; omega) (2 ^ ((h + 1) % 32))
  rw [getD_zeros, nb_zeros, Nat.mul_zero, Nat.add_zero, Nat.zero_add] at h1
  rw [h1, show (4294967296 : Nat) = 2 ^ 32 from rfl, ← Nat.pow_mul, ← Nat.pow_add, Nat.div_add_mod]
theorem nw_above0 {X k high : Nat} (hk : 1 ≤ k) (hh : high = blen X / k) : X < (2 ^ (high + 1) + 1) ^ k := by
  have h1 := lt_blen X
  have h2 : blen X < (high + 1) * k := by
    have := Nat.lt_mul_div_succ (blen X) (show 0 < k by omega)
    rw [hh, Nat.mul_comm]; exact this
  have h3 : 2 ^ blen X ≤ (2 ^ (high + 1)) ^ k := by rw [← Nat.pow_mul]; exact Nat.pow_le_pow_right (by decide) (by omega)
  have h4 : (2 ^ (high + 1)) ^ k ≤ (2 ^ (high + 1) + 1) ^ k := Nat.pow_le_pow_left (by omega) k
  omega
theorem nw_xlen {x high : Nat} (h : x ≤ 2 ^ (high + 1)) : (db 4294967296 x).length ≤ high / 32 + 2 := by
  refine len_db_le b32 (Nat.lt_of_le_of_lt h ?_)
  rw [show (4294967296 : Nat) = 2 ^ 32 from rfl, ← Nat.pow_mul]
  exact Nat.pow_lt_pow_right (by decide) (by omega)
theorem nw_plen {x high k i N : Nat} (h : x ≤ 2 ^ (high + 1)) (hi : i ≤ k) (h1 : high * k ≤ N) (h2 : k ≤ N) : (db 4294967296 (x ^ i)).length ≤ N / 16 + 1 := by
  refine len_db_le b32 ?_
  have h3 : x ^ i ≤ 2 ^ ((high + 1) * k) := Nat.le_trans (Nat.pow_le_pow_left h i) (by rw [← Nat.pow_mul]; exact Nat.pow_le_pow_right (by decide) (Nat.mul_le_mul_left _ hi))
  refine Nat.lt_of_le_of_lt h3 ?_
  rw [show (4294967296 : Nat) = 2 ^ 32 from rfl, ← Nat.pow_mul]
  refine Nat.pow_lt_pow_right (by decide) ?_
  rw [Nat.add_mul, Nat.one_mul]
  omega
theorem nw_qlen {X x m n : Nat} (hl : (db 4294967296 x).length = n) (h : X < (x + 1) ^ (m + 1)) (hm : 2 * m ≤ x) (hx : 0 < x) : (db 4294967296 (X / x ^ m)).length ≤ n + 1 := by
  refine len_db_le b32 ?_
  have h1 := nw_quo h hm hx
  have h2 := lt_pow_len_db b32 x
  rw [hl] at h2
  rw [Nat.pow_succ]
  omega
theorem nb_snoc3 (b : Nat) (l : List Nat) (c : Nat) : nb b (l ++ [c]) = nb b l + b ^ l.length * c := by
  have h := nb_take_snoc b (l ++ [c]) l.length (by simp)
  rw [List.take_of_length_le (by simp), List.take_left'] at h
  · rw [h]
    simp [List.getD_eq_getElem?_getD]
  · rfl
theorem Wfb_snoc3 {b : Nat} {l : List Nat} {c : Nat} (h : Wfb b l) (hc : c < b) : Wfb b (l ++ [c]) := fun x hx => by
  rcases List.mem_append.1 hx with h1 | h1
  · exact h x h1
  · rw [List.mem_singleton] at h1; omega
set_option maxHeartbeats 8000000 in
theorem ref3_newton {w : World} {A : Option Addr} {n cap X k high : Nat} (hx : Rd w A n cap (db 4294967296 (X))) (hln : n ≤ 1073741824) (hX : X ≠ 0) (hk2 : 2 ≤ k) (hh : high = blen X / k) (hhk : k < high) (hbl : blen X ≤ 34359738368) :
    Calls Try.prog 91 #[.slice A n cap, .int .i64 ((k : Nat) : Int), .int .i64 ((high : Nat) : Int)] w (fun e w' => ∃ r, IsRoot X k r ∧ Gv w (WR w.heap.size r) e w') := by
  have hkh : high * k ≤ blen X := by rw [hh]; exact Nat.div_mul_le_self _ _
  have hhb : high ≤ blen X := by rw [hh]; exact Nat.div_le_self _ _
  have hkk : k * k ≤ high * k := Nat.mul_le_mul_right k (Nat.le_of_lt hhk)
  have hk32 : k ≤ 4294967295 := by refine Nat.le_of_not_lt fun h => ?_; have h2 : 4294967296 * 4294967296 ≤ k * k := Nat.mul_le_mul h h; omega
  have hXb : 2 ^ (blen X - 1) ≤ X := blen_le_self hX
  refine sx_enter Try.func91 rfl (n := 105) rfl (Nat.le_of_ble_eq_true rfl) (args := [.slice A n cap, .int .i64 ((k : Nat) : Int), .int .i64 ((high : Nat) : Int)]) ?_
  refine cw_keep [(0, .slice A n cap), (1, .int .i64 ((k : Nat) : Int)), (2, .int .i64 ((high : Nat) : Int))] ⟨rfl, rfl, rfl, trivial⟩ ?_
  refine cw_seq ?_
  refine cw_region ?_
  refine wl_assign rfl rfl (by decide) ?_
  refine wl_nil ?_
  refine eo_then ?_
  refine cw_seq ?_
  refine cw_region ?_
  refine wl_move rfl rfl (by decide) ?_
  refine wl_ar rfl rfl rfl ((high / 32 : Nat) : Int) (ai_quo (a := high) (b := 32) rfl rfl (by omega) (by omega)) (by decide) ?_
  refine wl_ar rfl rfl rfl (((high / 32) + 2 : Nat) : Int) (ai_add (a := high / 32) (b := 2) rfl rfl (by omega)) (by decide) ?_
  refine wl_make rfl (k := (high / 32) + 2) rfl rfl rfl un_u64 info64 rfl (by decide) (by omega) (by decide) fun g1 v2 hg3 hb4 e5 => ?_
  rw [replicate_W64] at hb4
  have ge6 : w.heap.size ≤ g1 := by rw [← hg3]; exact (Ext.refl w).size
  have ne8 : 0 < cap → ∀ a, A = some a → a.block ≠ g1 := fun hc a ha => by have := (hx).rv.blk a ha hc; omega
  clear hg3
  have hw1 : Ext w v2 := (Ext.refl w).trans e5
  refine wl_assign rfl rfl (by decide) ?_
  refine wl_nil ?_
  refine eo_then ?_
  refine cw_seq ?_
  have hp31 : 2 ^ ((high + 1) % 32) ≤ 2 ^ 31 := Nat.pow_le_pow_right (by decide) (by omega)
  refine cw_region ?_
  refine wl_move rfl rfl (by decide) ?_
  refine wl_move rfl rfl (by decide) ?_
  refine wl_ar rfl rfl rfl ((high + 1 : Nat) : Int) (ai_add (a := high) (b := 1) rfl rfl (by omega)) (by decide) ?_
  refine wl_ar rfl rfl rfl (((high + 1) / 32 : Nat) : Int) (ai_quo (a := high + 1) (b := 32) rfl rfl (by omega) (by omega)) (by decide) ?_
  refine wl_move rfl rfl (by decide) ?_
  refine wl_ar rfl rfl rfl ((high + 1 : Nat) : Int) (ai_add (a := high) (b := 1) rfl rfl (by omega)) (by decide) ?_
  refine wl_ar rfl rfl rfl (((high + 1) % 32 : Nat) : Int) (au_rem (a := high + 1) (b := 32) rfl rfl (by omega)) (by decide) ?_
  refine wl_pureE rfl rfl (v := .int .u64 (IntKind.u64.wrap (((high + 1) % 32 : Nat) : Int))) (v' := .int .u64 (((high + 1) % 32 : Nat) : Int)) (by decide) (by kernel_rfl) (cv_u64 (by first | omega | exact (by omega))) ?_
  refine wl_op rfl rfl rfl (r := .int .u64 ((2 ^ ((high + 1) % 32) : Nat) : Int)) rfl (fun w => u64_shl1 (s := (high + 1) % 32) (by omega) _ _ w) (by decide) ?_
  refine wl_idx rfl rfl rfl un_u64 sz_u64 ((high + 1) / 32) rfl (by omega) ⟨g1, (high + 1) / 32, none⟩ (arr_at _ _) (by decide) ?_
  have hb10 := hb4
  refine wl_stored1 rfl rfl rfl sz_u64 rfl hb10 (len_map (by rw [(List.length_replicate (n := (high / 32) + 2) (a := 0))]; omega)) rfl (((List.replicate ((high / 32) + 2) 0).set ((high + 1) / 32) (2 ^ ((high + 1) % 32))).map W64) (map_W64_set _ _ _) fun v9 hb11 u12 hs13 => ?_
  have hw2 : Ext w v9 := u12.ext hw1 ge6
  refine wl_nil ?_
  refine eo_then ?_
  refine cw_seq ?_
  have hwf0 : Wfb 4294967296 ((List.replicate ((high / 32) + 2) 0).set ((high + 1) / 32) (2 ^ ((high + 1) % 32))) := Wfb_set (Wfb_zeros (by decide) _) _ (by omega)
  refine cw_region ?_
  refine wl_move rfl rfl (by decide) ?_
  refine wl_call rfl rfl (vs := [.slice (some ⟨g1, 0, none⟩) ((high / 32) + 2) ((high / 32) + 2)]) (by kernel_rfl) (by decide) (ref3_Trim (hb11.rd0 hwf0.wf (len_set (l := List.replicate ((high / 32) + 2) 0) ((List.length_replicate (n := (high / 32) + 2) (a := 0)))) (by omega)) (by omega)) ?_
  rintro _ v14 ⟨xr16, rfl, r16, e15⟩
  refine ret_intro ?_
  have hw3 : Ext w v14 := hw2.trans e15
  obtain ⟨k17, rfl, hk17, ht17, hv17⟩ := r16
  refine wl_assign rfl rfl (by decide) ?_
  refine wl_nil ?_
  refine eo_then ?_
  refine cw_block ?_
  have hrt := (((hb11.ext e15).rd0 hwf0.wf (len_set (l := List.replicate ((high / 32) + 2) 0) ((List.length_replicate (n := (high / 32) + 2) (a := 0)))) (by omega)).trim hwf0 hk17 ht17 hv17)
  rw [nw_start] at hrt
  refine cw_loop (T := World × Option Addr × Nat × Nat × Nat)
    (fun ⟨wr, A7, n7, c7, x⟩ => [(0, .slice A n cap), (1, .int .i64 ((k : Nat) : Int)), (7, .slice A7 n7 c7)])
    (fun ⟨wr, A7, n7, c7, x⟩ => wr)
    (fun ⟨wr, A7, n7, c7, x⟩ => (Ext w wr) ∧ (X < (x + 1) ^ k) ∧ (x ≤ 2 ^ (high + 1)) ∧ (Rd wr A n cap (db 4294967296 (X))) ∧ (Rd wr A7 n7 c7 (db 4294967296 (x))))
    (fun ⟨wr, A7, n7, c7, x⟩ => x)
    (⟨v14, _, _, _, 2 ^ (high + 1)⟩ : World × Option Addr × Nat × Nat × Nat) ⟨hw3, (nw_above0 (by omega) hh), (Nat.le_refl _), ((Rd.updL (hx.ext e5) u12 ne8).ext e15), hrt⟩ rfl ⟨rfl, rfl, rfl, trivial⟩ ?_
  rintro ⟨wr, A7, n7, c7, x⟩ ⟨hw1, hax, hx2, rl0, rl7⟩
  refine cw_re [(0, .slice A n cap), (1, .int .i64 ((k : Nat) : Int)), (7, .slice A7 n7 c7)] wr rfl ⟨rfl, rfl, rfl, trivial⟩ ?_
  refine cw_block ?_
  refine cw_seq ?_
  refine cw_region ?_
  refine wl_bslice rfl rfl (by decide) (k := 1) (e := 23) [.int .u64 1] (fun _ => by kernel_rfl) fun g18 v19 nb20 => ?_
  have o21 := O1.mk_ (x := 1) (b := w.heap.size) nb20 hw1.size
  have e22 := nb20.ext
  have hw2 : Ext w v19 := hw1.trans e22
  refine wl_assign rfl rfl (by decide) ?_
  refine wl_nil ?_
  refine eo_then ?_
  refine cw_seq ?_
  refine cw_seq ?_
  have rd25 := one_rd o21 (by decide) (by decide)
  have hl7 := rl7.len
  have hxl := nw_xlen hx2
  rw [hl7] at hxl
  have hx0 : 0 < x := Nat.pos_of_ne_zero fun e => by rw [e, Nat.zero_add, Nat.one_pow] at hax; omega
  refine cw_region ?_
  refine wl_assign rfl rfl (by decide) ?_
  refine wl_nil ?_
  refine eo_then ?_
  refine cw_block ?_
  refine cw_loop (T := World × Nat × Option Addr × Nat × Nat × Nat)
    (fun ⟨wr2, i, A8, n8, c8, P⟩ => [(0, .slice A n cap), (1, .int .i64 ((k : Nat) : Int)), (7, .slice A7 n7 c7), (8, .slice A8 n8 c8), (9, .int .i64 ((i : Nat) : Int))])
    (fun ⟨wr2, i, A8, n8, c8, P⟩ => wr2)
    (fun ⟨wr2, i, A8, n8, c8, P⟩ => (Ext w wr2) ∧ (1 ≤ i) ∧ (i ≤ k) ∧ (P = x ^ (i - 1)) ∧ (Rd wr2 A n cap (db 4294967296 (X))) ∧ (Rd wr2 A7 n7 c7 (db 4294967296 (x))) ∧ (Rd wr2 A8 n8 c8 (db 4294967296 (P))))
    (fun ⟨wr2, i, A8, n8, c8, P⟩ => k - i)
    (⟨v19, 1, _, _, _, 1⟩ : World × Nat × Option Addr × Nat × Nat × Nat) ⟨hw2, (Nat.le_refl _), (by omega), (by rw [Nat.sub_self, Nat.pow_zero]), (rl0.ext e22), (rl7.ext e22), rd25⟩ rfl ⟨rfl, rfl, rfl, rfl, rfl, trivial⟩ ?_
  rintro ⟨wr2, i, A8, n8, c8, P⟩ ⟨hw1, hi1, hik, hP, rl0, rl7, rl8⟩
  refine cw_re [(0, .slice A n cap), (1, .int .i64 ((k : Nat) : Int)), (7, .slice A7 n7 c7), (8, .slice A8 n8 c8), (9, .int .i64 ((i : Nat) : Int))] wr2 rfl ⟨rfl, rfl, rfl, rfl, rfl, trivial⟩ ?_
  refine cw_seq ?_
  refine cw_seq ?_
  have hl8 := rl8.len
  have hpl := nw_plen (i := i - 1) (N := blen X) hx2 (by omega) hkh (by omega)
  rw [← hP, hl8] at hpl
  by_cases hik2 : i < k
  ·
    refine cw_region ?_
    refine wl_move rfl rfl (by decide) ?_
    refine wl_move rfl rfl (by decide) ?_
    refine wl_cmp rfl rfl rfl true (cb_lt_t (a := i) (b := k) rfl rfl (by omega)) (by decide) ?_
    refine wl_nil ?_
    refine eo_then ?_
    refine cw_true rfl ?_
    refine cw_skip ?_
    refine eo_then ?_
    refine cw_seq ?_
    refine cw_block ?_
    refine cw_region ?_
    refine wl_move rfl rfl (by decide) ?_
    refine wl_move rfl rfl (by decide) ?_
    refine wl_call rfl rfl (vs := [.slice A8 n8 c8, .slice A7 n7 c7]) (by kernel_rfl) (by decide) (ref3_times rl8 (by omega) rl7 (by omega)) ?_
    rintro _ v26 ⟨xr28, rfl, r28, e27⟩
    refine ret_intro ?_
    have hw2 : Ext w v26 := hw1.trans e27
    obtain ⟨A29, n29, c29, rfl, rd29⟩ := r28
    refine wl_assign rfl rfl (by decide) ?_
    refine wl_nil ?_
    refine eo_block_normal ?_
    refine eo_then ?_
    refine cw_region ?_
    refine wl_move rfl rfl (by decide) ?_
    refine wl_ar rfl rfl rfl ((i + 1 : Nat) : Int) (ai_add (a := i) (b := 1) rfl rfl (by omega)) (by decide) ?_
    refine wl_assign rfl rfl (by decide) ?_
    refine wl_nil ?_
    refine eo_round (⟨v26, i + 1, _, _, _, _⟩ : World × Nat × Option Addr × Nat × Nat × Nat) ⟨hw2, (by omega), (by omega), (by rw [hP, ← Nat.pow_succ, Nat.succ_eq_add_one, Nat.sub_add_cancel hi1, Nat.add_sub_cancel]), (rl0.ext e27), (rl7.ext e27), rd29⟩ (show k - (i + 1) < k - i by omega) rfl ⟨rfl, rfl, rfl, rfl, rfl, trivial⟩
  ·
    have hie : i = k := by omega
    rw [hie] at hP
    have hP0 : P ≠ 0 := by rw [hP]; exact Nat.pos_iff_ne_zero.1 (Nat.pow_pos hx0)
    refine cw_region ?_
    refine wl_move rfl rfl (by decide) ?_
    refine wl_move rfl rfl (by decide) ?_
    refine wl_cmp rfl rfl rfl false (cb_lt_f (a := i) (b := k) rfl rfl (by omega)) (by decide) ?_
    refine wl_nil ?_
    refine eo_then ?_
    refine cw_false rfl ?_
    refine cw_exit ?_
    refine eo_thenX ?_
    refine eo_loopX ?_
    refine eo_block_here ?_
    refine eo_then ?_
    refine cw_seq ?_
    refine cw_region ?_
    refine wl_move rfl rfl (by decide) ?_
    refine wl_move rfl rfl (by decide) ?_
    refine wl_call rfl rfl (vs := [.slice A n cap, .slice A8 n8 c8]) (by kernel_rfl) (by decide) (ref3_divide_ rl0 (by omega) rl8 (by omega) hP0) ?_
    rintro _ v30 ⟨xr32, rfl, r32, e31⟩
    refine ret_intro ?_
    have hw2 : Ext w v30 := hw1.trans e31
    obtain ⟨a33_0, a33_1, rfl, r33_0, r33_1⟩ := r32
    obtain ⟨A34, n34, c34, rfl, rd34⟩ := r33_0
    obtain ⟨A35, n35, c35, rfl, rd35⟩ := r33_1
    refine wl_move rfl rfl (by decide) ?_
    refine wl_pure rfl rfl (v := .slice A34 n34 c34) (by decide) (by kernel_rfl) ?_
    refine wl_pure rfl rfl (v := .slice A35 n35 c35) (by decide) (by kernel_rfl) ?_
    refine wl_assign rfl rfl (by decide) ?_
    refine wl_assign rfl rfl (by decide) ?_
    refine wl_nil ?_
    refine eo_then ?_
    refine cw_seq ?_
    have hlq := rd34.len
    have hql : (db 4294967296 (X / P)).length ≤ n7 + 1 := by rw [hP]; exact nw_qlen (m := k - 1) hl7 (by rw [Nat.sub_add_cancel (by omega)]; exact hax) (by have := nw_low hXb hk2 hh hhk hax; omega) hx0
    rw [hlq] at hql
    refine cw_region ?_
    refine wl_move rfl rfl (by decide) ?_
    refine wl_move rfl rfl (by decide) ?_
    refine wl_ar rfl rfl rfl ((k - 1 : Nat) : Int) (ai_sub (a := k) (b := 1) rfl rfl (by omega) (by omega)) (by decide) ?_
    refine wl_pureE rfl rfl (v := .int .u64 (IntKind.u64.wrap ((k - 1 : Nat) : Int))) (v' := .int .u64 ((k - 1 : Nat) : Int)) (by decide) (by kernel_rfl) (cv_u64 (by first | omega | exact (by omega))) ?_
    refine wl_call rfl rfl (vs := [.slice A7 n7 c7, .int .u64 ((k - 1 : Nat) : Int)]) (by kernel_rfl) (by decide) (ref3_scaled (rl7.ext e31) (by omega) (Wfb_db b32 _) (by omega)) ?_
    rintro _ v36 ⟨xr38, rfl, r38, e37⟩
    refine ret_intro ?_
    have hw3 : Ext w v36 := hw2.trans e37
    obtain ⟨g39, l39, rfl, gb39, hb39, hl39, hwf39, hnv39⟩ := r38
    have ge40 : w.heap.size ≤ g39 := Nat.le_trans hw2.size gb39
    have ne41 : 0 < cap → ∀ a, A = some a → a.block ≠ g39 := fun hc a ha => by have := ((rl0.ext e31)).rv.blk a ha hc; omega
    have ne42 : 0 < c7 → ∀ a, A7 = some a → a.block ≠ g39 := fun hc a ha => by have := ((rl7.ext e31)).rv.blk a ha hc; omega
    have ne43 : 0 < c8 → ∀ a, A8 = some a → a.block ≠ g39 := fun hc a ha => by have := ((rl8.ext e31)).rv.blk a ha hc; omega
    have ne44 : 0 < c34 → ∀ a, A34 = some a → a.block ≠ g39 := fun hc a ha => by have := (rd34).rv.blk a ha hc; omega
    have ne45 : 0 < c35 → ∀ a, A35 = some a → a.block ≠ g39 := fun hc a ha => by have := (rd35).rv.blk a ha hc; omega
    refine wl_assign rfl rfl (by decide) ?_
    refine wl_nil ?_
    refine eo_then ?_
    refine cw_seq ?_
    refine cw_region ?_
    refine wl_assign rfl rfl (by decide) ?_
    refine wl_nil ?_
    refine eo_then ?_
    refine cw_seq ?_
    refine cw_seq ?_
    refine cw_region ?_
    refine wl_assign rfl rfl (by decide) ?_
    refine wl_nil ?_
    refine eo_then ?_
    refine cw_block ?_
    refine cw_loop (T := World × Nat × Nat × List Nat)
      (fun ⟨wr3, j, c, l2⟩ => [(0, .slice A n cap), (1, .int .i64 ((k : Nat) : Int)), (7, .slice A7 n7 c7), (10, .slice A34 n34 c34), (12, .slice (some ⟨g39, 0, none⟩) (n7 + 1) (n7 + 1)), (13, .int .u64 ((c : Nat) : Int)), (14, .int .i64 ((j : Nat) : Int))])
      (fun ⟨wr3, j, c, l2⟩ => wr3)
      (fun ⟨wr3, j, c, l2⟩ => (Ext w wr3) ∧ (j ≤ n7 + 1) ∧ (c ≤ 1) ∧ (Bk wr3 g39 23 (l2.map W64)) ∧ (l2.length = n7 + 1) ∧ (Wfb 4294967296 l2) ∧ (∀ q, j ≤ q → l2.getD q 0 = l39.getD q 0) ∧ (nb 4294967296 (l2.take j) + 4294967296 ^ j * c = nb 4294967296 (l39.take j) + nb 4294967296 ((db 4294967296 (X / P)).take j)) ∧ (Rd wr3 A n cap (db 4294967296 (X))) ∧ (Rd wr3 A7 n7 c7 (db 4294967296 (x))) ∧ (Rd wr3 A34 n34 c34 (db 4294967296 (X / P))))
      (fun ⟨wr3, j, c, l2⟩ => n7 + 1 - j)
      (⟨v36, 0, 0, _⟩ : World × Nat × Nat × List Nat) ⟨hw3, (Nat.zero_le _), (by decide), hb39, hl39, hwf39, (fun _ _ => rfl), (by simp [nb]), (rl0.ext (e31.trans e37)), (rl7.ext (e31.trans e37)), (rd34.ext e37)⟩ rfl ⟨rfl, rfl, rfl, rfl, rfl, rfl, rfl, trivial⟩ ?_
    rintro ⟨wr3, j, c, l2⟩ ⟨hw1, hjn, hc, hb2, hl2, hwq, hsm, hv2, rl0, rl7, rl10⟩
    refine cw_re [(0, .slice A n cap), (1, .int .i64 ((k : Nat) : Int)), (7, .slice A7 n7 c7), (10, .slice A34 n34 c34), (12, .slice (some ⟨g39, 0, none⟩) (n7 + 1) (n7 + 1)), (13, .int .u64 ((c : Nat) : Int)), (14, .int .i64 ((j : Nat) : Int))] wr3 rfl ⟨rfl, rfl, rfl, rfl, rfl, rfl, rfl, trivial⟩ ?_
    refine cw_seq ?_
    refine cw_seq ?_
    by_cases hjn2 : j < n7 + 1
    ·
      refine cw_region ?_
      refine wl_move rfl rfl (by decide) ?_
      refine wl_move rfl rfl (by decide) ?_
      refine wl_pure rfl rfl (v := .int .i64 (((n7 + 1) : Nat) : Int)) (by decide) (by kernel_rfl) ?_
      refine wl_cmp rfl rfl rfl true (cb_lt_t (a := j) (b := n7 + 1) rfl rfl (by omega)) (by decide) ?_
      refine wl_nil ?_
      refine eo_then ?_
      refine cw_true rfl ?_
      refine cw_skip ?_
      refine eo_then ?_
      refine cw_seq ?_
      refine cw_block ?_
      refine cw_seq ?_
      have hd := Wfb_getD (b := 4294967296) (by decide) hwq j
      refine cw_region ?_
      refine wl_move rfl rfl (by decide) ?_
      refine wl_move rfl rfl (by decide) ?_
      refine wl_idx rfl rfl rfl un_u64 sz_u64 j rfl (by omega) ⟨g39, j, none⟩ (arr_at _ _) (by decide) ?_
      refine wl_load rfl rfl (load_word ag_u64 hb2 (by rw [hl2]; omega)) (by decide) ?_
      refine wl_move rfl rfl (by decide) ?_
      refine wl_ar rfl rfl rfl (((l2.getD j 0) + c : Nat) : Int) (au_add (a := l2.getD j 0) (b := c) rfl rfl (by omega)) (by decide) ?_
      refine wl_assign rfl rfl (by decide) ?_
      refine wl_nil ?_
      refine eo_then ?_
      refine cw_seq ?_
      refine cw_seq ?_
      by_cases hjq : j < n34
      ·
        have hdq := Wfb_getD (b := 4294967296) (by decide) (Wfb_db b32 (X / P)) j
        refine cw_region ?_
        refine wl_move rfl rfl (by decide) ?_
        refine wl_move rfl rfl (by decide) ?_
        refine wl_pure rfl rfl (v := .int .i64 ((n34 : Nat) : Int)) (by decide) (by kernel_rfl) ?_
        refine wl_cmp rfl rfl rfl true (cb_lt_t (a := j) (b := n34) rfl rfl (by omega)) (by decide) ?_
        refine wl_nil ?_
        refine eo_then ?_
        refine cw_true rfl ?_
        refine cw_region ?_
        refine wl_move rfl rfl (by decide) ?_
        refine wl_move rfl rfl (by decide) ?_
        refine wl_move rfl rfl (by decide) ?_
        obtain ⟨p46, hp46, hc46, hv46⟩ := (rl10).at (i := j) (by omega)
        refine wl_idx rfl rfl rfl un_u64 sz_u64 j rfl (by omega) p46 hp46 (by decide) ?_
        refine wl_load rfl rfl (load_cell1 ag_u64 hc46) (by decide) ?_
        refine wl_ar rfl rfl rfl ((((l2.getD j 0) + c) + ((db 4294967296 (X / P)).getD j 0) : Nat) : Int) (au_add (a := (l2.getD j 0) + c) (b := (db 4294967296 (X / P)).getD j 0) rfl rfl (by omega)) (by decide) ?_
        refine wl_assign rfl rfl (by decide) ?_
        refine wl_nil ?_
        refine eo_then ?_
        refine cw_seq ?_
        refine cw_region ?_
        refine wl_move rfl rfl (by decide) ?_
        refine wl_move rfl rfl (by decide) ?_
        refine wl_move rfl rfl (by decide) ?_
        refine wl_ar rfl rfl rfl (((((l2.getD j 0) + c) + ((db 4294967296 (X / P)).getD j 0)) % 4294967296 : Nat) : Int) (au_rem (a := ((l2.getD j 0) + c) + ((db 4294967296 (X / P)).getD j 0)) (b := 4294967296) rfl rfl (by omega)) (by decide) ?_
        refine wl_idx rfl rfl rfl un_u64 sz_u64 j rfl (by omega) ⟨g39, j, none⟩ (arr_at _ _) (by decide) ?_
        have hb48 := hb2
        refine wl_stored1 rfl rfl rfl sz_u64 rfl hb48 (len_map (by rw [hl2]; omega)) rfl ((l2.set j ((((l2.getD j 0) + c) + ((db 4294967296 (X / P)).getD j 0)) % 4294967296)).map W64) (map_W64_set _ _ _) fun v47 hb49 u50 hs51 => ?_
        have hw2 : Ext w v47 := u50.ext hw1 ge40
        refine wl_nil ?_
        refine eo_then ?_
        refine cw_region ?_
        refine wl_move rfl rfl (by decide) ?_
        refine wl_ar rfl rfl rfl (((((l2.getD j 0) + c) + ((db 4294967296 (X / P)).getD j 0)) / 4294967296 : Nat) : Int) (au_quo (a := ((l2.getD j 0) + c) + ((db 4294967296 (X / P)).getD j 0)) (b := 4294967296) rfl rfl (by omega) (by omega)) (by decide) ?_
        refine wl_assign rfl rfl (by decide) ?_
        refine wl_nil ?_
        refine eo_block_normal ?_
        refine eo_then ?_
        refine cw_region ?_
        refine wl_move rfl rfl (by decide) ?_
        refine wl_ar rfl rfl rfl ((j + 1 : Nat) : Int) (ai_add (a := j) (b := 1) rfl rfl (by omega)) (by decide) ?_
        refine wl_assign rfl rfl (by decide) ?_
        refine wl_nil ?_
        refine eo_round (⟨v47, j + 1, _, _⟩ : World × Nat × Nat × List Nat) ⟨hw2, (by omega), (by omega), hb49, (len_set (l := l2) (hl2)), Wfb_set hwq _ (Nat.mod_lt _ (by decide)), (push_same hsm), (nw_step hv2 (by omega) (by omega) (hsm j (Nat.le_refl _)).symm (nb_take_snoc _ _ _ (by omega)) (Nat.mod_add_div _ _)), (Rd.updL rl0 u50 ne41), (Rd.updL rl7 u50 ne42), (Rd.updL rl10 u50 ne44)⟩ (show n7 + 1 - (j + 1) < n7 + 1 - j by omega) rfl ⟨rfl, rfl, rfl, rfl, rfl, rfl, rfl, trivial⟩
      ·
        refine cw_region ?_
        refine wl_move rfl rfl (by decide) ?_
        refine wl_move rfl rfl (by decide) ?_
        refine wl_pure rfl rfl (v := .int .i64 ((n34 : Nat) : Int)) (by decide) (by kernel_rfl) ?_
        refine wl_cmp rfl rfl rfl false (cb_lt_f (a := j) (b := n34) rfl rfl (by omega)) (by decide) ?_
        refine wl_nil ?_
        refine eo_then ?_
        refine cw_false rfl ?_
        refine cw_skip ?_
        refine eo_then ?_
        refine cw_seq ?_
        refine cw_region ?_
        refine wl_move rfl rfl (by decide) ?_
        refine wl_move rfl rfl (by decide) ?_
        refine wl_move rfl rfl (by decide) ?_
        refine wl_ar rfl rfl rfl ((((l2.getD j 0) + c) % 4294967296 : Nat) : Int) (au_rem (a := (l2.getD j 0) + c) (b := 4294967296) rfl rfl (by omega)) (by decide) ?_
        refine wl_idx rfl rfl rfl un_u64 sz_u64 j rfl (by omega) ⟨g39, j, none⟩ (arr_at _ _) (by decide) ?_
        have hb53 := hb2
        refine wl_stored1 rfl rfl rfl sz_u64 rfl hb53 (len_map (by rw [hl2]; omega)) rfl ((l2.set j (((l2.getD j 0) + c) % 4294967296)).map W64) (map_W64_set _ _ _) fun v52 hb54 u55 hs56 => ?_
        have hw2 : Ext w v52 := u55.ext hw1 ge40
        refine wl_nil ?_
        refine eo_then ?_
        refine cw_region ?_
        refine wl_move rfl rfl (by decide) ?_
        refine wl_ar rfl rfl rfl ((((l2.getD j 0) + c) / 4294967296 : Nat) : Int) (au_quo (a := (l2.getD j 0) + c) (b := 4294967296) rfl rfl (by omega) (by omega)) (by decide) ?_
        refine wl_assign rfl rfl (by decide) ?_
        refine wl_nil ?_
        refine eo_block_normal ?_
        refine eo_then ?_
        refine cw_region ?_
        refine wl_move rfl rfl (by decide) ?_
        refine wl_ar rfl rfl rfl ((j + 1 : Nat) : Int) (ai_add (a := j) (b := 1) rfl rfl (by omega)) (by decide) ?_
        refine wl_assign rfl rfl (by decide) ?_
        refine wl_nil ?_
        refine eo_round (⟨v52, j + 1, _, _⟩ : World × Nat × Nat × List Nat) ⟨hw2, (by omega), (by omega), hb54, (len_set (l := l2) (hl2)), Wfb_set hwq _ (Nat.mod_lt _ (by decide)), (push_same hsm), (nw_step hv2 (by omega) (by omega) (hsm j (Nat.le_refl _)).symm (y := 0) (by rw [List.take_of_length_le (by omega), List.take_of_length_le (by omega), Nat.mul_zero, Nat.add_zero]) (Nat.mod_add_div _ _)), (Rd.updL rl0 u55 ne41), (Rd.updL rl7 u55 ne42), (Rd.updL rl10 u55 ne44)⟩ (show n7 + 1 - (j + 1) < n7 + 1 - j by omega) rfl ⟨rfl, rfl, rfl, rfl, rfl, rfl, rfl, trivial⟩
    ·
      have hje : j = n7 + 1 := by omega
      rw [hje] at hv2
      rw [List.take_of_length_le (by omega), List.take_of_length_le (l := l39) (by omega), List.take_of_length_le (l := db 4294967296 (X / P)) (by omega), hnv39, nb_db b32, nb_db b32] at hv2
      refine cw_region ?_
      refine wl_move rfl rfl (by decide) ?_
      refine wl_move rfl rfl (by decide) ?_
      refine wl_pure rfl rfl (v := .int .i64 (((n7 + 1) : Nat) : Int)) (by decide) (by kernel_rfl) ?_
      refine wl_cmp rfl rfl rfl false (cb_lt_f (a := j) (b := n7 + 1) rfl rfl (by omega)) (by decide) ?_
      refine wl_nil ?_
      refine eo_then ?_
      refine cw_false rfl ?_
      refine cw_exit ?_
      refine eo_thenX ?_
      refine eo_loopX ?_
      refine eo_block_here ?_
      refine eo_then ?_
      refine cw_seq ?_
      refine cw_region ?_
      refine wl_move rfl rfl (by decide) ?_
      refine wl_move rfl rfl (by decide) ?_
      refine wl_bslice rfl rfl (by decide) (k := 1) (e := 23) [.int .u64 ((c : Nat) : Int)] (fun _ => by kernel_rfl) fun g57 v58 nb59 => ?_
      have o60 := O1.mk_ (x := c) (b := w.heap.size) nb59 hw1.size
      have e61 := nb59.ext
      have hw2 : Ext w v58 := hw1.trans e61
      refine wl_appF (xs := l2) rfl rfl rfl un_u64 info64 rfl (by decide) (hb2.ext e61) hl2 o60 (by omega) (by decide) fun A64 c65 v66 ho67 e68 => ?_
      have hw3 : Ext w v66 := hw2.trans e68
      have rdho67 := ho67.rd (Wfb_snoc3 hwq (by omega)).wf
      have leho67 := ho67.rv.le
      refine wl_assign rfl rfl (by decide) ?_
      refine wl_nil ?_
      refine eo_then ?_
      refine cw_seq ?_
      have hwS : Wfb 4294967296 (l2 ++ [c]) := Wfb_snoc3 hwq (by omega)
      have hS : nb 4294967296 (l2 ++ [c]) = x * (k - 1) + X / P := by rw [nb_snoc3, hl2]; exact hv2
      refine cw_region ?_
      refine wl_move rfl rfl (by decide) ?_
      refine wl_call rfl rfl (vs := [.slice A64 ((n7 + 1) + 1) c65]) (by kernel_rfl) (by decide) (ref3_Trim rdho67 (by omega)) ?_
      rintro _ v69 ⟨xr71, rfl, r71, e70⟩
      refine ret_intro ?_
      have hw4 : Ext w v69 := hw3.trans e70
      obtain ⟨k72, rfl, hk72, ht72, hv72⟩ := r71
      have rd72 := ((rdho67.ext e70)).take hk72 (by omega) (Nat.le_refl _)
      refine wl_move rfl rfl (by decide) ?_
      refine wl_pureE rfl rfl (v := .int .u64 (IntKind.u64.wrap ((k : Nat) : Int))) (v' := .int .u64 ((k : Nat) : Int)) (by decide) (by kernel_rfl) (cv_u64 (by first | omega | exact (by omega))) ?_
      refine wl_bslice rfl rfl (by decide) (k := 1) (e := 23) [.int .u64 ((k : Nat) : Int)] (fun _ => by kernel_rfl) fun g73 v74 nb75 => ?_
      have o76 := O1.mk_ (x := k) (b := w.heap.size) nb75 hw4.size
      have e77 := nb75.ext
      have hw5 : Ext w v74 := hw4.trans e77
      refine wl_call rfl rfl (vs := [.slice A64 k72 c65, .slice (some ⟨g73, 0, none⟩) 1 1]) (by kernel_rfl) (by decide) (ref3_divide_ (by have h := ((rdho67.ext (e70.trans e77))).trim hwS hk72 ht72 hv72; rw [hS] at h; exact h) (by omega) (one_rd o76 (by omega) (by omega)) (by decide) (by omega)) ?_
      rintro _ v80 ⟨xr82, rfl, r82, e81⟩
      refine ret_intro ?_
      have hw6 : Ext w v80 := hw5.trans e81
      obtain ⟨a83_0, a83_1, rfl, r83_0, r83_1⟩ := r82
      obtain ⟨A84, n84, c84, rfl, rd84⟩ := r83_0
      obtain ⟨A85, n85, c85, rfl, rd85⟩ := r83_1
      refine wl_move rfl rfl (by decide) ?_
      refine wl_pure rfl rfl (v := .slice A84 n84 c84) (by decide) (by kernel_rfl) ?_
      refine wl_pure rfl rfl (v := .slice A85 n85 c85) (by decide) (by kernel_rfl) ?_
      refine wl_assign rfl rfl (by decide) ?_
      refine wl_assign rfl rfl (by decide) ?_
      refine wl_nil ?_
      refine eo_then ?_
      refine cw_seq ?_
      have hm : k - 1 + 1 = k := by omega
      have hly := rd84.len
      have hyl : (db 4294967296 ((x * (k - 1) + X / P) / k)).length ≤ n7 + 2 := by refine len_db_le b32 ?_; have h1 := nb_lt hwS; rw [hS, List.length_append, hl2] at h1; exact Nat.lt_of_le_of_lt (Nat.div_le_self _ _) h1
      by_cases hfl : (x * (k - 1) + X / P) / k < x
      ·
        have hay : X < ((x * (k - 1) + X / P) / k + 1) ^ k := by have h := newton_above (X := X) (s := x) (q := X / P) (m := k - 1) (by rw [← hP]; have := Nat.lt_mul_div_succ X (Nat.pos_of_ne_zero hP0); rwa [Nat.mul_comm] at this); rwa [hm] at h
        refine cw_region ?_
        refine wl_move rfl rfl (by decide) ?_
        refine wl_move rfl rfl (by decide) ?_
        refine wl_call rfl rfl (vs := [.slice A84 n84 c84, .slice A7 n7 c7]) (by kernel_rfl) (by decide) (ref3_below' (b := true) rd84 (by omega) (rl7.ext (e61.trans (e68.trans (e70.trans (e77.trans e81))))) (by omega) (by rw [decide_eq_true hfl])) ?_
        rintro _ v86 ⟨xr88, rfl, r88, e87⟩
        refine ret_intro ?_
        have hw7 : Ext w v86 := hw6.trans e87
        obtain rfl := r88
        refine wl_assign rfl rfl (by decide) ?_
        refine wl_nil ?_
        refine eo_then ?_
        refine cw_seq ?_
        refine cw_seq ?_
        refine cw_region ?_
        refine wl_move rfl rfl (by decide) ?_
        refine wl_pure rfl rfl (v := .bool false) (by decide) (by kernel_rfl) ?_
        refine wl_nil ?_
        refine eo_then ?_
        refine cw_false rfl ?_
        refine cw_skip ?_
        refine eo_then ?_
        refine cw_region ?_
        refine wl_move rfl rfl (by decide) ?_
        refine wl_assign rfl rfl (by decide) ?_
        refine wl_nil ?_
        refine eo_block_normal ?_
        refine eo_round (⟨v86, _, _, _, _⟩ : World × Option Addr × Nat × Nat × Nat) ⟨hw7, hay, (by omega), (rl0.ext (e61.trans (e68.trans (e70.trans (e77.trans (e81.trans e87)))))), (rd84.ext e87)⟩ hfl rfl ⟨rfl, rfl, rfl, trivial⟩
      ·
        have hst : x ^ k ≤ X := by have h := newton_stop (X := X) (s := x) (q := X / P) (m := k - 1) hx0 (by rw [hP]) (by rw [hm]; omega); rwa [hm] at h
        refine cw_region ?_
        refine wl_move rfl rfl (by decide) ?_
        refine wl_move rfl rfl (by decide) ?_
        refine wl_call rfl rfl (vs := [.slice A84 n84 c84, .slice A7 n7 c7]) (by kernel_rfl) (by decide) (ref3_below' (b := false) rd84 (by omega) (rl7.ext (e61.trans (e68.trans (e70.trans (e77.trans e81))))) (by omega) (by rw [decide_eq_false hfl])) ?_
        rintro _ v89 ⟨xr91, rfl, r91, e90⟩
        refine ret_intro ?_
        have hw7 : Ext w v89 := hw6.trans e90
        obtain rfl := r91
        refine wl_assign rfl rfl (by decide) ?_
        refine wl_nil ?_
        refine eo_then ?_
        refine cw_seq ?_
        refine cw_seq ?_
        refine cw_region ?_
        refine wl_move rfl rfl (by decide) ?_
        refine wl_pure rfl rfl (v := .bool true) (by decide) (by kernel_rfl) ?_
        refine wl_nil ?_
        refine eo_then ?_
        refine cw_true rfl ?_
        refine cw_seq ?_
        refine cw_region ?_
        refine wl_move rfl rfl (by decide) ?_
        refine wl_call rfl rfl (vs := [.slice A7 n7 c7]) (by kernel_rfl) (by decide) (ref3_words_ hw7.size (rl7.ext (e61.trans (e68.trans (e70.trans (e77.trans (e81.trans e90)))))) (by omega)) ?_
        rintro _ v92 ⟨xr94, rfl, r94, e93⟩
        refine ret_intro ?_
        have hw8 : Ext w v92 := hw7.trans e93
        obtain ⟨A95, n95, c95, rfl, j95, o95⟩ := r94
        refine wl_assign rfl rfl (by decide) ?_
        refine wl_nil ?_
        refine eo_then ?_
        refine cw_ret ?_
        refine eo_thenR ?_
        refine eo_block_ret ?_
        refine eo_loopR ?_
        refine eo_block_ret ?_
        refine eo_ret [.slice A95 n95 c95] rfl ⟨rfl, trivial⟩ ?_
        exact ⟨x, ⟨hst, hax⟩, _, rfl, ⟨_, _, _, rfl, j95, o95⟩, hw8⟩
end Go.Proofs.Ythggegdkpalgbaa

namespace Go.Proofs.Ythggegdkpalgbaa
open Go.RowKit
theorem ref3_bits {w : World} {A : Option Addr} {n cap X : Nat} (hx : Rd w A n cap (db 4294967296 X)) (hln : n ≤ 274877906944) (hbb : blen X ≤ 35184372088864) : Calls Try.prog 90 #[.slice A n cap] w (Gv w (Is (.int .i64 ((blen X : Nat) : Int)))) := by
  have h := ref3_bitsOf hx hln (Wfb_db b32 _) (by rw [nb_db b32]; exact hbb)
  rwa [nb_db b32] at h
theorem ref3_atMost' {w : World} {A D : Option Addr} {n cap m cd R Y k : Nat} {b : Bool} (hx : Rd w A n cap (db 4294967296 R)) (hln : n ≤ 1073741824) (hy : Rd w D m cd (db 4294967296 Y)) (hlm : m ≤ 1073741824) (hk1 : 1 ≤ k) (hk2 : k ≤ 9223372036854775807) (hb : decide (R ^ k ≤ Y) = b) :
    Calls Try.prog 92 #[.slice A n cap, .int .i64 ((k : Nat) : Int), .slice D m cd] w (Gv w (Is (.bool b))) := hb ▸ ref3_atMost hx hln hy hlm hk1 hk2
theorem nb_getD3 {b : Nat} (hb : 2 ≤ b) : ∀ {l : List Nat}, Wfb b l → ∀ j, l.getD j 0 = nb b l / b ^ j % b := by
  intro l
  induction l with
  | nil => intro _ j; rw [nb_nil, Nat.zero_div, Nat.zero_mod]; rfl
  | cons x r ih =>
    intro h j
    have hx : x < b := h x (by simp)
    rw [nb_cons]
    cases j with
    | zero => rw [Nat.pow_zero, Nat.div_one, Nat.add_mul_mod_self_left, Nat.mod_eq_of_lt hx]; rfl
    | succ j =>
      rw [Nat.pow_succ, Nat.mul_comm (b ^ j), ← Nat.div_div_eq_div_mul, Nat.add_mul_div_left _ _ (by omega), Nat.div_eq_of_lt hx, Nat.zero_add]
      exact ih (fun y hy => h y (by simp [hy])) j
/-- a bit that is not yet set -/
theorem bit_free {l : List Nat} {j : Nat} (hw : Wfb 4294967296 l) (h : nb 4294967296 l % 2 ^ (j + 1) = 0) : l.getD (j / 32) 0 + 2 ^ (j % 32) < 4294967296 := by
  rw [nb_getD3 b32 hw]
  obtain ⟨c, hc⟩ := Nat.dvd_of_mod_eq_zero h
  have e1 : (4294967296 : Nat) ^ (j / 32) = 2 ^ (32 * (j / 32)) := by rw [Nat.pow_mul]
  have e2 : (2 : Nat) ^ (j + 1) = 2 ^ (32 * (j / 32)) * 2 ^ (j % 32 + 1) := by rw [← Nat.pow_add]; congr 1; omega
  rw [hc, e1, e2, Nat.mul_assoc, Nat.mul_div_cancel_left _ (Nat.two_pow_pos _)]
  have e3 : (4294967296 : Nat) = 2 ^ (j % 32 + 1) * 2 ^ (31 - j % 32) := by rw [← Nat.pow_add, show j % 32 + 1 + (31 - j % 32) = 32 by omega]
  have h1 : 2 ^ (j % 32 + 1) * c % 4294967296 = 2 ^ (j % 32 + 1) * (c % 2 ^ (31 - j % 32)) := by rw [e3, Nat.mul_mod_mul_left]
  rw [h1]
  have h2 : c % 2 ^ (31 - j % 32) + 1 ≤ 2 ^ (31 - j % 32) := Nat.mod_lt _ (Nat.two_pow_pos _)
  have h3 := Nat.mul_le_mul_left (2 ^ (j % 32 + 1)) h2
  rw [← e3, Nat.mul_add, Nat.mul_one] at h3
  have h4 : 2 ^ (j % 32) < 2 ^ (j % 32 + 1) := Nat.pow_lt_pow_right (by decide) (by omega)
  omega
theorem bit_set {l : List Nat} {j : Nat} (hj : j / 32 < l.length) : nb 4294967296 (l.set (j / 32) (l.getD (j / 32) 0 + 2 ^ (j % 32))) = nb 4294967296 l + 2 ^ j := by
  have h := nb_set 4294967296 hj (l.getD (j / 32) 0 + 2 ^ (j % 32))
  have e : (4294967296 : Nat) ^ (j / 32) * 2 ^ (j % 32) = 2 ^ j := by
    rw [show (4294967296 : Nat) = 2 ^ 32 from rfl, ← Nat.pow_mul, ← Nat.pow_add, Nat.div_add_mod]
  rw [Nat.mul_add, e] at h
  omega
theorem rt_mul {r j : Nat} (h : r % 2 ^ (j + 1) = 0) : r % 2 ^ j = 0 ∧ (r + 2 ^ j) % 2 ^ j = 0 := by
  have h1 : r % 2 ^ j = 0 := by
    obtain ⟨c, rfl⟩ := Nat.dvd_of_mod_eq_zero h
    rw [Nat.pow_succ, Nat.mul_assoc, Nat.mul_mod_right]
  exact ⟨h1, by rw [Nat.add_mod_right]; exact h1⟩
theorem set_back {l : List Nat} {q v : Nat} (hq : q < l.length) : (l.set q (l.getD q 0 + v)).set q ((l.set q (l.getD q 0 + v)).getD q 0 - v) = l := by
  rw [getD_set_eq hq, Nat.add_sub_cancel, List.set_set]
  exact List.ext_getElem (by simp) fun i h1 h2 => by
    rw [List.getElem_set]
    split
    · rename_i h; subst h; rw [List.getD_eq_getElem?_getD, List.getElem?_eq_getElem h2]; rfl
    · rfl
set_option maxHeartbeats 4000000 in
theorem ref3_Root_bad {w : World} {A : Option Addr} {n cap : Nat} {k : Int} (hk : k < 1) :
    Calls Try.prog 62 #[.slice A n cap, .int .i64 k] w (Gv w (Is (.tuple #[.slice none 0 0, .int .i64 3]))) := by
  refine sx_enter Try.func62 rfl (n := 83) rfl (Nat.le_of_ble_eq_true rfl) (args := [.slice A n cap, .int .i64 k]) ?_
  refine cw_keep [(0, .slice A n cap), (1, .int .i64 k)] ⟨rfl, rfl, trivial⟩ ?_
  refine cw_seq ?_
  refine cw_region ?_
  refine wl_assign rfl rfl (by decide) ?_
  refine wl_assign rfl rfl (by decide) ?_
  refine wl_nil ?_
  refine eo_then ?_
  refine cw_seq ?_
  refine cw_seq ?_
  refine cw_region ?_
  refine wl_move rfl rfl (by decide) ?_
  refine wl_cmp rfl rfl rfl true (lt_t hk) (by decide) ?_
  refine wl_nil ?_
  refine eo_then ?_
  refine cw_true rfl ?_
  refine cw_seq ?_
  refine cw_region ?_
  refine wl_assign rfl rfl (by decide) ?_
  refine wl_assign rfl rfl (by decide) ?_
  refine wl_nil ?_
  refine eo_then ?_
  refine cw_ret ?_
  refine eo_thenR ?_
  refine eo_ret [.slice none 0 0, .int .i64 3] rfl ⟨rfl, rfl, trivial⟩ ?_
  exact ⟨_, rfl, rfl, (Ext.refl w)⟩
set_option maxHeartbeats 4000000 in
theorem ref3_Root {w : World} {A : Option Addr} {n cap K : Nat} {xs : List Nat} (hx : Rd w A n cap xs) (hln : n ≤ 268435456) (hK : 1 ≤ K) (hK2 : K ≤ 9223372036854775807) :
    Calls Try.prog 62 #[.slice A n cap, .int .i64 ((K : Nat) : Int)] w (fun e w' => ∃ r, IsRoot (nv xs) K r ∧ Gv w (T2 (WR w.heap.size r) (Is (.int .i64 0))) e w') := by
  have hbx : blen (nv xs) ≤ 17179869184 := by have h := blen_le (n := nv xs) (k := 64 * n) (by rw [Nat.pow_mul, ← WB_pow, ← hx.len]; exact nv_lt hx.wf); omega
  refine sx_enter Try.func62 rfl (n := 83) rfl (Nat.le_of_ble_eq_true rfl) (args := [.slice A n cap, .int .i64 ((K : Nat) : Int)]) ?_
  refine cw_keep [(0, .slice A n cap), (1, .int .i64 ((K : Nat) : Int))] ⟨rfl, rfl, trivial⟩ ?_
  refine cw_seq ?_
  refine cw_region ?_
  refine wl_assign rfl rfl (by decide) ?_
  refine wl_assign rfl rfl (by decide) ?_
  refine wl_nil ?_
  refine eo_then ?_
  refine cw_seq ?_
  refine cw_seq ?_
  refine cw_region ?_
  refine wl_move rfl rfl (by decide) ?_
  refine wl_cmp rfl rfl rfl false (lt_f (by omega)) (by decide) ?_
  refine wl_nil ?_
  refine eo_then ?_
  refine cw_false rfl ?_
  refine cw_skip ?_
  refine eo_then ?_
  refine cw_seq ?_
  refine cw_region ?_
  refine wl_move rfl rfl (by decide) ?_
  refine wl_call rfl rfl (vs := [.slice A n cap]) (by kernel_rfl) (by decide) (ref3_halves hx (by omega)) ?_
  rintro _ v1 ⟨xr3, rfl, r3, e2⟩
  refine ret_intro ?_
  have hw1 : Ext w v1 := (Ext.refl w).trans e2
  obtain ⟨A4, n4, c4, rfl, rd4⟩ := r3
  refine wl_assign rfl rfl (by decide) ?_
  refine wl_nil ?_
  refine eo_then ?_
  refine cw_seq ?_
  have hld := rd4.len
  have hdl := rd4.hl hx (Nat.le_refl _)
  refine cw_region ?_
  refine wl_move rfl rfl (by decide) ?_
  refine wl_call rfl rfl (vs := [.slice A4 n4 c4]) (by kernel_rfl) (by decide) (ref3_bits rd4 (by omega) (by omega)) ?_
  rintro _ v5 ⟨xr7, rfl, r7, e6⟩
  refine ret_intro ?_
  have hw2 : Ext w v5 := hw1.trans e6
  obtain rfl := r7
  refine wl_assign rfl rfl (by decide) ?_
  refine wl_nil ?_
  refine eo_then ?_
  refine cw_seq ?_
  refine cw_seq ?_
  by_cases hz : blen (nv xs) = 0
  ·
    have hX0 : nv xs = 0 := blen_eq_zero.1 hz
    refine cw_region ?_
    refine wl_move rfl rfl (by decide) ?_
    refine wl_cmp rfl rfl rfl true (cb_eq_t (a := blen (nv xs)) (b := 0) rfl rfl (by omega)) (by decide) ?_
    refine wl_nil ?_
    refine eo_then ?_
    refine cw_true rfl ?_
    refine cw_seq ?_
    refine cw_region ?_
    refine wl_assign rfl rfl (by decide) ?_
    refine wl_assign rfl rfl (by decide) ?_
    refine wl_nil ?_
    refine eo_then ?_
    refine cw_ret ?_
    refine eo_thenR ?_
    refine eo_ret [.slice none 0 0, .int .i64 0] rfl ⟨rfl, rfl, trivial⟩ ?_
    exact ⟨0, (by rw [hX0]; exact IsRoot.zero hK), _, rfl, ⟨_, _, rfl, ⟨_, _, _, rfl, rfl, Own.nil _ _ _ _⟩, rfl⟩, hw2⟩
  ·
    have hX0 : nv xs ≠ 0 := fun e => hz (by rw [e, blen_zero])
    refine cw_region ?_
    refine wl_move rfl rfl (by decide) ?_
    refine wl_cmp rfl rfl rfl false (cb_eq_f (a := blen (nv xs)) (b := 0) rfl rfl (by omega)) (by decide) ?_
    refine wl_nil ?_
    refine eo_then ?_
    refine cw_false rfl ?_
    refine cw_skip ?_
    refine eo_then ?_
    refine cw_seq ?_
    refine cw_seq ?_
    by_cases ho : K = 1
    ·
      refine cw_region ?_
      refine wl_move rfl rfl (by decide) ?_
      refine wl_cmp rfl rfl rfl true (cb_eq_t (a := K) (b := 1) rfl rfl (by omega)) (by decide) ?_
      refine wl_nil ?_
      refine eo_then ?_
      refine cw_true rfl ?_
      refine cw_seq ?_
      refine cw_region ?_
      refine wl_move rfl rfl (by decide) ?_
      refine wl_call rfl rfl (vs := [.slice A4 n4 c4]) (by kernel_rfl) (by decide) (ref3_words_ hw2.size (rd4.ext e6) (by omega)) ?_
      rintro _ v8 ⟨xr10, rfl, r10, e9⟩
      refine ret_intro ?_
      have hw3 : Ext w v8 := hw2.trans e9
      obtain ⟨A11, n11, c11, rfl, j11, o11⟩ := r10
      refine wl_assign rfl rfl (by decide) ?_
      refine wl_assign rfl rfl (by decide) ?_
      refine wl_nil ?_
      refine eo_then ?_
      refine cw_ret ?_
      refine eo_thenR ?_
      refine eo_ret [.slice A11 n11 c11, .int .i64 0] rfl ⟨rfl, rfl, trivial⟩ ?_
      exact ⟨(nv xs), (by rw [ho]; exact IsRoot.one), _, rfl, ⟨_, _, rfl, ⟨_, _, _, rfl, j11, o11⟩, rfl⟩, hw3⟩
    ·
      refine cw_region ?_
      refine wl_move rfl rfl (by decide) ?_
      refine wl_cmp rfl rfl rfl false (cb_eq_f (a := K) (b := 1) rfl rfl (by omega)) (by decide) ?_
      refine wl_nil ?_
      refine eo_then ?_
      refine cw_false rfl ?_
      refine cw_skip ?_
      refine eo_then ?_
      refine cw_seq ?_
      refine cw_seq ?_
      by_cases hg : K ≥ blen (nv xs)
      ·
        refine cw_region ?_
        refine wl_move rfl rfl (by decide) ?_
        refine wl_move rfl rfl (by decide) ?_
        refine wl_cmp rfl rfl rfl true (cb_ge_t (a := K) (b := blen (nv xs)) rfl rfl (by omega)) (by decide) ?_
        refine wl_nil ?_
        refine eo_then ?_
        refine cw_true rfl ?_
        refine cw_seq ?_
        refine cw_region ?_
        refine wl_bslice rfl rfl (by decide) (k := 1) (e := 23) [.int .u64 1] (fun _ => by kernel_rfl) fun g12 v13 nb14 => ?_
        have o15 := O1.mk_ (x := 1) (b := w.heap.size) nb14 hw2.size
        have e16 := nb14.ext
        have hw3 : Ext w v13 := hw2.trans e16
        have o18 := own1_wd o15 (show 1 ≤ 18446744073709551615 by decide) (show 1 ≠ 0 by decide)
        have j17 := len1 (show 1 ≤ 18446744073709551615 by decide) (show 1 ≠ 0 by decide)
        refine wl_assign rfl rfl (by decide) ?_
        refine wl_assign rfl rfl (by decide) ?_
        refine wl_nil ?_
        refine eo_then ?_
        refine cw_ret ?_
        refine eo_thenR ?_
        refine eo_ret [.slice (some ⟨g12, 0, none⟩) 1 1, .int .i64 0] rfl ⟨rfl, rfl, trivial⟩ ?_
        exact ⟨1, ⟨by rw [Nat.one_pow]; omega, Nat.lt_of_lt_of_le (lt_blen _) (Nat.pow_le_pow_right (by decide) hg)⟩, _, rfl, ⟨_, _, rfl, ⟨_, _, _, rfl, j17, o18⟩, rfl⟩, hw3⟩
      ·
        refine cw_region ?_
        refine wl_move rfl rfl (by decide) ?_
        refine wl_move rfl rfl (by decide) ?_
        refine wl_cmp rfl rfl rfl false (cb_ge_f (a := K) (b := blen (nv xs)) rfl rfl (by omega)) (by decide) ?_
        refine wl_nil ?_
        refine eo_then ?_
        refine cw_false rfl ?_
        refine cw_skip ?_
        refine eo_then ?_
        refine cw_seq ?_
        refine cw_region ?_
        refine wl_move rfl rfl (by decide) ?_
        refine wl_move rfl rfl (by decide) ?_
        refine wl_ar rfl rfl rfl (((blen (nv xs)) / K : Nat) : Int) (ai_quo (a := blen (nv xs)) (b := K) rfl rfl (by omega) (by omega)) (by decide) ?_
        refine wl_assign rfl rfl (by decide) ?_
        refine wl_nil ?_
        refine eo_then ?_
        refine cw_seq ?_
        refine cw_seq ?_
        have hhb : blen (nv xs) / K ≤ blen (nv xs) := Nat.div_le_self _ _
        by_cases hhk : (blen (nv xs)) / K > K
        ·
          refine cw_region ?_
          refine wl_move rfl rfl (by decide) ?_
          refine wl_move rfl rfl (by decide) ?_
          refine wl_cmp rfl rfl rfl true (cb_gt_t (a := (blen (nv xs)) / K) (b := K) rfl rfl (by omega)) (by decide) ?_
          refine wl_nil ?_
          refine eo_then ?_
          refine cw_true rfl ?_
          refine cw_seq ?_
          refine cw_region ?_
          refine wl_move rfl rfl (by decide) ?_
          refine wl_move rfl rfl (by decide) ?_
          refine wl_move rfl rfl (by decide) ?_
          refine wl_call rfl rfl (vs := [.slice A4 n4 c4, .int .i64 ((K : Nat) : Int), .int .i64 (((blen (nv xs)) / K : Nat) : Int)]) (by kernel_rfl) (by decide) (ref3_newton (rd4.ext e6) (by omega) hX0 (by omega) rfl hhk (by omega)) ?_
          rintro _ v19 ⟨rn22, p23, xr21, rfl, r21, e20⟩
          refine ret_intro ?_
          have hw3 : Ext w v19 := hw2.trans e20
          obtain ⟨A24, n24, c24, rfl, j24, o24⟩ := r21
          refine wl_assign rfl rfl (by decide) ?_
          refine wl_assign rfl rfl (by decide) ?_
          refine wl_nil ?_
          refine eo_then ?_
          refine cw_ret ?_
          refine eo_thenR ?_
          refine eo_ret [.slice A24 n24 c24, .int .i64 0] rfl ⟨rfl, rfl, trivial⟩ ?_
          exact ⟨rn22, p23, _, rfl, ⟨_, _, rfl, ⟨_, _, _, rfl, j24, (o24).mono hw2.size⟩, rfl⟩, hw3⟩
        ·
          refine cw_region ?_
          refine wl_move rfl rfl (by decide) ?_
          refine wl_move rfl rfl (by decide) ?_
          refine wl_cmp rfl rfl rfl false (cb_gt_f (a := (blen (nv xs)) / K) (b := K) rfl rfl (by omega)) (by decide) ?_
          refine wl_nil ?_
          refine eo_then ?_
          refine cw_false rfl ?_
          refine cw_skip ?_
          refine eo_then ?_
          refine cw_seq ?_
          refine cw_region ?_
          refine wl_move rfl rfl (by decide) ?_
          refine wl_ar rfl rfl rfl ((((blen (nv xs)) / K) / 32 : Nat) : Int) (ai_quo (a := (blen (nv xs)) / K) (b := 32) rfl rfl (by omega) (by omega)) (by decide) ?_
          refine wl_ar rfl rfl rfl (((((blen (nv xs)) / K) / 32) + 1 : Nat) : Int) (ai_add (a := ((blen (nv xs)) / K) / 32) (b := 1) rfl rfl (by omega)) (by decide) ?_
          refine wl_make rfl (k := (((blen (nv xs)) / K) / 32) + 1) rfl rfl rfl un_u64 info64 rfl (by decide) (by omega) (by decide) fun g25 v26 hg27 hb28 e29 => ?_
          rw [replicate_W64] at hb28
          have ge30 : w.heap.size ≤ g25 := by rw [← hg27]; exact hw2.size
          have ne32 : 0 < cap → ∀ a, A = some a → a.block ≠ g25 := fun hc a ha => by have := ((hx.ext (e2.trans e6))).rv.blk a ha hc; omega
          have ne33 : 0 < c4 → ∀ a, A4 = some a → a.block ≠ g25 := fun hc a ha => by have := ((rd4.ext e6)).rv.blk a ha hc; omega
          clear hg27
          have hw3 : Ext w v26 := hw2.trans e29
          refine wl_assign rfl rfl (by decide) ?_
          refine wl_nil ?_
          refine eo_then ?_
          refine cw_seq ?_
          refine cw_seq ?_
          refine cw_region ?_
          refine wl_move rfl rfl (by decide) ?_
          refine wl_assign rfl rfl (by decide) ?_
          refine wl_nil ?_
          refine eo_then ?_
          refine cw_block ?_
          have hz0 : nb 4294967296 (List.replicate ((blen (nv xs) / K) / 32 + 1) 0) = 0 := nb_zeros _ _
          refine cw_loop (T := World × Nat × Int × List Nat)
            (fun ⟨wr, k, ii, l⟩ => [(1, .int .i64 ((K : Nat) : Int)), (6, .slice A4 n4 c4), (9, .slice (some ⟨g25, 0, none⟩) ((((blen (nv xs)) / K) / 32) + 1) ((((blen (nv xs)) / K) / 32) + 1)), (10, .int .i64 ii)])
            (fun ⟨wr, k, ii, l⟩ => wr)
            (fun ⟨wr, k, ii, l⟩ => (Ext w wr) ∧ (k ≤ (blen (nv xs) / K) + 1) ∧ (ii = (k : Int) - 1) ∧ (Bk wr g25 23 (l.map W64)) ∧ (l.length = (blen (nv xs) / K) / 32 + 1) ∧ (Wfb 4294967296 l) ∧ (nb 4294967296 l ^ K ≤ nv xs) ∧ (nv xs < (nb 4294967296 l + 2 ^ k) ^ K) ∧ (nb 4294967296 l % 2 ^ k = 0) ∧ (nb 4294967296 l + 2 ^ k ≤ 2 ^ ((blen (nv xs) / K) + 1)) ∧ (Rd wr A4 n4 c4 (db 4294967296 (nv xs))))
            (fun ⟨wr, k, ii, l⟩ => k)
            (⟨v26, (blen (nv xs) / K) + 1, _, _⟩ : World × Nat × Int × List Nat) ⟨hw3, (Nat.le_refl _), (by omega), hb28, (List.length_replicate (n := (((blen (nv xs)) / K) / 32) + 1) (a := 0)), (Wfb_zeros (by decide) _), (by rw [hz0, Nat.zero_pow (by omega)]; exact Nat.zero_le _), (by rw [hz0, Nat.zero_add, ← Nat.pow_mul]; refine Nat.lt_of_lt_of_le (lt_blen _) (Nat.pow_le_pow_right (by decide) ?_); have := Nat.lt_mul_div_succ (blen (nv xs)) (show 0 < K by omega); rw [Nat.mul_comm]; omega), (by rw [hz0]; exact Nat.zero_mod _), (by rw [hz0]; omega), (rd4.ext (e6.trans e29))⟩ rfl ⟨rfl, rfl, rfl, rfl, trivial⟩ ?_
          rintro ⟨wr, k, ii, l⟩ ⟨hw1, hk, hii, hb, hl, hwf, hlo, hhi, hmu, hup, rl6⟩
          refine cw_re [(1, .int .i64 ((K : Nat) : Int)), (6, .slice A4 n4 c4), (9, .slice (some ⟨g25, 0, none⟩) ((((blen (nv xs)) / K) / 32) + 1) ((((blen (nv xs)) / K) / 32) + 1)), (10, .int .i64 ii)] wr rfl ⟨rfl, rfl, rfl, rfl, trivial⟩ ?_
          refine cw_seq ?_
          refine cw_seq ?_
          by_cases hk0 : 0 < k
          ·
            obtain ⟨j, rfl⟩ : ∃ j, k = j + 1 := ⟨k - 1, by omega⟩
            obtain rfl : ii = (j : Int) := by omega
            refine cw_region ?_
            refine wl_move rfl rfl (by decide) ?_
            refine wl_cmp rfl rfl rfl true (cb_ge_t (a := j) (b := 0) rfl rfl (by omega)) (by decide) ?_
            refine wl_nil ?_
            refine eo_then ?_
            refine cw_true rfl ?_
            refine cw_skip ?_
            refine eo_then ?_
            refine cw_seq ?_
            refine cw_block ?_
            refine cw_seq ?_
            have hp31 : 2 ^ (j % 32) ≤ 2 ^ 31 := Nat.pow_le_pow_right (by decide) (by omega)
            refine cw_region ?_
            refine wl_move rfl rfl (by decide) ?_
            refine wl_ar rfl rfl rfl ((j % 32 : Nat) : Int) (au_rem (a := j) (b := 32) rfl rfl (by omega)) (by decide) ?_
            refine wl_pureE rfl rfl (v := .int .u64 (IntKind.u64.wrap ((j % 32 : Nat) : Int))) (v' := .int .u64 ((j % 32 : Nat) : Int)) (by decide) (by kernel_rfl) (cv_u64 (by first | omega | exact (by omega))) ?_
            refine wl_op rfl rfl rfl (r := .int .u64 ((2 ^ (j % 32) : Nat) : Int)) rfl (fun w => u64_shl1 (s := j % 32) (by omega) _ _ w) (by decide) ?_
            refine wl_assign rfl rfl (by decide) ?_
            refine wl_nil ?_
            refine eo_then ?_
            refine cw_seq ?_
            have hfree := bit_free hwf hmu
            have hjl : j / 32 < l.length := by omega
            have hbs := bit_set hjl
            refine cw_region ?_
            refine wl_move rfl rfl (by decide) ?_
            refine wl_move rfl rfl (by decide) ?_
            refine wl_ar rfl rfl rfl ((j / 32 : Nat) : Int) (ai_quo (a := j) (b := 32) rfl rfl (by omega) (by omega)) (by decide) ?_
            refine wl_move rfl rfl (by decide) ?_
            refine wl_move rfl rfl (by decide) ?_
            refine wl_ar rfl rfl rfl ((j / 32 : Nat) : Int) (ai_quo (a := j) (b := 32) rfl rfl (by omega) (by omega)) (by decide) ?_
            refine wl_idx rfl rfl rfl un_u64 sz_u64 (j / 32) rfl (by omega) ⟨g25, j / 32, none⟩ (arr_at _ _) (by decide) ?_
            refine wl_load rfl rfl (load_word ag_u64 hb (by rw [hl]; omega)) (by decide) ?_
            refine wl_move rfl rfl (by decide) ?_
            refine wl_ar rfl rfl rfl (((l.getD (j / 32) 0) + (2 ^ (j % 32)) : Nat) : Int) (au_add (a := l.getD (j / 32) 0) (b := 2 ^ (j % 32)) rfl rfl (by omega)) (by decide) ?_
            refine wl_idx rfl rfl rfl un_u64 sz_u64 (j / 32) rfl (by omega) ⟨g25, j / 32, none⟩ (arr_at _ _) (by decide) ?_
            have hb35 := hb
            refine wl_stored1 rfl rfl rfl sz_u64 rfl hb35 (len_map (by rw [hl]; omega)) rfl ((l.set (j / 32) ((l.getD (j / 32) 0) + (2 ^ (j % 32)))).map W64) (map_W64_set _ _ _) fun v34 hb36 u37 hs38 => ?_
            have hw2 : Ext w v34 := u37.ext hw1 ge30
            refine wl_nil ?_
            refine eo_then ?_
            refine cw_seq ?_
            have hwf2 : Wfb 4294967296 (l.set (j / 32) ((l.getD (j / 32) 0) + (2 ^ (j % 32)))) := Wfb_set hwf _ hfree
            by_cases hfit : nb 4294967296 (l.set (j / 32) ((l.getD (j / 32) 0) + (2 ^ (j % 32)))) ^ K ≤ nv xs
            ·
              have hfit1 := hfit
              rw [hbs] at hfit
              refine cw_region ?_
              refine wl_move rfl rfl (by decide) ?_
              refine wl_call rfl rfl (vs := [.slice (some ⟨g25, 0, none⟩) ((((blen (nv xs)) / K) / 32) + 1) ((((blen (nv xs)) / K) / 32) + 1)]) (by kernel_rfl) (by decide) (ref3_Trim (hb36.rd0 hwf2.wf (len_set (l := l) (hl)) (by omega)) (by omega)) ?_
              rintro _ v39 ⟨xr41, rfl, r41, e40⟩
              refine ret_intro ?_
              have hw3 : Ext w v39 := hw2.trans e40
              obtain ⟨k42, rfl, hk42, ht42, hv42⟩ := r41
              refine wl_move rfl rfl (by decide) ?_
              refine wl_move rfl rfl (by decide) ?_
              refine wl_call rfl rfl (vs := [.slice (some ⟨g25, 0, none⟩) k42 ((((blen (nv xs)) / K) / 32) + 1), .int .i64 ((K : Nat) : Int), .slice A4 n4 c4]) (by kernel_rfl) (by decide) (ref3_atMost' (b := true) (((hb36.ext e40).rd0 hwf2.wf (len_set (l := l) (hl)) (by omega)).trim hwf2 hk42 ht42 hv42) (by omega) ((Rd.updL rl6 u37 ne33).ext e40) (by omega) (by omega) (by omega) (by rw [decide_eq_true hfit1])) ?_
              rintro _ v43 ⟨xr45, rfl, r45, e44⟩
              refine ret_intro ?_
              have hw4 : Ext w v43 := hw3.trans e44
              obtain rfl := r45
              refine wl_assign rfl rfl (by decide) ?_
              refine wl_nil ?_
              refine eo_then ?_
              refine cw_seq ?_
              refine cw_region ?_
              refine wl_move rfl rfl (by decide) ?_
              refine wl_pure rfl rfl (v := .bool false) (by decide) (by kernel_rfl) ?_
              refine wl_nil ?_
              refine eo_then ?_
              refine cw_false rfl ?_
              refine cw_skip ?_
              refine eo_block_normal ?_
              refine eo_then ?_
              refine cw_region ?_
              refine wl_move rfl rfl (by decide) ?_
              refine wl_ar rfl rfl rfl (((j : Nat) : Int) - 1) (ar_i64s rfl (by omega) (by omega)) (by decide) ?_
              refine wl_assign rfl rfl (by decide) ?_
              refine wl_nil ?_
              refine eo_round (⟨v43, j, _, _⟩ : World × Nat × Int × List Nat) ⟨hw4, (by omega), rfl, (hb36.ext (e40.trans e44)), (len_set (l := l) (hl)), hwf2, (by rw [hbs]; exact hfit), (by rw [hbs, Nat.add_assoc, ← Nat.two_mul, ← Nat.pow_succ']; exact hhi), (by rw [hbs]; exact (rt_mul hmu).2), (by rw [hbs, Nat.add_assoc, ← Nat.two_mul, ← Nat.pow_succ']; exact hup), ((Rd.updL rl6 u37 ne33).ext (e40.trans e44))⟩ (show j < j + 1 by omega) rfl ⟨rfl, rfl, rfl, rfl, trivial⟩
            ·
              refine cw_region ?_
              refine wl_move rfl rfl (by decide) ?_
              refine wl_call rfl rfl (vs := [.slice (some ⟨g25, 0, none⟩) ((((blen (nv xs)) / K) / 32) + 1) ((((blen (nv xs)) / K) / 32) + 1)]) (by kernel_rfl) (by decide) (ref3_Trim (hb36.rd0 hwf2.wf (len_set (l := l) (hl)) (by omega)) (by omega)) ?_
              rintro _ v46 ⟨xr48, rfl, r48, e47⟩
              refine ret_intro ?_
              have hw3 : Ext w v46 := hw2.trans e47
              obtain ⟨k49, rfl, hk49, ht49, hv49⟩ := r48
              refine wl_move rfl rfl (by decide) ?_
              refine wl_move rfl rfl (by decide) ?_
              refine wl_call rfl rfl (vs := [.slice (some ⟨g25, 0, none⟩) k49 ((((blen (nv xs)) / K) / 32) + 1), .int .i64 ((K : Nat) : Int), .slice A4 n4 c4]) (by kernel_rfl) (by decide) (ref3_atMost' (b := false) (((hb36.ext e47).rd0 hwf2.wf (len_set (l := l) (hl)) (by omega)).trim hwf2 hk49 ht49 hv49) (by omega) ((Rd.updL rl6 u37 ne33).ext e47) (by omega) (by omega) (by omega) (by rw [decide_eq_false hfit])) ?_
              rintro _ v50 ⟨xr52, rfl, r52, e51⟩
              refine ret_intro ?_
              have hw4 : Ext w v50 := hw3.trans e51
              obtain rfl := r52
              refine wl_assign rfl rfl (by decide) ?_
              refine wl_nil ?_
              refine eo_then ?_
              refine cw_seq ?_
              refine cw_region ?_
              refine wl_move rfl rfl (by decide) ?_
              refine wl_pure rfl rfl (v := .bool true) (by decide) (by kernel_rfl) ?_
              refine wl_nil ?_
              refine eo_then ?_
              refine cw_true rfl ?_
              have hgb : (l.set (j / 32) ((l.getD (j / 32) 0) + (2 ^ (j % 32)))).getD (j / 32) 0 = l.getD (j / 32) 0 + 2 ^ (j % 32) := getD_set_eq hjl _
              refine cw_region ?_
              refine wl_move rfl rfl (by decide) ?_
              refine wl_move rfl rfl (by decide) ?_
              refine wl_ar rfl rfl rfl ((j / 32 : Nat) : Int) (ai_quo (a := j) (b := 32) rfl rfl (by omega) (by omega)) (by decide) ?_
              refine wl_move rfl rfl (by decide) ?_
              refine wl_move rfl rfl (by decide) ?_
              refine wl_ar rfl rfl rfl ((j / 32 : Nat) : Int) (ai_quo (a := j) (b := 32) rfl rfl (by omega) (by omega)) (by decide) ?_
              refine wl_idx rfl rfl rfl un_u64 sz_u64 (j / 32) rfl (by omega) ⟨g25, j / 32, none⟩ (arr_at _ _) (by decide) ?_
              refine wl_load rfl rfl (load_word ag_u64 (hb36.ext (e47.trans e51)) (by rw [(len_set (l := l) (hl))]; omega)) (by decide) ?_
              refine wl_move rfl rfl (by decide) ?_
              refine wl_ar rfl rfl rfl ((((l.set (j / 32) ((l.getD (j / 32) 0) + (2 ^ (j % 32)))).getD (j / 32) 0) - (2 ^ (j % 32)) : Nat) : Int) (au_sub (a := (l.set (j / 32) ((l.getD (j / 32) 0) + (2 ^ (j % 32)))).getD (j / 32) 0) (b := 2 ^ (j % 32)) rfl rfl (by omega) (by omega)) (by decide) ?_
              refine wl_idx rfl rfl rfl un_u64 sz_u64 (j / 32) rfl (by omega) ⟨g25, j / 32, none⟩ (arr_at _ _) (by decide) ?_
              have hb54 := (hb36.ext (e47.trans e51))
              refine wl_stored1 rfl rfl rfl sz_u64 rfl hb54 (len_map (by rw [(len_set (l := l) (hl))]; omega)) rfl (((l.set (j / 32) ((l.getD (j / 32) 0) + (2 ^ (j % 32)))).set (j / 32) (((l.set (j / 32) ((l.getD (j / 32) 0) + (2 ^ (j % 32)))).getD (j / 32) 0) - (2 ^ (j % 32)))).map W64) (map_W64_set _ _ _) fun v53 hb55 u56 hs57 => ?_
              have hw5 : Ext w v53 := u56.ext hw4 ge30
              refine wl_nil ?_
              refine eo_block_normal ?_
              refine eo_then ?_
              have hbk := hb55
              rw [set_back hjl] at hbk
              refine cw_region ?_
              refine wl_move rfl rfl (by decide) ?_
              refine wl_ar rfl rfl rfl (((j : Nat) : Int) - 1) (ar_i64s rfl (by omega) (by omega)) (by decide) ?_
              refine wl_assign rfl rfl (by decide) ?_
              refine wl_nil ?_
              refine eo_round (⟨v53, j, _, l⟩ : World × Nat × Int × List Nat) ⟨hw5, (by omega), rfl, hbk, hl, hwf, hlo, (by rw [hbs] at hfit; omega), (rt_mul hmu).1, (by rw [Nat.pow_succ] at hup; omega), (Rd.updL ((Rd.updL rl6 u37 ne33).ext (e47.trans e51)) u56 ne33)⟩ (show j < j + 1 by omega) rfl ⟨rfl, rfl, rfl, rfl, trivial⟩
          ·
            obtain rfl : k = 0 := by omega
            refine cw_region ?_
            refine wl_move rfl rfl (by decide) ?_
            refine wl_cmp rfl rfl rfl false (ge_f (by omega)) (by decide) ?_
            refine wl_nil ?_
            refine eo_then ?_
            refine cw_false rfl ?_
            refine cw_exit ?_
            refine eo_thenX ?_
            refine eo_loopX ?_
            refine eo_block_here ?_
            refine eo_then ?_
            refine cw_seq ?_
            refine cw_region ?_
            refine wl_move rfl rfl (by decide) ?_
            refine wl_call rfl rfl (vs := [.slice (some ⟨g25, 0, none⟩) ((((blen (nv xs)) / K) / 32) + 1) ((((blen (nv xs)) / K) / 32) + 1)]) (by kernel_rfl) (by decide) (ref3_words (hb.rd0 hwf.wf hl (by omega)) (by omega) hwf) ?_
            rintro _ v58 ⟨xr60, rfl, r60, e59⟩
            refine ret_intro ?_
            have hw2 : Ext w v58 := hw1.trans e59
            obtain ⟨A61, n61, c61, rfl, j61, o61⟩ := r60
            refine wl_assign rfl rfl (by decide) ?_
            refine wl_assign rfl rfl (by decide) ?_
            refine wl_nil ?_
            refine eo_then ?_
            refine cw_ret ?_
            refine eo_ret [.slice A61 n61 c61, .int .i64 0] rfl ⟨rfl, rfl, trivial⟩ ?_
            exact ⟨(nb 4294967296 l), ⟨hlo, by rw [Nat.pow_zero] at hhi; exact hhi⟩, _, rfl, ⟨_, _, rfl, ⟨_, _, _, rfl, j61, (o61).mono hw1.size⟩, rfl⟩, hw2⟩
end Go.Proofs.Ythggegdkpalgbaa

namespace Go.Proofs.Ythggegdkpalgbaa
open Go.RowKit
theorem i64_shl1 {s : Nat} (hs : s ≤ 62) (P : Program) (t : TypeId) (w : World) : (binOp .shl t (.int .i64 1) (.int .i64 (s : Int))).run P w = .ok (.int .i64 ((2 ^ s : Nat) : Int)) w := by
  have e : ((1 : Int) * 2 ^ min (s : Int).toNat IntKind.i64.bits) = ((2 ^ s : Nat) : Int) := by
    rw [Int.toNat_natCast, show min s IntKind.i64.bits = s from Nat.min_eq_left (by show s ≤ 64; omega)]; simp
  have hb : 2 ^ s ≤ 2 ^ 62 := Nat.pow_le_pow_right (by omega) hs
  simp only [binOp]
  rw [shift_shl_any _ _ _ _ (by omega), e, wrap_i64_nat (by omega)]; rfl
/-- blocks of two kinds are two -/
theorem Own.apart {w : World} {base base' : Nat} {t t' : TypeId} {s s' : Nat} {A B : Option Addr} {n cap n' cap' : Nat} {vs us : List Value} (h : Own w base t s A n cap vs) (k : Own w base' t' s' B n' cap' us) (hne : t ≠ t') :
    ∀ p q, A = some p → B = some q → p.block ≠ q.block := by
  intro p q hp hq e
  rcases h with h | ⟨g, cs, ha, hb, hk, _⟩
  · rw [h.1] at hp; cases hp
  · rcases k with k | ⟨g', cs', ha', hb', hk', _⟩
    · rw [k.1] at hq; cases hq
    · rw [ha] at hp; rw [ha'] at hq
      cases hp; cases hq
      have e' : g = g' := e
      subst e'
      unfold Bk at hk hk'
      rw [hk] at hk'
      injection hk' with h1
      injection h1 with h2 h3
      exact hne h3
theorem pow_pos' {B N : Nat} (hB : 2 ≤ B) : 0 < B ^ N := Nat.pow_pos (by omega)
theorem strip_step {L B N M X : Nat} (h : L * B ^ N = X) (hd : L % B ^ M = 0) : L / B ^ M * B ^ (N + M) = X := by
  have e : L / B ^ M * B ^ M = L := Nat.div_mul_cancel (Nat.dvd_of_mod_eq_zero hd)
  rw [Nat.pow_add, Nat.mul_comm (B ^ N), ← Nat.mul_assoc, e, h]
theorem strip_still {L B i : Nat} (_hB : 2 ≤ B) (h : L % B ^ (2 ^ (i + 1)) ≠ 0) (hd : L % B ^ (2 ^ i) = 0) : (L / B ^ (2 ^ i)) % B ^ (2 ^ i) ≠ 0 := by
  intro h2
  apply h
  have e1 := Nat.div_mul_cancel (Nat.dvd_of_mod_eq_zero hd)
  obtain ⟨c, hc⟩ := Nat.dvd_of_mod_eq_zero h2
  rw [hc] at e1
  have e2 : B ^ (2 ^ (i + 1)) = B ^ (2 ^ i) * B ^ (2 ^ i) := by rw [← Nat.pow_add, Nat.pow_succ]; congr 1; omega
  rw [← e1, e2, show B ^ 2 ^ i * c * B ^ 2 ^ i = (B ^ 2 ^ i * B ^ 2 ^ i) * c by rw [Nat.mul_right_comm], Nat.mul_mod_right]
theorem strip_le {L B N X : Nat} (hX : X ≠ 0) (hB : 2 ≤ B) (h : L * B ^ N = X) : N ≤ blen X := by
  have hL : 0 < L := Nat.pos_of_ne_zero (fun e => hX (by rw [← h, e, Nat.zero_mul]))
  have h1 : 2 ^ N ≤ B ^ N := Nat.pow_le_pow_left hB N
  have h2 : B ^ N ≤ L * B ^ N := Nat.le_mul_of_pos_left _ hL
  have h3 := lt_blen X
  rw [h] at h2
  refine Nat.le_of_lt ((Nat.pow_lt_pow_iff_right (a := 2) (by omega)).1 (by omega))
theorem strip_pos {L B N X : Nat} (hX : X ≠ 0) (h : L * B ^ N = X) : 0 < L := Nat.pos_of_ne_zero (fun e => hX (by rw [← h, e, Nat.zero_mul]))
theorem strip_lt {L B N : Nat} (hL : 0 < L) (hB : 2 ≤ B) : L / B ^ (N + 1) < L := by
  refine Nat.div_lt_self hL ?_
  have := Nat.mul_le_mul (pow_pos' (N := N) hB) hB
  rw [Nat.pow_succ]; omega
theorem strip_uniq {B : Nat} (hB : 2 ≤ B) {L M k j : Nat} (h : L * B ^ k = M * B ^ j) (hL : L % B ≠ 0) (hM : M % B ≠ 0) : k = j ∧ L = M := by
  have main : ∀ {L M k j : Nat}, L * B ^ k = M * B ^ j → L % B ≠ 0 → ¬ k < j := by
    intro L M k j h hL hlt
    obtain ⟨d, rfl⟩ : ∃ d, j = k + (d + 1) := ⟨j - k - 1, by omega⟩
    rw [Nat.pow_add, Nat.mul_comm (B ^ k), ← Nat.mul_assoc] at h
    have e := Nat.eq_of_mul_eq_mul_right (pow_pos' hB) h
    apply hL
    rw [e, Nat.pow_succ, ← Nat.mul_assoc, Nat.mul_mod_left]
  have hkj : k = j := by
    have h1 := main h hL
    have h2 := main h.symm hM
    omega
  subst hkj
  exact ⟨rfl, Nat.eq_of_mul_eq_mul_right (pow_pos' hB) h⟩
/-- how often, and what is left -/
def StripP (w : World) (X B : Nat) (e : Ending) (w' : World) : Prop :=
  ∃ (k L : Nat) (A : Option Addr) (n cap : Nat), e = .returned (.tuple #[.int .i64 (k : Int), .slice A n cap, .int .i64 0]) ∧ Hid (L * B ^ k = X) ∧ Hid (L % B ≠ 0) ∧ Hid (n = (wd L).length) ∧ Rd w' A n cap (wd L) ∧ Own w' w.heap.size 23 1 A n cap ((wd L).map W64) ∧ Ext w w'
theorem infoW : (Try.prog.info? 22).map (fun i => (i.zero, i.size, i.bytes)) = some (some (.slice none 0 0), 1, 24) := by kernel_rfl
theorem divnat_Strip_bad {w : World} {A B : Option Addr} {n cap n' cap' : Nat} {xs ys : List Nat} (hx : Rd w A n cap xs) (hl : n ≤ 268435456) (hy : Rd w B n' cap' ys) (hl' : n' ≤ 268435456) (h0 : nv xs = 0 ∨ nv ys < 2) :
    Calls Try.prog 67 #[.slice A n cap, .slice B n' cap'] w (fun e w' => e = .returned (.tuple #[.int .i64 0, .slice none 0 0, .int .i64 3]) ∧ Ext w w') := by
  have H0 := Lib.hid h0
  clear h0
  go_enter Try.func67, Try.ntmps67
  go_wp2_with fail
  refine (nat_Least hx (by omega)).mono ?_
  rintro e w1 ⟨A1, n1, c1, rfl, hn1, hr1, ho1, hx1⟩
  go_wp2_with fail
  refine (nat_Least (hy.ext hx1) (by omega)).mono ?_
  rintro e w2 ⟨A2, n2, c2, rfl, hn2, hr2, ho2, hx2⟩
  have hn2b : n2 ≤ 268435456 := by rw [hn2.out]; exact Nat.le_trans (by have := len_wd_nv hy.wf; rw [hy.len] at this; exact this) hl'
  by_cases hz : n1 = 0
  · subst hz
    go_wp2_with fail
    go_ret3
    exact ⟨rfl, hx1.trans hx2⟩
  · have bz : ((n1 : Int) == 0) = false := by simp; omega
    have hlt : Hid (nv ys < 2) := by
      rcases H0.out with h | h
      · exact absurd (by rw [hn1.out, h]; rfl) hz
      · exact h
    go_wp2_with fail
    obtain ⟨wa, hwa⟩ : ∃ wa, w2.alloc (.cells #[.int .u64 2] 23) = wa := ⟨_, rfl⟩
    rw [hwa]
    have hea : Ext w2 wa := by rw [← hwa]; exact (Ext.refl w2).alloc _
    have h2 : Rd wa (some ⟨w2.heap.size, 0, none⟩) 1 1 [2] := by rw [← hwa]; exact Rd.one w2 (x := 2) (by omega)
    clear hwa
    refine (nat_Cmp (hr2.ext hea) (by omega) h2 (by omega)).mono ?_
    rintro e w3 ⟨c, hc, hcl, hch, rfl, hx3⟩
    rw [nv_wd, nv_one] at hc
    have hneg : c < 0 := by rw [hc.out]; exact cmp3_neg.2 hlt.out
    go_wp2_with fail
    go_ret3
    exact ⟨rfl, hx1.trans (hx2.trans (hea.trans hx3))⟩
set_option maxHeartbeats 8000000 in
theorem divnat_Strip {w : World} {A B : Option Addr} {n cap n' cap' : Nat} {xs ys : List Nat} (hx : Rd w A n cap xs) (hl : n ≤ 268435456) (hy : Rd w B n' cap' ys) (hl' : n' ≤ 268435456) (h0 : nv xs ≠ 0) (hB : 2 ≤ nv ys) :
    Calls Try.prog 67 #[.slice A n cap, .slice B n' cap'] w (StripP w (nv xs) (nv ys)) := by
  have H0 := Lib.hid h0
  have HB := Lib.hid hB
  have HLX : Hid ((wd (nv xs)).length ≤ 268435456) := Nat.le_trans (by have := len_wd_nv hx.wf; rw [hx.len] at this; exact this) hl
  have HLY : Hid ((wd (nv ys)).length ≤ 268435456) := Nat.le_trans (by have := len_wd_nv hy.wf; rw [hy.len] at this; exact this) hl'
  have HBL : Hid (blen (nv xs) ≤ 17179869184) := by
    have := blen_le (n := nv xs) (k := 64 * n) (by rw [Nat.pow_mul, ← WB_pow, ← hx.len]; exact nv_lt hx.wf)
    show _ ≤ _
    omega
  clear h0 hB
  obtain ⟨X, hX⟩ : ∃ X, nv xs = X := ⟨_, rfl⟩
  obtain ⟨Y, hY⟩ : ∃ Y, nv ys = Y := ⟨_, rfl⟩
  rw [hX] at H0 HLX HBL ⊢
  rw [hY] at HB HLY ⊢
  have HX := Lib.hid hX
  have HY := Lib.hid hY
  clear hX hY
  go_enter Try.func67, Try.ntmps67
  go_wp2_with fail
  refine (nat_Least hx (by omega)).mono ?_
  rintro e w1 ⟨A1, n1, c1, rfl, hn1, hr1, ho1, hx1⟩
  rw [HX.out] at hn1 hr1 ho1
  have hn1b : n1 ≤ 268435456 := by rw [hn1.out]; exact HLX.out
  have hn10 : 0 < n1 := by rw [hn1.out]; exact Nat.pos_of_ne_zero (fun e => H0.out (len_wd_zero.1 e))
  have bz : ((n1 : Int) == 0) = false := by simp; omega
  go_wp2_with fail
  refine (nat_Least (hy.ext hx1) (by omega)).mono ?_
  rintro e w2 ⟨A2, n2, c2, rfl, hn2, hr2, ho2, hx2⟩
  rw [HY.out] at hn2 hr2 ho2
  have hn2b : n2 ≤ 268435456 := by rw [hn2.out]; exact HLY.out
  go_wp2_with fail
  obtain ⟨wa, hwa⟩ : ∃ wa, w2.alloc (.cells #[.int .u64 2] 23) = wa := ⟨_, rfl⟩
  rw [hwa]
  have hea : Ext w2 wa := by rw [← hwa]; exact (Ext.refl w2).alloc _
  have h2 : Rd wa (some ⟨w2.heap.size, 0, none⟩) 1 1 [2] := by rw [← hwa]; exact Rd.one w2 (x := 2) (by omega)
  clear hwa
  refine (nat_Cmp (hr2.ext hea) (by omega) h2 (by omega)).mono ?_
  rintro e w3 ⟨c, hc, hcl, hch, rfl, hx3⟩
  rw [nv_wd, nv_one] at hc
  have hneg : ¬ c < 0 := by
    intro h
    rw [hc.out] at h
    have := cmp3_neg.1 h
    have := HB.out
    omega
  have hneg2 : 0 ≤ c := by omega
  have hx13 : Ext w1 w3 := hx2.trans (hea.trans hx3)
  have hx23 : Ext w2 w3 := hea.trans hx3
  go_upto_region 6 with (fail)
  go_loopw [7, 8, 9, 10] (fun l p pw nn wr => ∃ (A P V : Option Addr) (n cap m cap' c'' j L N : Nat) (vs : List Value), l = .slice A n cap ∧ p = .slice P m cap' ∧ pw = .slice V j c'' ∧ nn = .int .i64 (N : Int) ∧ n ≤ 268435456 ∧ m ≤ 536870912 ∧ j ≤ 40 ∧ N ≤ 17179869184 ∧
    Hid (L * Y ^ N = X) ∧ Hid (N + 1 = 2 ^ j) ∧ Hid (n = (wd L).length) ∧ Rd wr A n cap (wd L) ∧ Own wr w.heap.size 23 1 A n cap ((wd L).map W64) ∧
    Hid (m = (wd (Y ^ (N + 1))).length) ∧ Rd wr P m cap' (wd (Y ^ (N + 1))) ∧ Own wr w.heap.size 23 1 P m cap' ((wd (Y ^ (N + 1))).map W64) ∧
    Own wr w.heap.size 22 1 V j c'' vs ∧ Hid (∀ i, i < j → ∃ (P : Option Addr) (m c : Nat), vs.getD i undef = .slice P m c ∧ m ≤ 536870912 ∧ Own wr w.heap.size 23 1 P m c ((wd (Y ^ (2 ^ i))).map W64)) ∧ Ext w wr) (fun l p pw nn wr => numAt wr l)
  case atStart =>
    have e1 : Y ^ (0 + 1) = Y := by rw [Nat.zero_add, Nat.pow_one]
    refine ⟨A1, A2, none, n1, c1, n2, c2, 0, 0, X, 0, [], rfl, rfl, rfl, rfl, hn1b, by omega, by omega, by omega, (show _ = _ by rw [Nat.pow_zero, Nat.mul_one]), (show _ = _ by rw [Nat.pow_zero]), hn1, hr1.ext hx13, ho1.ext hx13, ?_, ?_, ?_, Own.nil _ _ _ _, (fun i hi => by omega), hx1.trans hx13⟩
    · show _ = _; rw [e1]; exact hn2.out
    · rw [e1]; exact hr2.ext hx23
    · rw [e1]; exact (ho2.ext hx23).mono hx1.size
  case round =>
    obtain ⟨A, P, V, n, cap, m, cap', c'', j, L, N, vs, rfl, rfl, rfl, rfl, hnb, hmb, hjb, hNb, hL, hN, hn, hra, hoa, hm, hrp, hop, hov, hvs, hr⟩ := hrel
    clear hr1 hr2 ho1 ho2 hx hy hn1 hn2 hx13 hx23 hx1 hx2 hx3 hea h2 hc hcl hch hneg hneg2 hn1b hn2b hn10 bz
    have hP0 : Y ^ (N + 1) ≠ 0 := Nat.ne_of_gt (pow_pos' HB.out)
    have HP0 := Lib.hid hP0
    clear hP0
    by_cases hd : L % Y ^ (N + 1) = 0
    · have HD := Lib.hid hd
      clear hd
      have hLpos : Hid (0 < L) := strip_pos H0.out hL.out
      have hPL : Hid (Y ^ (N + 1) ≤ X) := by
        have h1 := Nat.le_of_dvd hLpos.out (Nat.dvd_of_mod_eq_zero HD.out)
        have h2 : L ≤ L * Y ^ N := Nat.le_mul_of_pos_right _ (pow_pos' HB.out)
        rw [hL.out] at h2
        exact Nat.le_trans h1 h2
      have hstep : Hid (L / Y ^ (N + 1) * Y ^ (N + (N + 1)) = X) := strip_step hL.out HD.out
      have hmb2 : m ≤ 268435456 := by rw [hm.out]; exact Nat.le_trans (len_wd_mono hPL.out) HLX.out
      have hN2 : N + (N + 1) ≤ 17179869184 := Nat.le_trans (strip_le H0.out HB.out hstep.out) HBL.out
      have hj2 : j + 1 ≤ 40 := by
        have h1 : 2 ^ j < 2 ^ 39 := by rw [← hN.out]; omega
        have := (Nat.pow_lt_pow_iff_right (a := 2) (by omega)).1 h1
        omega
      go_wp2_with fail
      refine (divnat_Exact hra (by omega) hrp (by omega) (by rw [nv_wd]; exact HP0.out) (by rw [nv_wd, nv_wd]; exact HD.out)).mono ?_
      rintro e w4 ⟨A4, n4, c4, rfl, hn4, hr4, ho4, hx4⟩
      rw [nv_wd, nv_wd] at hn4 hr4 ho4
      have hn4b : n4 ≤ 268435456 := by
        rw [hn4.out]
        exact Nat.le_trans (len_wd_mono (Nat.div_le_self _ _)) (by rw [← hn.out]; exact hnb)
      have r1 : (j + 1) * 24 ≤ 140737488355328 := by omega
      have hHr := hr.size
      have hH4 := hx4.size
      go_wp2_with (first
        | ((with_reducible refine at_slot (some 41) ?_); refine wpl_i64 rfl rfl rfl rfl rfl (i64_shl1 (s := j) (by omega)) ?_; intro q hq; have hqN : q = N + 1 := (by rw [hq.out]; exact hN.out.symm); clear hq; subst hqN)
        | ((with_reducible refine at_slot (some 46) ?_); refine wpc_append rfl (.tmp 43) (.tmp 45) 70 rfl rfl rfl Try.underlying70 infoW rfl (by decide) ((hov.ext hx4).ext ((Ext.refl _).alloc _)) (Rv.one _ _ _) (by simp [Value.oneCell']) r1 (by rw [len_maxLen]; omega) (by simp; omega) ?_; intro A5 c5 w5 ho5 hu5 _))
      have hg : Ext w4 (w4.alloc (.cells #[.slice P m cap'] 22)) := (Ext.refl _).alloc _
      have hxg : Ext wr (w4.alloc (.cells #[.slice P m cap'] 22)) := hx4.trans hg
      have hap : ∀ (Q : Option Addr) (q c : Nat) (us : List Value), Own (w4.alloc (.cells #[.slice P m cap'] 22)) w.heap.size 23 1 Q q c us → Own w5 w.heap.size 23 1 Q q c us := by
        intro Q q c us h
        exact h.updO hu5 ((hov.ext hxg).apart h (by decide))
      have HAP := Lib.hid hap
      clear hap
      have he5 : Ext w w5 := hu5.ext (hr.trans hxg) (fun p hp => (hov.block p hp).1)
      have hop5 := HAP.out _ _ _ _ (hop.ext hxg)
      have ho45 := HAP.out _ _ _ _ ((ho4.ext hg).mono hr.size)
      refine (mulnat_Square (hop5.rd (Wf_wd _)) (by omega)).mono ?_
      rintro e w6 ⟨A6, n6, c6, rfl, hn6, hr6, ho6, hx6⟩
      have e6 : Y ^ (N + 1) * Y ^ (N + 1) = Y ^ (N + (N + 1) + 1) := by rw [← Nat.pow_add]; congr 1; omega
      rw [nv_wd, e6] at hn6 hr6 ho6
      have hn6b : n6 ≤ 536870912 := by
        have h1 := len_wd_mul (Y ^ (N + 1)) (Y ^ (N + 1))
        rw [e6, ← hn6.out, ← hm.out] at h1
        omega
      clear e6
      go_wp2_with fail
      go_roundw
      case rel =>
        refine ⟨A4, A6, A5, n4, c4, n6, c6, c5, j + 1, L / Y ^ (N + 1), N + (N + 1), vs ++ [.slice P m cap'], rfl, rfl, rfl, val_int (by omega), hn4b, hn6b, hj2, hN2, hstep, ?_, hn4, (ho45.rd (Wf_wd _)).ext hx6, ho45.ext hx6, hn6, hr6, ho6.mono he5.size, ho5.ext hx6, ?_, he5.trans hx6⟩
        · show _ = _
          have := hN.out
          rw [Nat.pow_succ]; omega
        · intro i hi
          have hvl : vs.length = j := by simpa using hov.rv.len
          by_cases hij : i < j
          · obtain ⟨P', m', c', e1, e2, e3⟩ := hvs.out i hij
            refine ⟨P', m', c', ?_, e2, (HAP.out _ _ _ _ (e3.ext hxg)).ext hx6⟩
            rw [← e1]
            simp [List.getD_eq_getElem?_getD, List.getElem?_append_left (show i < vs.length by omega)]
          · have hij' : i = j := by omega
            refine ⟨P, m, cap', ?_, hmb, ?_⟩
            · rw [hij', ← hvl]; simp [List.getD_eq_getElem?_getD]
            · rw [hij', ← hN.out]; exact hop5.ext hx6
      case measure =>
        rw [((ho45.rd (Wf_wd _)).ext hx6).numAt, hra.numAt, nv_wd, nv_wd]
        exact strip_lt hLpos.out HB.out
    · have HD := Lib.hid hd
      clear hd
      go_wp2_with fail
      refine (divnat_Exact_not hra (by omega) hrp (by omega) (by rw [nv_wd]; exact HP0.out) (by rw [nv_wd, nv_wd]; exact HD.out)).mono ?_
      rintro e w4 ⟨rfl, hx4⟩
      have hx5 : Ext w w4 := hr.trans hx4
      have hov4 := hov.ext hx4
      have hvs4 : Hid (∀ i, i < j → ∃ (P : Option Addr) (m c : Nat), vs.getD i undef = .slice P m c ∧ m ≤ 536870912 ∧ Own w4 w.heap.size 23 1 P m c ((wd (Y ^ (2 ^ i))).map W64)) := by
        intro i hi
        obtain ⟨P', m', c', e1, e2, e3⟩ := hvs.out i hi
        exact ⟨P', m', c', e1, e2, e3.ext hx4⟩
      have hND : Hid (L % Y ^ (2 ^ j) ≠ 0) := (show _ ≠ _ by rw [← hN.out]; exact HD.out)
      have hra4 := hra.ext hx4
      have hoa4 := hoa.ext hx4
      clear hra hoa hov hvs hrp hop hm hN HD HP0 hx4
      go_wp2_with fail
      go_loopw [7, 10, 13] (fun l nn ii ws => ∃ (A : Option Addr) (n cap i L N : Nat), l = .slice A n cap ∧ nn = .int .i64 (N : Int) ∧ ii = .int .i64 ((i : Int) - 1) ∧ i ≤ j ∧ n ≤ 268435456 ∧ N ≤ 17179869184 ∧ Hid (L * Y ^ N = X) ∧ Hid (L % Y ^ (2 ^ i) ≠ 0) ∧ Hid (n = (wd L).length) ∧
        Rd ws A n cap (wd L) ∧ Own ws w.heap.size 23 1 A n cap ((wd L).map W64) ∧ Ext w4 ws) (fun l nn ii ws => (intOf ii + 1).toNat)
      case atStart => exact ⟨A, n, cap, j, L, N, rfl, rfl, rfl, Nat.le_refl _, hnb, hNb, hL, hND, hn, hra4, hoa4, Ext.refl _⟩
      case round =>
        obtain ⟨A, n, cap, i, L, N, rfl, rfl, rfl, hij, hnb, hNb, hL, hND, hn, hra, hoa, hxs⟩ := hrel
        clear hra4 hoa4
        by_cases hi0 : 0 < i
        · obtain ⟨i, rfl⟩ : ∃ k, i = k + 1 := ⟨i - 1, by omega⟩
          have ek : ((i + 1 : Nat) : Int) - 1 = (i : Int) := by omega
          rw [ek]
          obtain ⟨v, hv, hvc⟩ := (hov4.ext hxs).rv.get i (by omega)
          obtain ⟨P', m', c', e1, e2, e3⟩ := hvs4.out i (by omega)
          rw [e1] at hvc
          subst hv
          have h2p : 2 ^ i ≤ 2 ^ 40 := Nat.pow_le_pow_right (by omega) (by omega)
          have H2P := Lib.hid h2p
          clear h2p e1
          have hP0 : Y ^ 2 ^ i ≠ 0 := Nat.ne_of_gt (pow_pos' HB.out)
          have HP0 := Lib.hid hP0
          clear hP0
          by_cases hd : L % Y ^ (2 ^ i) = 0
          · have HD := Lib.hid hd
            clear hd
            have hstep : Hid (L / Y ^ (2 ^ i) * Y ^ (N + 2 ^ i) = X) := strip_step hL.out HD.out
            obtain ⟨T, hT⟩ : ∃ T, T = 2 ^ i := ⟨_, rfl⟩
            have hNT : N + T ≤ 17179869184 := by rw [hT]; exact Nat.le_trans (strip_le H0.out HB.out hstep.out) HBL.out
            have HT := Lib.hid hT
            clear hT
            go_wp2_with fail
            refine (divnat_Exact hra (by omega) ((e3.ext hxs).rd (Wf_wd _)) (by omega) (by rw [nv_wd]; exact HP0.out) (by rw [nv_wd, nv_wd]; exact HD.out)).mono ?_
            rintro e w5 ⟨A5, n5, c5, rfl, hn5, hr5, ho5, hx5'⟩
            rw [nv_wd, nv_wd] at hn5 hr5 ho5
            have hn5b : n5 ≤ 268435456 := by
              rw [hn5.out]
              exact Nat.le_trans (len_wd_mono (Nat.div_le_self _ _)) (by rw [← hn.out]; exact hnb)
            go_wp2_with (first
              | ((with_reducible refine at_slot (some 70) ?_); refine wpl_i64 rfl rfl rfl rfl rfl (i64_shl1 (s := i) (by omega)) ?_; intro q hq; have hqN : q = T := (by rw [hq.out, HT.out]); clear hq; subst hqN))
            go_roundw
            case rel =>
              refine ⟨A5, n5, c5, i, L / Y ^ 2 ^ i, N + q, rfl, val_int (by omega), rfl, by omega, hn5b, hNT, ?_, strip_still HB.out hND.out HD.out, hn5, hr5, ho5.mono (hx5.trans hxs).size, hxs.trans hx5'⟩
              show _ = _
              rw [HT.out]; exact hstep.out
            case measure => simp [intOf]
          · have HD := Lib.hid hd
            clear hd
            go_wp2_with fail
            refine (divnat_Exact_not hra (by omega) ((e3.ext hxs).rd (Wf_wd _)) (by omega) (by rw [nv_wd]; exact HP0.out) (by rw [nv_wd, nv_wd]; exact HD.out)).mono ?_
            rintro e w5 ⟨rfl, hx5'⟩
            go_wp2_with fail
            go_roundw
            case rel => exact ⟨A, n, cap, i, L, N, rfl, rfl, rfl, by omega, hnb, hNb, hL, HD, hn, hra.ext hx5', hoa.ext hx5', hxs.trans hx5'⟩
            case measure => simp [intOf]
        · obtain rfl : i = 0 := by omega
          have ek : ((0 : Nat) : Int) - 1 = -1 := rfl
          rw [ek]
          go_wp2_with fail
          go_ret3
          rw [Nat.pow_zero, Nat.pow_one] at hND
          exact ⟨N, L, A, n, cap, rfl, hL, hND, hn, hra, hoa, hx5.trans hxs⟩
end Go.Proofs.Ythggegdkpalgbaa

namespace Go.Proofs.Ythggegdkpalgbaa
open Go.RowKit
/-- digits in memory of the call's own -/
def OD (b m : Nat) (v : Value) (w : World) : Prop := ∃ A k c, v = .slice A k c ∧ Own w b 23 1 A k c ((db 4294967296 m).map W64)
theorem Bk.od {w : World} {b g N k : Nat} {l : List Nat} (hb : Bk w g 23 (l.map W64)) (hg : b ≤ g) (hl : l.length = N) (hN : N ≤ 1099511627776) (hw : Wfb 4294967296 l) (hk : k ≤ N) (ht : k = 0 ∨ l.getD (k - 1) 0 ≠ 0) (hv : ∀ b, nb b (l.take k) = nb b l) :
    Own w b 23 1 (some ⟨g, 0, none⟩) k N ((db 4294967296 (nb 4294967296 l)).map W64) := by
  rw [db_take b32 hw (by omega) (hv _) ht]
  exact Own.mk_ hg hb hk (by rw [len_maxLen]; omega) (by rw [List.length_map, hl, Nat.mul_one]) (by rw [Nat.mul_one, List.map_take])
theorem od_rd {w : World} {b m k c : Nat} {A : Option Addr} (h : Own w b 23 1 A k c ((db 4294967296 m).map W64)) : Rd w A k c (db 4294967296 m) := h.rd (Wfb_db b32 m).wf
theorem od_len {w : World} {b m k c : Nat} {A : Option Addr} (h : Own w b 23 1 A k c ((db 4294967296 m).map W64)) : (db 4294967296 m).length = k := (od_rd h).len
/-- the powers: a list of lists, each in memory of the call's own -/
def Pows (w : World) (b Y N I : Nat) (vs : List Value) : Prop := vs.length = I ∧ ∀ q, q < I → ∃ A k c, vs.getD q undef = .slice A k c ∧ k ≤ N ∧ Own w b 23 1 A k c ((db 4294967296 (Y ^ 2 ^ q)).map W64)
theorem Pows.ext {w w' : World} {b Y N I : Nat} {vs : List Value} (h : Pows w b Y N I vs) (e : Ext w w') : Pows w' b Y N I vs := ⟨h.1, fun q hq => by
  obtain ⟨A, k, c, h1, h2, h3⟩ := h.2 q hq
  exact ⟨A, k, c, h1, h2, h3.ext e⟩⟩
theorem Pows.updO {w w' : World} {b Y N I lb n c : Nat} {vs us : List Value} {PA : Option Addr} (h : Pows w b Y N I vs) (ho : Own w lb 22 1 PA n c us) (x : UpdO PA w w') : Pows w' b Y N I vs := ⟨h.1, fun q hq => by
  obtain ⟨A, k, c, h1, h2, h3⟩ := h.2 q hq
  exact ⟨A, k, c, h1, h2, h3.updOT ho (by decide) x⟩⟩
theorem Pows.nil (w : World) (b Y N : Nat) : Pows w b Y N 0 [] := ⟨rfl, fun q hq => absurd hq (by omega)⟩
theorem Pows.snoc {w : World} {b Y N I k c : Nat} {A : Option Addr} {vs : List Value} (h : Pows w b Y N I vs) (hk : k ≤ N) (ho : Own w b 23 1 A k c ((db 4294967296 (Y ^ 2 ^ I)).map W64)) : Pows w b Y N (I + 1) (vs ++ [.slice A k c]) := by
  refine ⟨by rw [List.length_append, h.1]; rfl, fun q hq => ?_⟩
  by_cases e : q < I
  · obtain ⟨B, m, d, h1, h2, h3⟩ := h.2 q e
    exact ⟨B, m, d, by rw [List.getD_eq_getElem?_getD, List.getElem?_append_left (by rw [h.1]; exact e), ← List.getD_eq_getElem?_getD]; exact h1, h2, h3⟩
  · obtain rfl : q = I := by omega
    exact ⟨A, k, c, by rw [List.getD_eq_getElem?_getD, List.getElem?_append_right (by rw [h.1]; exact Nat.le_refl _), h.1, Nat.sub_self]; rfl, hk, ho⟩
theorem own_cell {w : World} {lb : Nat} {T : TypeId} {A : Option Addr} {n c : Nat} {vs : List Value} (h : Own w lb T 1 A n c vs) {i : Nat} (hi : i < n) : ∃ p, A.map (·.add (i * 1)) = some p ∧ w.cell? p = some (vs.getD i undef) := by
  obtain ⟨a, rfl, hc⟩ := h.rv.get i (by omega)
  exact ⟨a.add i, by rw [Nat.mul_one]; rfl, hc⟩
theorem sp_break {X Z x z : Nat} (hx : (db 4294967296 X).length = x) (hz : (db 4294967296 Z).length = z) (hZ : Z ≠ 0) (h : x < 2 * z - 1) : X < Z * Z := by
  have h1 : 0 < z := Nat.pos_of_ne_zero fun e => hZ ((len_db_zero b32).1 (by rw [hz, e]))
  have h2 : 4294967296 ^ (z - 1) ≤ Z := by
    refine Nat.le_of_not_lt fun e => ?_
    have := len_db_le b32 e
    omega
  have h3 := Nat.mul_le_mul h2 h2
  rw [← Nat.pow_add] at h3
  have h4 := lt_pow_len_db b32 X
  rw [hx] at h4
  have h5 : 4294967296 ^ x ≤ 4294967296 ^ (z - 1 + (z - 1)) := Nat.pow_le_pow_right (by decide) (by omega)
  omega
theorem sp_I {X Y Z I : Nat} (hY : 2 ≤ Y) (hZ : Z = Y ^ 2 ^ I) (h : Z ≤ X) : I < blen X := by
  have h1 := Nat.lt_two_pow_self (n := I)
  have h2 : 2 ^ 2 ^ I ≤ Z := by rw [hZ]; exact Nat.pow_le_pow_left hY _
  refine Nat.lt_of_not_le fun e => ?_
  have h3 : 2 ^ blen X ≤ 2 ^ 2 ^ I := Nat.pow_le_pow_right (by decide) (by omega)
  have h4 := lt_blen X
  omega
theorem one_news3 {w : World} {g : Nat} {T : TypeId} (v : Value) (h : Bk w g T [v]) : ∀ j u, [v][j]? = some u → w.cell? ((⟨g, 0, none⟩ : Addr).add j) = some u := by
  intro j u hj
  have hjl := (List.getElem?_eq_some_iff.1 hj).1
  rw [add_lit0, Nat.zero_add, h.cell hjl, List.getD_eq_getElem?_getD, hj]; rfl
theorem sp_bound {X Y L n I : Nat} (hX : X ≠ 0) (hY : 2 ≤ Y) (h : L * Y ^ (n * 2 ^ I) = X) : n ≤ blen X := by
  have h1 := strip_le hX hY h
  have h2 : n * 1 ≤ n * 2 ^ I := Nat.mul_le_mul_left n (Nat.two_pow_pos I)
  omega
theorem sp_one {Y : Nat} (h : Y ≠ 0) (hn : (db 4294967296 Y).length = 1) : Y < 4294967296 ∧ (db 4294967296 Y).getD 0 0 = Y := by
  have h1 := lt_pow_len_db b32 Y
  rw [hn, Nat.pow_one] at h1
  exact ⟨h1, by rw [db_small h h1]; rfl⟩
theorem sp_yes {L Y n j X : Nat} (h : L * Y ^ (n * 2 ^ (j + 1)) = X) (hd : L % Y ^ 2 ^ j = 0) : L / Y ^ 2 ^ j * Y ^ ((2 * n + 1) * 2 ^ j) = X := by
  have := strip_step h hd
  rw [show (2 * n + 1) * 2 ^ j = n * 2 ^ (j + 1) + 2 ^ j by rw [Nat.pow_succ]; grind]
  exact this
theorem sp_no {L Y n j X : Nat} (h : L * Y ^ (n * 2 ^ (j + 1)) = X) : L * Y ^ (2 * n * 2 ^ j) = X := by
  rw [show 2 * n * 2 ^ j = n * 2 ^ (j + 1) by rw [Nat.pow_succ]; grind]
  exact h
set_option maxHeartbeats 4000000 in
theorem ref3_halvesO {w : World} {A : Option Addr} {n cap : Nat} {xs : List Nat} (hx : Rd w A n cap xs) (hln : n ≤ 274877906944) :
    Calls Try.prog 82 #[.slice A n cap] w (Gv w (OD w.heap.size (nv xs))) := by
  have hlen := hx.len
  have hle := hx.rv.le
  refine sx_enter Try.func82 rfl (n := 38) rfl (Nat.le_of_ble_eq_true rfl) (args := [.slice A n cap]) ?_
  refine cw_keep [(0, .slice A n cap)] ⟨rfl, trivial⟩ ?_
  refine cw_seq ?_
  refine cw_region ?_
  refine wl_assign rfl rfl (by decide) ?_
  refine wl_nil ?_
  refine eo_then ?_
  refine cw_seq ?_
  refine cw_region ?_
  refine wl_move rfl rfl (by decide) ?_
  refine wl_call rfl rfl (vs := [.slice A n cap]) (by kernel_rfl) (by decide) (ref3_Trim hx (by omega)) ?_
  rintro _ v1 ⟨xr3, rfl, r3, e2⟩
  refine ret_intro ?_
  have hw1 : Ext w v1 := (Ext.refl w).trans e2
  obtain ⟨k4, rfl, hk4, ht4, hv4⟩ := r3
  have rd4 := ((hx.ext e2)).take hk4 (by omega) (Nat.le_refl _)
  refine wl_assign rfl rfl (by decide) ?_
  refine wl_nil ?_
  refine eo_then ?_
  refine cw_seq ?_
  obtain ⟨ys, hys⟩ : ∃ ys, xs.take k4 = ys := ⟨_, rfl⟩
  have hvy : nv ys = nv xs := by rw [← hys, nv_nb, nv_nb]; exact hv4 _
  rw [hys] at rd4
  have hly := rd4.len
  refine cw_region ?_
  refine wl_move rfl rfl (by decide) ?_
  refine wl_pure rfl rfl (v := .int .i64 ((k4 : Nat) : Int)) (by decide) (by kernel_rfl) ?_
  refine wl_ar rfl rfl rfl ((2 * k4 : Nat) : Int) (ai_mul (a := 2) (b := k4) rfl rfl (by omega)) (by decide) ?_
  refine wl_make rfl (k := 2 * k4) rfl rfl rfl un_u64 info64 rfl (by decide) (by omega) (by decide) fun g5 v6 hg7 hb8 e9 => ?_
  rw [replicate_W64] at hb8
  have ge10 : w.heap.size ≤ g5 := by rw [← hg7]; exact hw1.size
  have ne12 : 0 < cap → ∀ a, A = some a → a.block ≠ g5 := fun hc a ha => by have := (rd4).rv.blk a ha hc; omega
  clear hg7
  have hw2 : Ext w v6 := hw1.trans e9
  refine wl_assign rfl rfl (by decide) ?_
  refine wl_nil ?_
  refine eo_then ?_
  refine cw_seq ?_
  refine cw_seq ?_
  refine cw_region ?_
  refine wl_assign rfl rfl (by decide) ?_
  refine wl_nil ?_
  refine eo_then ?_
  refine cw_block ?_
  refine cw_loop (T := World × Nat × List Nat)
    (fun ⟨wr, i, l⟩ => [(0, .slice A k4 cap), (3, .slice (some ⟨g5, 0, none⟩) (2 * k4) (2 * k4)), (4, .int .i64 ((i : Nat) : Int))])
    (fun ⟨wr, i, l⟩ => wr)
    (fun ⟨wr, i, l⟩ => (Ext w wr) ∧ (i ≤ k4) ∧ (Bk wr g5 23 (l.map W64)) ∧ (l.length = 2 * k4) ∧ (Wfb 4294967296 l) ∧ (nb 4294967296 (l.take (2 * i)) = nv (ys.take i)) ∧ (Rd wr A k4 cap ys))
    (fun ⟨wr, i, l⟩ => k4 - i)
    (⟨v6, 0, _⟩ : World × Nat × List Nat) ⟨hw2, Nat.zero_le _, hb8, (List.length_replicate (n := 2 * k4) (a := 0)), Wfb_zeros (by decide) _, by simp [nb, nv], (rd4.ext e9)⟩ rfl ⟨rfl, rfl, rfl, trivial⟩ ?_
  rintro ⟨wr, i, l⟩ ⟨hw1, hi, hb, hl, hwf, hv, rl0⟩
  refine cw_re [(0, .slice A k4 cap), (3, .slice (some ⟨g5, 0, none⟩) (2 * k4) (2 * k4)), (4, .int .i64 ((i : Nat) : Int))] wr rfl ⟨rfl, rfl, rfl, trivial⟩ ?_
  refine cw_seq ?_
  refine cw_seq ?_
  by_cases him : i < k4
  ·
    refine cw_region ?_
    refine wl_move rfl rfl (by decide) ?_
    refine wl_move rfl rfl (by decide) ?_
    refine wl_pure rfl rfl (v := .int .i64 ((k4 : Nat) : Int)) (by decide) (by kernel_rfl) ?_
    refine wl_cmp rfl rfl rfl true (cb_lt_t (a := i) (b := k4) rfl rfl (by omega)) (by decide) ?_
    refine wl_nil ?_
    refine eo_then ?_
    refine cw_true rfl ?_
    refine cw_skip ?_
    refine eo_then ?_
    refine cw_seq ?_
    refine cw_block ?_
    refine cw_seq ?_
    have hxb : ys.getD i 0 ≤ 18446744073709551615 := by have := Wf_getD rd4.wf i; rw [WB_def] at this; omega
    refine cw_region ?_
    refine wl_move rfl rfl (by decide) ?_
    refine wl_move rfl rfl (by decide) ?_
    refine wl_ar rfl rfl rfl ((2 * i : Nat) : Int) (ai_mul (a := 2) (b := i) rfl rfl (by omega)) (by decide) ?_
    refine wl_move rfl rfl (by decide) ?_
    refine wl_move rfl rfl (by decide) ?_
    obtain ⟨p13, hp13, hc13, hv13⟩ := (rl0).at (i := i) (by omega)
    refine wl_idx rfl rfl rfl un_u64 sz_u64 i rfl (by omega) p13 hp13 (by decide) ?_
    refine wl_load rfl rfl (load_cell1 ag_u64 hc13) (by decide) ?_
    refine wl_ar rfl rfl rfl (((ys.getD i 0) % 4294967296 : Nat) : Int) (au_rem (a := ys.getD i 0) (b := 4294967296) rfl rfl (by omega)) (by decide) ?_
    refine wl_idx rfl rfl rfl un_u64 sz_u64 (2 * i) rfl (by omega) ⟨g5, 2 * i, none⟩ (arr_at _ _) (by decide) ?_
    have hb15 := hb
    refine wl_stored1 rfl rfl rfl sz_u64 rfl hb15 (len_map (by rw [hl]; omega)) rfl ((l.set (2 * i) ((ys.getD i 0) % 4294967296)).map W64) (map_W64_set _ _ _) fun v14 hb16 u17 hs18 => ?_
    have hw2 : Ext w v14 := u17.ext hw1 ge10
    refine wl_nil ?_
    refine eo_then ?_
    refine cw_region ?_
    refine wl_move rfl rfl (by decide) ?_
    refine wl_move rfl rfl (by decide) ?_
    refine wl_ar rfl rfl rfl ((2 * i : Nat) : Int) (ai_mul (a := 2) (b := i) rfl rfl (by omega)) (by decide) ?_
    refine wl_ar rfl rfl rfl (((2 * i) + 1 : Nat) : Int) (ai_add (a := 2 * i) (b := 1) rfl rfl (by omega)) (by decide) ?_
    refine wl_move rfl rfl (by decide) ?_
    refine wl_move rfl rfl (by decide) ?_
    obtain ⟨p19, hp19, hc19, hv19⟩ := ((Rd.updL rl0 u17 ne12)).at (i := i) (by omega)
    refine wl_idx rfl rfl rfl un_u64 sz_u64 i rfl (by omega) p19 hp19 (by decide) ?_
    refine wl_load rfl rfl (load_cell1 ag_u64 hc19) (by decide) ?_
    refine wl_ar rfl rfl rfl (((ys.getD i 0) / 4294967296 : Nat) : Int) (au_quo (a := ys.getD i 0) (b := 4294967296) rfl rfl (by omega) (by omega)) (by decide) ?_
    refine wl_idx rfl rfl rfl un_u64 sz_u64 ((2 * i) + 1) rfl (by omega) ⟨g5, (2 * i) + 1, none⟩ (arr_at _ _) (by decide) ?_
    have hb21 := hb16
    refine wl_stored1 rfl rfl rfl sz_u64 rfl hb21 (len_map (by rw [(len_set (l := l) (hl))]; omega)) rfl (((l.set (2 * i) ((ys.getD i 0) % 4294967296)).set ((2 * i) + 1) ((ys.getD i 0) / 4294967296)).map W64) (map_W64_set _ _ _) fun v20 hb22 u23 hs24 => ?_
    have hw3 : Ext w v20 := u23.ext hw2 ge10
    refine wl_nil ?_
    refine eo_block_normal ?_
    refine eo_then ?_
    refine cw_region ?_
    refine wl_move rfl rfl (by decide) ?_
    refine wl_ar rfl rfl rfl ((i + 1 : Nat) : Int) (ai_add (a := i) (b := 1) rfl rfl (by omega)) (by decide) ?_
    refine wl_assign rfl rfl (by decide) ?_
    refine wl_nil ?_
    refine eo_round (⟨v20, i + 1, _⟩ : World × Nat × List Nat) ⟨hw3, (by omega), hb22, (len_set (l := l.set (2 * i) ((ys.getD i 0) % 4294967296)) ((len_set (l := l) (hl)))), Wfb_set (Wfb_set hwf _ (Nat.mod_lt _ (by decide))) _ (by omega), halves_step3 (by omega) (by omega) rfl hv, (Rd.updL (Rd.updL rl0 u17 ne12) u23 ne12)⟩ (show k4 - (i + 1) < k4 - i by omega) rfl ⟨rfl, rfl, rfl, trivial⟩
  ·
    refine cw_region ?_
    refine wl_move rfl rfl (by decide) ?_
    refine wl_move rfl rfl (by decide) ?_
    refine wl_pure rfl rfl (v := .int .i64 ((k4 : Nat) : Int)) (by decide) (by kernel_rfl) ?_
    refine wl_cmp rfl rfl rfl false (cb_lt_f (a := i) (b := k4) rfl rfl (by omega)) (by decide) ?_
    refine wl_nil ?_
    refine eo_then ?_
    refine cw_false rfl ?_
    refine cw_exit ?_
    refine eo_thenX ?_
    refine eo_loopX ?_
    refine eo_block_here ?_
    refine eo_then ?_
    refine cw_seq ?_
    obtain rfl : k4 = i := by omega
    have hval : nb 4294967296 l = nv xs := by rw [← hvy]; rwa [List.take_of_length_le (by omega), List.take_of_length_le (by omega)] at hv
    refine cw_region ?_
    refine wl_move rfl rfl (by decide) ?_
    refine wl_call rfl rfl (vs := [.slice (some ⟨g5, 0, none⟩) (2 * k4) (2 * k4)]) (by kernel_rfl) (by decide) (ref3_Trim (hb.rd0 hwf.wf hl (by omega)) (by omega)) ?_
    rintro _ v25 ⟨xr27, rfl, r27, e26⟩
    refine ret_intro ?_
    have hw2 : Ext w v25 := hw1.trans e26
    obtain ⟨k28, rfl, hk28, ht28, hv28⟩ := r27
    refine wl_assign rfl rfl (by decide) ?_
    refine wl_nil ?_
    refine eo_then ?_
    refine cw_ret ?_
    refine eo_ret [.slice (some ⟨g5, 0, none⟩) k28 (2 * k4)] rfl ⟨rfl, trivial⟩ ?_
    have hr := Bk.od (b := w.heap.size) (hb.ext e26) ge10 hl (by omega) hwf hk28 ht28 hv28
    rw [hval] at hr
    exact ⟨_, rfl, ⟨_, _, _, rfl, hr⟩, hw2⟩
set_option maxHeartbeats 4000000 in
theorem ref3_timesOL {w : World} {A D : Option Addr} {n cap m cd : Nat} {xs es : List Nat} (hx : Rd w A n cap xs) (hln : n ≤ 274877906944) (hy : Rd w D m cd es) (hlm : m ≤ 274877906944) (hwx : Wfb 4294967296 xs) (hwe : Wfb 4294967296 es) :
    Calls Try.prog 89 #[.slice A n cap, .slice D m cd] w (Gv w (OD w.heap.size (nb 4294967296 xs * nb 4294967296 es))) := by
  have hlen := hx.len
  have hle2 := hy.len
  refine sx_enter Try.func89 rfl (n := 64) rfl (Nat.le_of_ble_eq_true rfl) (args := [.slice A n cap, .slice D m cd]) ?_
  refine cw_keep [(0, .slice A n cap), (1, .slice D m cd)] ⟨rfl, rfl, trivial⟩ ?_
  refine cw_seq ?_
  refine cw_region ?_
  refine wl_assign rfl rfl (by decide) ?_
  refine wl_nil ?_
  refine eo_then ?_
  refine cw_seq ?_
  refine cw_region ?_
  refine wl_move rfl rfl (by decide) ?_
  refine wl_pure rfl rfl (v := .int .i64 ((n : Nat) : Int)) (by decide) (by kernel_rfl) ?_
  refine wl_move rfl rfl (by decide) ?_
  refine wl_pure rfl rfl (v := .int .i64 ((m : Nat) : Int)) (by decide) (by kernel_rfl) ?_
  refine wl_ar rfl rfl rfl ((n + m : Nat) : Int) (ai_add (a := n) (b := m) rfl rfl (by omega)) (by decide) ?_
  refine wl_make rfl (k := n + m) rfl rfl rfl un_u64 info64 rfl (by decide) (by omega) (by decide) fun g1 v2 hg3 hb4 e5 => ?_
  rw [replicate_W64] at hb4
  have ge6 : w.heap.size ≤ g1 := by rw [← hg3]; exact (Ext.refl w).size
  have ne8 : 0 < cap → ∀ a, A = some a → a.block ≠ g1 := fun hc a ha => by have := (hx).rv.blk a ha hc; omega
  have ne9 : 0 < cd → ∀ a, D = some a → a.block ≠ g1 := fun hc a ha => by have := (hy).rv.blk a ha hc; omega
  clear hg3
  have hw1 : Ext w v2 := (Ext.refl w).trans e5
  refine wl_assign rfl rfl (by decide) ?_
  refine wl_nil ?_
  refine eo_then ?_
  refine cw_seq ?_
  refine cw_seq ?_
  refine cw_region ?_
  refine wl_assign rfl rfl (by decide) ?_
  refine wl_nil ?_
  refine eo_then ?_
  refine cw_block ?_
  refine cw_loop (T := World × Nat × List Nat)
    (fun ⟨wr, i, l⟩ => [(0, .slice A n cap), (1, .slice D m cd), (5, .slice (some ⟨g1, 0, none⟩) (n + m) (n + m)), (6, .int .i64 ((i : Nat) : Int))])
    (fun ⟨wr, i, l⟩ => wr)
    (fun ⟨wr, i, l⟩ => (Ext w wr) ∧ (i ≤ n) ∧ (Bk wr g1 23 (l.map W64)) ∧ (l.length = n + m) ∧ (Wfb 4294967296 l) ∧ (∀ j, i + m ≤ j → l.getD j 0 = 0) ∧ (nb 4294967296 l = nb 4294967296 (xs.take i) * nb 4294967296 es) ∧ (Rd wr A n cap xs) ∧ (Rd wr D m cd es))
    (fun ⟨wr, i, l⟩ => n - i)
    (⟨v2, 0, _⟩ : World × Nat × List Nat) ⟨hw1, (Nat.zero_le _), hb4, (List.length_replicate (n := n + m) (a := 0)), (Wfb_zeros (by decide) _), (fun j _ => getD_zeros _ j), (by rw [List.take_zero, nb_nil, nb_zeros, Nat.zero_mul]), (hx.ext e5), (hy.ext e5)⟩ rfl ⟨rfl, rfl, rfl, rfl, trivial⟩ ?_
  rintro ⟨wr, i, l⟩ ⟨hw1, hi, hb, hl, hwf, hz, hv, rl0, rl1⟩
  refine cw_re [(0, .slice A n cap), (1, .slice D m cd), (5, .slice (some ⟨g1, 0, none⟩) (n + m) (n + m)), (6, .int .i64 ((i : Nat) : Int))] wr rfl ⟨rfl, rfl, rfl, rfl, trivial⟩ ?_
  refine cw_seq ?_
  refine cw_seq ?_
  by_cases hin : i < n
  ·
    refine cw_region ?_
    refine wl_move rfl rfl (by decide) ?_
    refine wl_move rfl rfl (by decide) ?_
    refine wl_pure rfl rfl (v := .int .i64 ((n : Nat) : Int)) (by decide) (by kernel_rfl) ?_
    refine wl_cmp rfl rfl rfl true (cb_lt_t (a := i) (b := n) rfl rfl (by omega)) (by decide) ?_
    refine wl_nil ?_
    refine eo_then ?_
    refine cw_true rfl ?_
    refine cw_skip ?_
    refine eo_then ?_
    refine cw_seq ?_
    refine cw_block ?_
    refine cw_seq ?_
    refine cw_region ?_
    refine wl_assign rfl rfl (by decide) ?_
    refine wl_nil ?_
    refine eo_then ?_
    refine cw_seq ?_
    refine cw_seq ?_
    refine cw_region ?_
    refine wl_assign rfl rfl (by decide) ?_
    refine wl_nil ?_
    refine eo_then ?_
    refine cw_block ?_
    refine cw_loop (T := World × Nat × Nat × List Nat)
      (fun ⟨wr2, j, c, l2⟩ => [(0, .slice A n cap), (1, .slice D m cd), (5, .slice (some ⟨g1, 0, none⟩) (n + m) (n + m)), (6, .int .i64 ((i : Nat) : Int)), (7, .int .u64 ((c : Nat) : Int)), (8, .int .i64 ((j : Nat) : Int))])
      (fun ⟨wr2, j, c, l2⟩ => wr2)
      (fun ⟨wr2, j, c, l2⟩ => (Ext w wr2) ∧ (j ≤ m) ∧ (c ≤ 4294967295) ∧ (Bk wr2 g1 23 (l2.map W64)) ∧ (l2.length = n + m) ∧ (Wfb 4294967296 l2) ∧ (∀ q, i + m ≤ q → l2.getD q 0 = 0) ∧ (nb 4294967296 l2 + 4294967296 ^ (i + j) * c = nb 4294967296 (xs.take i) * nb 4294967296 es + xs.getD i 0 * nb 4294967296 (es.take j) * 4294967296 ^ i) ∧ (Rd wr2 A n cap xs) ∧ (Rd wr2 D m cd es))
      (fun ⟨wr2, j, c, l2⟩ => m - j)
      (⟨wr, 0, 0, _⟩ : World × Nat × Nat × List Nat) ⟨hw1, (Nat.zero_le _), (Nat.zero_le _), hb, hl, hwf, hz, (by rw [hv, List.take_zero, nb_nil, Nat.mul_zero, Nat.mul_zero, Nat.zero_mul]), rl0, rl1⟩ rfl ⟨rfl, rfl, rfl, rfl, rfl, rfl, trivial⟩ ?_
    rintro ⟨wr2, j, c, l2⟩ ⟨hw1, hj, hc, hb2, hl2, hwf2, hz2, hv2, rl0, rl1⟩
    refine cw_re [(0, .slice A n cap), (1, .slice D m cd), (5, .slice (some ⟨g1, 0, none⟩) (n + m) (n + m)), (6, .int .i64 ((i : Nat) : Int)), (7, .int .u64 ((c : Nat) : Int)), (8, .int .i64 ((j : Nat) : Int))] wr2 rfl ⟨rfl, rfl, rfl, rfl, rfl, rfl, trivial⟩ ?_
    refine cw_seq ?_
    refine cw_seq ?_
    by_cases hjm : j < m
    ·
      refine cw_region ?_
      refine wl_move rfl rfl (by decide) ?_
      refine wl_move rfl rfl (by decide) ?_
      refine wl_pure rfl rfl (v := .int .i64 ((m : Nat) : Int)) (by decide) (by kernel_rfl) ?_
      refine wl_cmp rfl rfl rfl true (cb_lt_t (a := j) (b := m) rfl rfl (by omega)) (by decide) ?_
      refine wl_nil ?_
      refine eo_then ?_
      refine cw_true rfl ?_
      refine cw_skip ?_
      refine eo_then ?_
      refine cw_seq ?_
      refine cw_block ?_
      refine cw_seq ?_
      have hxb := Wfb_getD (b := 4294967296) (by decide) hwx i
      have hyb := Wfb_getD (b := 4294967296) (by decide) hwe j
      have hlb := Wfb_getD (b := 4294967296) (by decide) hwf2 (i + j)
      have hm : (xs.getD i 0) * (es.getD j 0) ≤ 4294967295 * 4294967295 := Nat.mul_le_mul (by omega) (by omega)
      refine cw_keep [(0, .slice A n cap), (1, .slice D m cd), (5, .slice (some ⟨g1, 0, none⟩) (n + m) (n + m)), (6, .int .i64 ((i : Nat) : Int)), (7, .int .u64 ((c : Nat) : Int)), (8, .int .i64 ((j : Nat) : Int)), (22, .int .i64 ((j : Nat) : Int)), (23, .slice D m cd), (24, .int .i64 ((m : Nat) : Int)), (25, .bool true)] ⟨rfl, rfl, rfl, rfl, rfl, rfl, rfl, rfl, rfl, rfl, trivial⟩ ?_
      obtain ⟨v10, hv, e11⟩ : ∃ v, v = wr2.drew ∧ Ext wr2 v := ⟨_, rfl, (Ext.refl _).drew⟩
      have hw2 : Ext w v10 := hw1.trans e11
      obtain ⟨p12, hp12, hc12, hv12⟩ := ((rl0.ext e11)).at (i := i) (by omega)
      obtain ⟨p13, hp13, hc13, hv13⟩ := ((rl1.ext e11)).at (i := j) (by omega)
      refine cw_det mix (w := v10) [.slice A n cap, .int .i64 ((i : Nat) : Int), .pointer (some p12), .int .u64 ((xs.getD i 0 : Nat) : Int), .slice D m cd, .int .i64 ((j : Nat) : Int), .pointer (some p13), .int .u64 ((es.getD j 0 : Nat) : Int), .int .u64 (((xs.getD i 0) * (es.getD j 0) : Nat) : Int), .slice (some ⟨g1, 0, none⟩) (n + m) (n + m), .int .i64 ((i : Nat) : Int), .int .i64 ((j : Nat) : Int), .int .i64 ((i + j : Nat) : Int), .pointer (some (⟨g1, i + j, none⟩)), .int .u64 ((l2.getD (i + j) 0 : Nat) : Int), .int .u64 ((((xs.getD i 0) * (es.getD j 0)) + (l2.getD (i + j) 0) : Nat) : Int), .int .u64 ((c : Nat) : Int), .int .u64 (((((xs.getD i 0) * (es.getD j 0)) + (l2.getD (i + j) 0)) + c : Nat) : Int), .int .u64 (((((xs.getD i 0) * (es.getD j 0)) + (l2.getD (i + j) 0)) + c : Nat) : Int)] [v10] [] [[], [], [0, 1], [2], [], [], [4, 5], [6], [3, 7], [], [], [], [10, 11], [9, 12], [13], [8, 14], [], [15, 16], [17]] [[], [], [0, 1], [0, 1, 2], [], [], [4, 5], [4, 5, 6], [0, 1, 2, 3, 4, 5, 6, 7], [], [], [], [10, 11], [9, 10, 11, 12], [9, 10, 11, 12, 13], [0, 1, 2, 3, 4, 5, 6, 7, 8, 9, 10, 11, 12, 13, 14], [], [0, 1, 2, 3, 4, 5, 6, 7, 8, 9, 10, 11, 12, 13, 14, 15, 16], [0, 1, 2, 3, 4, 5, 6, 7, 8, 9, 10, 11, 12, 13, 14, 15, 16, 17]] [(0, 0), (1, 0), (2, 0), (3, 0), (4, 0), (5, 0), (6, 0), (7, 0), (8, 0), (9, 0), (10, 0), (11, 0), (12, 0), (13, 0), (14, 0), (15, 0), (16, 0), (17, 0), (18, 0)] rfl hv ?_ ?_
      ·
        refine dobs_val _ rfl rfl rfl rfl rfl (rd_move rfl) ?_
        refine dobs_val _ rfl rfl rfl rfl rfl (rd_move rfl) ?_
        refine dobs_val _ rfl rfl rfl rfl rfl (rd_idx rfl rfl un_u64 sz_u64 i rfl (by omega) p12 hp12) ?_
        refine dobs_val _ rfl rfl rfl rfl rfl (rd_load rfl (load_cell1 ag_u64 hc12)) ?_
        refine dobs_val _ rfl rfl rfl rfl rfl (rd_move rfl) ?_
        refine dobs_val _ rfl rfl rfl rfl rfl (rd_move rfl) ?_
        refine dobs_val _ rfl rfl rfl rfl rfl (rd_idx rfl rfl un_u64 sz_u64 j rfl (by omega) p13 hp13) ?_
        refine dobs_val _ rfl rfl rfl rfl rfl (rd_load rfl (load_cell1 ag_u64 hc13)) ?_
        refine dobs_val _ rfl rfl rfl rfl rfl (rd_ar rfl rfl (((xs.getD i 0) * (es.getD j 0) : Nat) : Int) (au_mul (a := xs.getD i 0) (b := es.getD j 0) rfl rfl (by omega))) ?_
        refine dobs_val _ rfl rfl rfl rfl rfl (rd_move rfl) ?_
        refine dobs_val _ rfl rfl rfl rfl rfl (rd_move rfl) ?_
        refine dobs_val _ rfl rfl rfl rfl rfl (rd_move rfl) ?_
        refine dobs_val _ rfl rfl rfl rfl rfl (rd_ar rfl rfl ((i + j : Nat) : Int) (ai_add (a := i) (b := j) rfl rfl (by omega))) ?_
        refine dobs_val _ rfl rfl rfl rfl rfl (rd_idx rfl rfl un_u64 sz_u64 (i + j) rfl (by omega) ⟨g1, i + j, none⟩ (arr_at _ _)) ?_
        refine dobs_val _ rfl rfl rfl rfl rfl (rd_load rfl (load_word ag_u64 (hb2.ext e11) (by rw [hl2]; omega))) ?_
        refine dobs_val _ rfl rfl rfl rfl rfl (rd_ar rfl rfl ((((xs.getD i 0) * (es.getD j 0)) + (l2.getD (i + j) 0) : Nat) : Int) (au_add (a := (xs.getD i 0) * (es.getD j 0)) (b := l2.getD (i + j) 0) rfl rfl (by omega))) ?_
        refine dobs_val _ rfl rfl rfl rfl rfl (rd_move rfl) ?_
        refine dobs_val _ rfl rfl rfl rfl rfl (rd_ar rfl rfl (((((xs.getD i 0) * (es.getD j 0)) + (l2.getD (i + j) 0)) + c : Nat) : Int) (au_add (a := ((xs.getD i 0) * (es.getD j 0)) + (l2.getD (i + j) 0)) (b := c) rfl rfl (by omega))) ?_
        refine dobs_val _ rfl rfl rfl rfl rfl (rd_assign rfl) ?_
        exact dobs_nil
      clear hv
      refine eo_keep [(0, .slice A n cap), (1, .slice D m cd), (5, .slice (some ⟨g1, 0, none⟩) (n + m) (n + m)), (6, .int .i64 ((i : Nat) : Int)), (7, .int .u64 ((c : Nat) : Int)), (8, .int .i64 ((j : Nat) : Int)), (22, .int .i64 ((j : Nat) : Int)), (23, .slice D m cd), (24, .int .i64 ((m : Nat) : Int)), (25, .bool true), (28, .slice A n cap), (29, .int .i64 ((i : Nat) : Int)), (30, .pointer (some p12)), (31, .int .u64 ((xs.getD i 0 : Nat) : Int)), (32, .slice D m cd), (33, .int .i64 ((j : Nat) : Int)), (34, .pointer (some p13)), (35, .int .u64 ((es.getD j 0 : Nat) : Int)), (36, .int .u64 (((xs.getD i 0) * (es.getD j 0) : Nat) : Int)), (37, .slice (some ⟨g1, 0, none⟩) (n + m) (n + m)), (38, .int .i64 ((i : Nat) : Int)), (39, .int .i64 ((j : Nat) : Int)), (40, .int .i64 ((i + j : Nat) : Int)), (41, .pointer (some (⟨g1, i + j, none⟩))), (42, .int .u64 ((l2.getD (i + j) 0 : Nat) : Int)), (43, .int .u64 ((((xs.getD i 0) * (es.getD j 0)) + (l2.getD (i + j) 0) : Nat) : Int)), (44, .int .u64 ((c : Nat) : Int)), (45, .int .u64 (((((xs.getD i 0) * (es.getD j 0)) + (l2.getD (i + j) 0)) + c : Nat) : Int)), (9, .int .u64 (((((xs.getD i 0) * (es.getD j 0)) + (l2.getD (i + j) 0)) + c : Nat) : Int))] ⟨rfl, rfl, rfl, rfl, rfl, rfl, rfl, rfl, rfl, rfl, rfl, rfl, rfl, rfl, rfl, rfl, rfl, rfl, rfl, rfl, rfl, rfl, rfl, rfl, rfl, rfl, rfl, rfl, rfl, trivial⟩ ?_
      refine eo_then ?_
      refine cw_seq ?_
      refine cw_region ?_
      refine wl_move rfl rfl (by decide) ?_
      refine wl_move rfl rfl (by decide) ?_
      refine wl_move rfl rfl (by decide) ?_
      refine wl_ar rfl rfl rfl ((i + j : Nat) : Int) (ai_add (a := i) (b := j) rfl rfl (by omega)) (by decide) ?_
      refine wl_move rfl rfl (by decide) ?_
      refine wl_ar rfl rfl rfl ((((((xs.getD i 0) * (es.getD j 0)) + (l2.getD (i + j) 0)) + c) % 4294967296 : Nat) : Int) (au_rem (a := (((xs.getD i 0) * (es.getD j 0)) + (l2.getD (i + j) 0)) + c) (b := 4294967296) rfl rfl (by omega)) (by decide) ?_
      refine wl_idx rfl rfl rfl un_u64 sz_u64 (i + j) rfl (by omega) ⟨g1, i + j, none⟩ (arr_at _ _) (by decide) ?_
      have hb15 := (hb2.ext e11)
      refine wl_stored1 rfl rfl rfl sz_u64 rfl hb15 (len_map (by rw [hl2]; omega)) rfl ((l2.set (i + j) (((((xs.getD i 0) * (es.getD j 0)) + (l2.getD (i + j) 0)) + c) % 4294967296)).map W64) (map_W64_set _ _ _) fun v14 hb16 u17 hs18 => ?_
      have hw3 : Ext w v14 := u17.ext hw2 ge6
      refine wl_nil ?_
      refine eo_then ?_
      refine cw_region ?_
      refine wl_move rfl rfl (by decide) ?_
      refine wl_ar rfl rfl rfl ((((((xs.getD i 0) * (es.getD j 0)) + (l2.getD (i + j) 0)) + c) / 4294967296 : Nat) : Int) (au_quo (a := (((xs.getD i 0) * (es.getD j 0)) + (l2.getD (i + j) 0)) + c) (b := 4294967296) rfl rfl (by omega) (by omega)) (by decide) ?_
      refine wl_assign rfl rfl (by decide) ?_
      refine wl_nil ?_
      refine eo_block_normal ?_
      refine eo_then ?_
      refine cw_region ?_
      refine wl_move rfl rfl (by decide) ?_
      refine wl_ar rfl rfl rfl ((j + 1 : Nat) : Int) (ai_add (a := j) (b := 1) rfl rfl (by omega)) (by decide) ?_
      refine wl_assign rfl rfl (by decide) ?_
      refine wl_nil ?_
      refine eo_round (⟨v14, j + 1, _, _⟩ : World × Nat × Nat × List Nat) ⟨hw3, (by omega), (by omega), hb16, (len_set (l := l2) (hl2)), Wfb_set hwf2 _ (Nat.mod_lt _ (by decide)), (zero_set hz2 (by omega)), (times_in hv2 (by omega) (by omega) rfl rfl (Nat.mod_add_div _ _)), (Rd.updL (rl0.ext e11) u17 ne8), (Rd.updL (rl1.ext e11) u17 ne9)⟩ (show m - (j + 1) < m - j by omega) rfl ⟨rfl, rfl, rfl, rfl, rfl, rfl, trivial⟩
    ·
      have hjm2 : j = m := by omega
      rw [hjm2] at hv2
      refine cw_region ?_
      refine wl_move rfl rfl (by decide) ?_
      refine wl_move rfl rfl (by decide) ?_
      refine wl_pure rfl rfl (v := .int .i64 ((m : Nat) : Int)) (by decide) (by kernel_rfl) ?_
      refine wl_cmp rfl rfl rfl false (cb_lt_f (a := j) (b := m) rfl rfl (by omega)) (by decide) ?_
      refine wl_nil ?_
      refine eo_then ?_
      refine cw_false rfl ?_
      refine cw_exit ?_
      refine eo_thenX ?_
      refine eo_loopX ?_
      refine eo_block_here ?_
      refine eo_then ?_
      refine cw_region ?_
      refine wl_move rfl rfl (by decide) ?_
      refine wl_move rfl rfl (by decide) ?_
      refine wl_move rfl rfl (by decide) ?_
      refine wl_pure rfl rfl (v := .int .i64 ((m : Nat) : Int)) (by decide) (by kernel_rfl) ?_
      refine wl_ar rfl rfl rfl ((i + m : Nat) : Int) (ai_add (a := i) (b := m) rfl rfl (by omega)) (by decide) ?_
      refine wl_move rfl rfl (by decide) ?_
      refine wl_idx rfl rfl rfl un_u64 sz_u64 (i + m) rfl (by omega) ⟨g1, i + m, none⟩ (arr_at _ _) (by decide) ?_
      have hb20 := hb2
      refine wl_stored1 rfl rfl rfl sz_u64 rfl hb20 (len_map (by rw [hl2]; omega)) rfl ((l2.set (i + m) c).map W64) (map_W64_set _ _ _) fun v19 hb21 u22 hs23 => ?_
      have hw2 : Ext w v19 := u22.ext hw1 ge6
      refine wl_nil ?_
      refine eo_block_normal ?_
      refine eo_then ?_
      refine cw_region ?_
      refine wl_move rfl rfl (by decide) ?_
      refine wl_ar rfl rfl rfl ((i + 1 : Nat) : Int) (ai_add (a := i) (b := 1) rfl rfl (by omega)) (by decide) ?_
      refine wl_assign rfl rfl (by decide) ?_
      refine wl_nil ?_
      refine eo_round (⟨v19, i + 1, _⟩ : World × Nat × List Nat) ⟨hw2, (by omega), hb21, (len_set (l := l2) (hl2)), Wfb_set hwf2 _ (by omega), (zero_set (fun j hj => hz2 j (by omega)) (by omega)), (times_out hv2 (by omega) hle2 (by omega) rfl rfl (hz2 _ (Nat.le_refl _))), (Rd.updL rl0 u22 ne8), (Rd.updL rl1 u22 ne9)⟩ (show n - (i + 1) < n - i by omega) rfl ⟨rfl, rfl, rfl, rfl, trivial⟩
  ·
    refine cw_region ?_
    refine wl_move rfl rfl (by decide) ?_
    refine wl_move rfl rfl (by decide) ?_
    refine wl_pure rfl rfl (v := .int .i64 ((n : Nat) : Int)) (by decide) (by kernel_rfl) ?_
    refine wl_cmp rfl rfl rfl false (cb_lt_f (a := i) (b := n) rfl rfl (by omega)) (by decide) ?_
    refine wl_nil ?_
    refine eo_then ?_
    refine cw_false rfl ?_
    refine cw_exit ?_
    refine eo_thenX ?_
    refine eo_loopX ?_
    refine eo_block_here ?_
    refine eo_then ?_
    refine cw_seq ?_
    refine cw_region ?_
    refine wl_move rfl rfl (by decide) ?_
    refine wl_call rfl rfl (vs := [.slice (some ⟨g1, 0, none⟩) (n + m) (n + m)]) (by kernel_rfl) (by decide) (ref3_Trim (hb.rd0 hwf.wf hl (by omega)) (by omega)) ?_
    rintro _ v24 ⟨xr26, rfl, r26, e25⟩
    refine ret_intro ?_
    have hw2 : Ext w v24 := hw1.trans e25
    obtain ⟨k27, rfl, hk27, ht27, hv27⟩ := r26
    refine wl_assign rfl rfl (by decide) ?_
    refine wl_nil ?_
    refine eo_then ?_
    refine cw_ret ?_
    refine eo_ret [.slice (some ⟨g1, 0, none⟩) k27 (n + m)] rfl ⟨rfl, trivial⟩ ?_
    have hval : nb 4294967296 l = nb 4294967296 xs * nb 4294967296 es := by rw [hv, List.take_of_length_le (by omega)]
    have hr := Bk.od (b := w.heap.size) (hb.ext e25) ge6 hl (by omega) hwf hk27 ht27 hv27
    rw [hval] at hr
    exact ⟨_, rfl, ⟨_, _, _, rfl, hr⟩, hw2⟩
theorem OD.imp {b b' m : Nat} (h : b' ≤ b) : ∀ v w, OD b m v w → OD b' m v w := fun _ _ ⟨A, k, c, h1, h2⟩ => ⟨A, k, c, h1, h2.mono h⟩
theorem ref3_halvesO_ {w : World} {b : Nat} (hb : b ≤ w.heap.size) {A : Option Addr} {n cap : Nat} {xs : List Nat} (hx : Rd w A n cap xs) (hln : n ≤ 274877906944) :
    Calls Try.prog 82 #[.slice A n cap] w (Gv w (OD b (nv xs))) := (ref3_halvesO hx hln).mono (Gv.imp (OD.imp hb))
theorem ref3_timesO {w : World} {b : Nat} (hb : b ≤ w.heap.size) {A D : Option Addr} {n cap m cd X Y : Nat} (hx : Rd w A n cap (db 4294967296 X)) (hln : n ≤ 274877906944) (hy : Rd w D m cd (db 4294967296 Y)) (hlm : m ≤ 274877906944) :
    Calls Try.prog 89 #[.slice A n cap, .slice D m cd] w (Gv w (OD b (X * Y))) := by
  have h := ref3_timesOL hx hln hy hlm (Wfb_db b32 _) (Wfb_db b32 _)
  rw [nb_db b32, nb_db b32] at h
  exact h.mono (Gv.imp (OD.imp hb))
set_option maxHeartbeats 8000000 in
theorem ref3_Strip_bad {w : World} {A D : Option Addr} {n cap m cd X Y : Nat} {xs ys : List Nat} (hx : Rd w A n cap xs) (hln : n ≤ 268435456) (hy : Rd w D m cd ys) (hlm : m ≤ 268435456) (hX : nv xs = X) (hY : nv ys = Y) (hg : X = 0 ∨ Y < 2) :
    Calls Try.prog 61 #[.slice A n cap, .slice D m cd] w (Gv w (Is (.tuple #[.int .i64 0, .slice none 0 0, .int .i64 3]))) := by
  have hbx : blen X ≤ 17179869184 := by have h := blen_le (n := nv xs) (k := 64 * n) (by rw [Nat.pow_mul, ← WB_pow, ← hx.len]; exact nv_lt hx.wf); rw [hX] at h; omega
  refine sx_enter Try.func61 rfl (n := 87) rfl (Nat.le_of_ble_eq_true rfl) (args := [.slice A n cap, .slice D m cd]) ?_
  refine cw_keep [(0, .slice A n cap), (1, .slice D m cd)] ⟨rfl, rfl, trivial⟩ ?_
  refine cw_seq ?_
  refine cw_region ?_
  refine wl_assign rfl rfl (by decide) ?_
  refine wl_assign rfl rfl (by decide) ?_
  refine wl_assign rfl rfl (by decide) ?_
  refine wl_nil ?_
  refine eo_then ?_
  refine cw_seq ?_
  refine cw_region ?_
  refine wl_move rfl rfl (by decide) ?_
  refine wl_call rfl rfl (vs := [.slice A n cap]) (by kernel_rfl) (by decide) (by have h := ref3_halvesO_ (Ext.refl w).size hx (by omega); rw [hX] at h; exact h) ?_
  rintro _ v1 ⟨xr3, rfl, r3, e2⟩
  refine ret_intro ?_
  have hw1 : Ext w v1 := (Ext.refl w).trans e2
  obtain ⟨A4, n4, c4, rfl, od4⟩ := r3
  refine wl_assign rfl rfl (by decide) ?_
  refine wl_nil ?_
  refine eo_then ?_
  refine cw_seq ?_
  refine cw_region ?_
  refine wl_move rfl rfl (by decide) ?_
  refine wl_call rfl rfl (vs := [.slice D m cd]) (by kernel_rfl) (by decide) (by have h := ref3_halvesO_ hw1.size (hy.ext e2) (by omega); rw [hY] at h; exact h) ?_
  rintro _ v5 ⟨xr7, rfl, r7, e6⟩
  refine ret_intro ?_
  have hw2 : Ext w v5 := hw1.trans e6
  obtain ⟨A8, n8, c8, rfl, od8⟩ := r7
  refine wl_assign rfl rfl (by decide) ?_
  refine wl_nil ?_
  refine eo_then ?_
  refine cw_seq ?_
  refine cw_seq ?_
  have hlx := od_len (od4.ext e6)
  have hly := od_len od8
  have hlxn : n4 ≤ 2 * n := by have h := len_db32 hx.wf; rw [hx.len, hX] at h; omega
  have hlyn : n8 ≤ 2 * m := by have h := len_db32 hy.wf; rw [hy.len, hY] at h; omega
  by_cases hnx : n4 = 0
  ·
    refine cw_region ?_
    refine wl_move rfl rfl (by decide) ?_
    refine wl_pure rfl rfl (v := .int .i64 ((n4 : Nat) : Int)) (by decide) (by kernel_rfl) ?_
    refine wl_cmp rfl rfl rfl true (cb_eq_t (a := n4) (b := 0) rfl rfl (by omega)) (by decide) ?_
    refine wl_move rfl rfl (by decide) ?_
    refine wl_off rfl (by decide) ?_
    refine wl_off rfl (by decide) ?_
    refine wl_off rfl (by decide) ?_
    refine wl_pure rfl rfl (v := .bool true) (by decide) (by kernel_rfl) ?_
    refine wl_move rfl rfl (by decide) ?_
    refine wl_off rfl (by decide) ?_
    refine wl_off rfl (by decide) ?_
    refine wl_off rfl (by decide) ?_
    refine wl_off rfl (by decide) ?_
    refine wl_off rfl (by decide) ?_
    refine wl_off rfl (by decide) ?_
    refine wl_off rfl (by decide) ?_
    refine wl_off rfl (by decide) ?_
    refine wl_off rfl (by decide) ?_
    refine wl_pure rfl rfl (v := .bool true) (by decide) (by kernel_rfl) ?_
    refine wl_nil ?_
    refine eo_then ?_
    refine cw_true rfl ?_
    refine cw_seq ?_
    refine cw_region ?_
    refine wl_assign rfl rfl (by decide) ?_
    refine wl_assign rfl rfl (by decide) ?_
    refine wl_assign rfl rfl (by decide) ?_
    refine wl_nil ?_
    refine eo_then ?_
    refine cw_ret ?_
    refine eo_thenR ?_
    refine eo_ret [.int .i64 0, .slice none 0 0, .int .i64 3] rfl ⟨rfl, rfl, rfl, trivial⟩ ?_
    exact ⟨_, rfl, rfl, hw2⟩
  ·
    have hXz : X ≠ 0 := fun e => hnx (by rw [← hlx, e]; rfl)
    by_cases hny : n8 = 0
    ·
      refine cw_region ?_
      refine wl_move rfl rfl (by decide) ?_
      refine wl_pure rfl rfl (v := .int .i64 ((n4 : Nat) : Int)) (by decide) (by kernel_rfl) ?_
      refine wl_cmp rfl rfl rfl false (cb_eq_f (a := n4) (b := 0) rfl rfl (by omega)) (by decide) ?_
      refine wl_move rfl rfl (by decide) ?_
      refine wl_move rfl rfl (by decide) ?_
      refine wl_pure rfl rfl (v := .int .i64 ((n8 : Nat) : Int)) (by decide) (by kernel_rfl) ?_
      refine wl_cmp rfl rfl rfl true (cb_eq_t (a := n8) (b := 0) rfl rfl (by omega)) (by decide) ?_
      refine wl_pure rfl rfl (v := .bool true) (by decide) (by kernel_rfl) ?_
      refine wl_move rfl rfl (by decide) ?_
      refine wl_off rfl (by decide) ?_
      refine wl_off rfl (by decide) ?_
      refine wl_off rfl (by decide) ?_
      refine wl_off rfl (by decide) ?_
      refine wl_off rfl (by decide) ?_
      refine wl_off rfl (by decide) ?_
      refine wl_off rfl (by decide) ?_
      refine wl_off rfl (by decide) ?_
      refine wl_off rfl (by decide) ?_
      refine wl_pure rfl rfl (v := .bool true) (by decide) (by kernel_rfl) ?_
      refine wl_nil ?_
      refine eo_then ?_
      refine cw_true rfl ?_
      refine cw_seq ?_
      refine cw_region ?_
      refine wl_assign rfl rfl (by decide) ?_
      refine wl_assign rfl rfl (by decide) ?_
      refine wl_assign rfl rfl (by decide) ?_
      refine wl_nil ?_
      refine eo_then ?_
      refine cw_ret ?_
      refine eo_thenR ?_
      refine eo_ret [.int .i64 0, .slice none 0 0, .int .i64 3] rfl ⟨rfl, rfl, rfl, trivial⟩ ?_
      exact ⟨_, rfl, rfl, hw2⟩
    ·
      have hYz : Y ≠ 0 := fun e => hny (by rw [← hly, e]; rfl)
      by_cases hn1 : n8 = 1
      ·
        obtain ⟨hY32, hg0⟩ := sp_one hYz (by omega)
        by_cases hg1 : (db 4294967296 (Y)).getD 0 0 = 1
        ·
          refine cw_region ?_
          refine wl_move rfl rfl (by decide) ?_
          refine wl_pure rfl rfl (v := .int .i64 ((n4 : Nat) : Int)) (by decide) (by kernel_rfl) ?_
          refine wl_cmp rfl rfl rfl false (cb_eq_f (a := n4) (b := 0) rfl rfl (by omega)) (by decide) ?_
          refine wl_move rfl rfl (by decide) ?_
          refine wl_move rfl rfl (by decide) ?_
          refine wl_pure rfl rfl (v := .int .i64 ((n8 : Nat) : Int)) (by decide) (by kernel_rfl) ?_
          refine wl_cmp rfl rfl rfl false (cb_eq_f (a := n8) (b := 0) rfl rfl (by omega)) (by decide) ?_
          refine wl_pure rfl rfl (v := .bool false) (by decide) (by kernel_rfl) ?_
          refine wl_move rfl rfl (by decide) ?_
          refine wl_move rfl rfl (by decide) ?_
          refine wl_pure rfl rfl (v := .int .i64 ((n8 : Nat) : Int)) (by decide) (by kernel_rfl) ?_
          refine wl_cmp rfl rfl rfl true (cb_eq_t (a := n8) (b := 1) rfl rfl (by omega)) (by decide) ?_
          refine wl_move rfl rfl (by decide) ?_
          refine wl_move rfl rfl (by decide) ?_
          obtain ⟨p9, hp9, hc9, hv9⟩ := ((od_rd od8)).at (i := 0) (by omega)
          refine wl_idx rfl rfl rfl un_u64 sz_u64 0 rfl (by omega) p9 hp9 (by decide) ?_
          refine wl_load rfl rfl (load_cell1 ag_u64 hc9) (by decide) ?_
          refine wl_cmp rfl rfl rfl true (cb_eq_t (a := (db 4294967296 (Y)).getD 0 0) (b := 1) rfl rfl (by omega)) (by decide) ?_
          refine wl_pure rfl rfl (v := .bool true) (by decide) (by kernel_rfl) ?_
          refine wl_pure rfl rfl (v := .bool true) (by decide) (by kernel_rfl) ?_
          refine wl_nil ?_
          refine eo_then ?_
          refine cw_true rfl ?_
          refine cw_seq ?_
          refine cw_region ?_
          refine wl_assign rfl rfl (by decide) ?_
          refine wl_assign rfl rfl (by decide) ?_
          refine wl_assign rfl rfl (by decide) ?_
          refine wl_nil ?_
          refine eo_then ?_
          refine cw_ret ?_
          refine eo_thenR ?_
          refine eo_ret [.int .i64 0, .slice none 0 0, .int .i64 3] rfl ⟨rfl, rfl, rfl, trivial⟩ ?_
          exact ⟨_, rfl, rfl, hw2⟩
        ·
          have hY2 : 2 ≤ Y := (by omega)
          exact absurd hg (by omega)
      ·
        have hY2 : 2 ≤ Y := (by refine Nat.le_of_not_lt fun h => ?_; have h3 : Y = 1 := (by omega); exact hn1 (by rw [← hly, h3, db_one]; rfl))
        exact absurd hg (by omega)
set_option maxHeartbeats 8000000 in
theorem ref3_Strip {w : World} {A D : Option Addr} {n cap m cd X Y : Nat} {xs ys : List Nat} (hx : Rd w A n cap xs) (hln : n ≤ 268435456) (hy : Rd w D m cd ys) (hlm : m ≤ 268435456) (hX : nv xs = X) (hY : nv ys = Y) (hg : X ≠ 0 ∧ 2 ≤ Y) :
    Calls Try.prog 61 #[.slice A n cap, .slice D m cd] w (fun e w' => ∃ q L, L * Y ^ q = X ∧ L % Y ≠ 0 ∧ Gv w (T3 (Is (.int .i64 ((q : Nat) : Int))) (WR w.heap.size L) (Is (.int .i64 0))) e w') := by
  have hbx : blen X ≤ 17179869184 := by have h := blen_le (n := nv xs) (k := 64 * n) (by rw [Nat.pow_mul, ← WB_pow, ← hx.len]; exact nv_lt hx.wf); rw [hX] at h; omega
  refine sx_enter Try.func61 rfl (n := 87) rfl (Nat.le_of_ble_eq_true rfl) (args := [.slice A n cap, .slice D m cd]) ?_
  refine cw_keep [(0, .slice A n cap), (1, .slice D m cd)] ⟨rfl, rfl, trivial⟩ ?_
  refine cw_seq ?_
  refine cw_region ?_
  refine wl_assign rfl rfl (by decide) ?_
  refine wl_assign rfl rfl (by decide) ?_
  refine wl_assign rfl rfl (by decide) ?_
  refine wl_nil ?_
  refine eo_then ?_
  refine cw_seq ?_
  refine cw_region ?_
  refine wl_move rfl rfl (by decide) ?_
  refine wl_call rfl rfl (vs := [.slice A n cap]) (by kernel_rfl) (by decide) (by have h := ref3_halvesO_ (Ext.refl w).size hx (by omega); rw [hX] at h; exact h) ?_
  rintro _ v1 ⟨xr3, rfl, r3, e2⟩
  refine ret_intro ?_
  have hw1 : Ext w v1 := (Ext.refl w).trans e2
  obtain ⟨A4, n4, c4, rfl, od4⟩ := r3
  refine wl_assign rfl rfl (by decide) ?_
  refine wl_nil ?_
  refine eo_then ?_
  refine cw_seq ?_
  refine cw_region ?_
  refine wl_move rfl rfl (by decide) ?_
  refine wl_call rfl rfl (vs := [.slice D m cd]) (by kernel_rfl) (by decide) (by have h := ref3_halvesO_ hw1.size (hy.ext e2) (by omega); rw [hY] at h; exact h) ?_
  rintro _ v5 ⟨xr7, rfl, r7, e6⟩
  refine ret_intro ?_
  have hw2 : Ext w v5 := hw1.trans e6
  obtain ⟨A8, n8, c8, rfl, od8⟩ := r7
  refine wl_assign rfl rfl (by decide) ?_
  refine wl_nil ?_
  refine eo_then ?_
  refine cw_seq ?_
  refine cw_seq ?_
  have hlx := od_len (od4.ext e6)
  have hly := od_len od8
  have hlxn : n4 ≤ 2 * n := by have h := len_db32 hx.wf; rw [hx.len, hX] at h; omega
  have hlyn : n8 ≤ 2 * m := by have h := len_db32 hy.wf; rw [hy.len, hY] at h; omega
  by_cases hnx : n4 = 0
  ·
    exact absurd ((len_db_zero b32 (n := X)).1 (by omega)) hg.1
  ·
    have hXz : X ≠ 0 := fun e => hnx (by rw [← hlx, e]; rfl)
    by_cases hny : n8 = 0
    ·
      exact absurd hg.2 (by have h := (len_db_zero b32 (n := Y)).1 (by omega); omega)
    ·
      have hYz : Y ≠ 0 := fun e => hny (by rw [← hly, e]; rfl)
      by_cases hn1 : n8 = 1
      ·
        obtain ⟨hY32, hg0⟩ := sp_one hYz (by omega)
        by_cases hg1 : (db 4294967296 (Y)).getD 0 0 = 1
        ·
          exact absurd hg.2 (by omega)
        ·
          refine cw_region ?_
          refine wl_move rfl rfl (by decide) ?_
          refine wl_pure rfl rfl (v := .int .i64 ((n4 : Nat) : Int)) (by decide) (by kernel_rfl) ?_
          refine wl_cmp rfl rfl rfl false (cb_eq_f (a := n4) (b := 0) rfl rfl (by omega)) (by decide) ?_
          refine wl_move rfl rfl (by decide) ?_
          refine wl_move rfl rfl (by decide) ?_
          refine wl_pure rfl rfl (v := .int .i64 ((n8 : Nat) : Int)) (by decide) (by kernel_rfl) ?_
          refine wl_cmp rfl rfl rfl false (cb_eq_f (a := n8) (b := 0) rfl rfl (by omega)) (by decide) ?_
          refine wl_pure rfl rfl (v := .bool false) (by decide) (by kernel_rfl) ?_
          refine wl_move rfl rfl (by decide) ?_
          refine wl_move rfl rfl (by decide) ?_
          refine wl_pure rfl rfl (v := .int .i64 ((n8 : Nat) : Int)) (by decide) (by kernel_rfl) ?_
          refine wl_cmp rfl rfl rfl true (cb_eq_t (a := n8) (b := 1) rfl rfl (by omega)) (by decide) ?_
          refine wl_move rfl rfl (by decide) ?_
          refine wl_move rfl rfl (by decide) ?_
          obtain ⟨p9, hp9, hc9, hv9⟩ := ((od_rd od8)).at (i := 0) (by omega)
          refine wl_idx rfl rfl rfl un_u64 sz_u64 0 rfl (by omega) p9 hp9 (by decide) ?_
          refine wl_load rfl rfl (load_cell1 ag_u64 hc9) (by decide) ?_
          refine wl_cmp rfl rfl rfl false (cb_eq_f (a := (db 4294967296 (Y)).getD 0 0) (b := 1) rfl rfl (by omega)) (by decide) ?_
          refine wl_pure rfl rfl (v := .bool false) (by decide) (by kernel_rfl) ?_
          refine wl_pure rfl rfl (v := .bool false) (by decide) (by kernel_rfl) ?_
          refine wl_nil ?_
          refine eo_then ?_
          refine cw_false rfl ?_
          refine cw_skip ?_
          refine eo_then ?_
          refine cw_seq ?_
          have hY2 : 2 ≤ Y := (by omega)
          refine cw_region ?_
          refine wl_assign rfl rfl (by decide) ?_
          refine wl_nil ?_
          refine eo_then ?_
          refine cw_seq ?_
          refine cw_region ?_
          refine wl_move rfl rfl (by decide) ?_
          refine wl_move rfl rfl (by decide) ?_
          refine wl_call rfl rfl (vs := [.slice A4 n4 c4, .slice A8 n8 c8]) (by kernel_rfl) (by decide) (ref3_below (od_rd (od4.ext e6)) (by omega) (od_rd od8) (by omega)) ?_
          rintro _ v10 ⟨xr12, rfl, r12, e11⟩
          refine ret_intro ?_
          have hw3 : Ext w v10 := hw2.trans e11
          obtain rfl := r12
          refine wl_assign rfl rfl (by decide) ?_
          refine wl_nil ?_
          refine eo_then ?_
          refine cw_seq ?_
          refine cw_block ?_
          refine cw_loop (T := World × Nat × Option Addr × Nat × List Value × Option Addr × Nat × Nat × Nat × Bool)
            (fun ⟨wr, I, PA, pc, vs, yA, yn, yc, Z, ov⟩ => [(7, .slice A4 n4 c4), (8, .slice yA yn yc), (9, .slice PA I pc), (10, .bool ov)])
            (fun ⟨wr, I, PA, pc, vs, yA, yn, yc, Z, ov⟩ => wr)
            (fun ⟨wr, I, PA, pc, vs, yA, yn, yc, Z, ov⟩ => (Ext w wr) ∧ (I ≤ blen X + 1) ∧ (Own wr w.heap.size 23 1 A4 n4 c4 ((db 4294967296 X).map W64)) ∧ (Own wr w.heap.size 23 1 yA yn yc ((db 4294967296 Z).map W64)) ∧ (Own wr w.heap.size 22 1 PA I pc vs) ∧ (Pows wr w.heap.size Y n4 I vs) ∧ (Z = Y ^ 2 ^ I) ∧ (ov = decide (X < Z)) ∧ (yn ≤ 4294967296))
            (fun ⟨wr, I, PA, pc, vs, yA, yn, yc, Z, ov⟩ => X + 1 - Z)
            (⟨v10, 0, none, 0, [], _, _, _, Y, _⟩ : World × Nat × Option Addr × Nat × List Value × Option Addr × Nat × Nat × Nat × Bool) ⟨hw3, (by omega), (od4.ext (e6.trans e11)), (od8.ext e11), (Own.nil _ _ _ _), (Pows.nil _ _ _ _), (by rw [Nat.pow_zero, Nat.pow_one]), rfl, (by omega)⟩ rfl ⟨rfl, rfl, rfl, rfl, trivial⟩ ?_
          rintro ⟨wr, I, PA, pc, vs, yA, yn, yc, Z, ov⟩ ⟨hw1, hI1, hox, hoy, hop, hpw, hZ, hov, hn8⟩
          refine cw_re [(7, .slice A4 n4 c4), (8, .slice yA yn yc), (9, .slice PA I pc), (10, .bool ov)] wr rfl ⟨rfl, rfl, rfl, rfl, trivial⟩ ?_
          refine cw_seq ?_
          refine cw_seq ?_
          have hlz := od_len hoy
          have hlx2 := od_len hox
          by_cases hXZ : X < Z
          ·
            obtain rfl : ov = true := by rw [hov]; exact decide_eq_true hXZ
            have htop : X < Y ^ 2 ^ I := by rw [← hZ]; exact hXZ
            refine cw_region ?_
            refine wl_move rfl rfl (by decide) ?_
            refine wl_pure rfl rfl (v := .bool false) (by decide) (by kernel_rfl) ?_
            refine wl_nil ?_
            refine eo_then ?_
            refine cw_false rfl ?_
            refine cw_exit ?_
            refine eo_thenX ?_
            refine eo_loopX ?_
            refine eo_block_here ?_
            refine eo_then ?_
            refine cw_seq ?_
            refine cw_region ?_
            refine wl_assign rfl rfl (by decide) ?_
            refine wl_nil ?_
            refine eo_then ?_
            refine cw_seq ?_
            refine cw_seq ?_
            refine cw_region ?_
            refine wl_move rfl rfl (by decide) ?_
            refine wl_pure rfl rfl (v := .int .i64 ((I : Nat) : Int)) (by decide) (by kernel_rfl) ?_
            refine wl_ar rfl rfl rfl (((I : Nat) : Int) - 1) (ar_i64s rfl (by omega) (by omega)) (by decide) ?_
            refine wl_assign rfl rfl (by decide) ?_
            refine wl_nil ?_
            refine eo_then ?_
            refine cw_block ?_
            have hpw1 := hpw
            refine cw_loop (T := World × Nat × Int × Nat × Option Addr × Nat × Nat × Nat)
              (fun ⟨wr2, k, ii, q, xA, xn, xc, L⟩ => [(7, .slice xA xn xc), (9, .slice PA I pc), (11, .int .i64 ((q : Nat) : Int)), (12, .int .i64 ii)])
              (fun ⟨wr2, k, ii, q, xA, xn, xc, L⟩ => wr2)
              (fun ⟨wr2, k, ii, q, xA, xn, xc, L⟩ => (Ext w wr2) ∧ (k ≤ I) ∧ (ii = (k : Int) - 1) ∧ (Own wr2 w.heap.size 22 1 PA I pc vs) ∧ (Pows wr2 w.heap.size Y n4 I vs) ∧ (L * Y ^ (q * 2 ^ k) = X) ∧ (L % Y ^ 2 ^ k ≠ 0) ∧ (xn ≤ n4) ∧ (True) ∧ (Rd wr2 xA xn xc (db 4294967296 (L))))
              (fun ⟨wr2, k, ii, q, xA, xn, xc, L⟩ => k)
              (⟨wr, I, _, 0, _, _, _, X⟩ : World × Nat × Int × Nat × Option Addr × Nat × Nat × Nat) ⟨hw1, (Nat.le_refl _), (by omega), hop, hpw1, (by rw [Nat.zero_mul, Nat.pow_zero, Nat.mul_one]), (by rw [Nat.mod_eq_of_lt htop]; exact hXz), (Nat.le_refl _), trivial, (od_rd hox)⟩ rfl ⟨rfl, rfl, rfl, rfl, trivial⟩ ?_
            rintro ⟨wr2, k, ii, q, xA, xn, xc, L⟩ ⟨hw1, hk, hii, hop2, hpw2, hL, hLn, hn7, hLn0, rl7⟩
            refine cw_re [(7, .slice xA xn xc), (9, .slice PA I pc), (11, .int .i64 ((q : Nat) : Int)), (12, .int .i64 ii)] wr2 rfl ⟨rfl, rfl, rfl, rfl, trivial⟩ ?_
            refine cw_seq ?_
            refine cw_seq ?_
            by_cases hk0 : 0 < k
            ·
              obtain ⟨j, rfl⟩ : ∃ j, k = j + 1 := ⟨k - 1, by omega⟩
              obtain rfl : ii = (j : Int) := by omega
              refine cw_region ?_
              refine wl_move rfl rfl (by decide) ?_
              refine wl_cmp rfl rfl rfl true (cb_ge_t (a := j) (b := 0) rfl rfl (by omega)) (by decide) ?_
              refine wl_nil ?_
              refine eo_then ?_
              refine cw_true rfl ?_
              refine cw_skip ?_
              refine eo_then ?_
              refine cw_seq ?_
              refine cw_block ?_
              refine cw_seq ?_
              have hqb := sp_bound hXz hY2 hL
              refine cw_region ?_
              refine wl_move rfl rfl (by decide) ?_
              refine wl_ar rfl rfl rfl ((2 * q : Nat) : Int) (ai_mul (a := 2) (b := q) rfl rfl (by omega)) (by decide) ?_
              refine wl_assign rfl rfl (by decide) ?_
              refine wl_nil ?_
              refine eo_then ?_
              refine cw_seq ?_
              refine cw_region ?_
              refine wl_move rfl rfl (by decide) ?_
              refine wl_move rfl rfl (by decide) ?_
              refine wl_move rfl rfl (by decide) ?_
              obtain ⟨p13, hp13, hc13⟩ := own_cell hop2 (i := j) (by omega)
              obtain ⟨Ae13, ke13, ce13, hve13, hke13, hoe13⟩ := (hpw2).2 j (by omega)
              rw [hve13] at hc13
              refine wl_idx rfl rfl rfl un_wl sz_wl j rfl (by omega) p13 hp13 (by decide) ?_
              refine wl_load rfl rfl (load_cell1 ag_wl hc13) (by decide) ?_
              refine wl_call rfl rfl (vs := [.slice xA xn xc, .slice Ae13 ke13 ce13]) (by kernel_rfl) (by decide) (ref3_divide_ rl7 (by omega) (od_rd hoe13) (by omega) (Nat.pos_iff_ne_zero.1 (Nat.pow_pos (by omega)))) ?_
              rintro _ v14 ⟨xr16, rfl, r16, e15⟩
              refine ret_intro ?_
              have hw2 : Ext w v14 := hw1.trans e15
              obtain ⟨a17_0, a17_1, rfl, r17_0, r17_1⟩ := r16
              obtain ⟨A18, n18, c18, rfl, rd18⟩ := r17_0
              obtain ⟨A19, n19, c19, rfl, rd19⟩ := r17_1
              refine wl_move rfl rfl (by decide) ?_
              refine wl_pure rfl rfl (v := .slice A18 n18 c18) (by decide) (by kernel_rfl) ?_
              refine wl_pure rfl rfl (v := .slice A19 n19 c19) (by decide) (by kernel_rfl) ?_
              refine wl_assign rfl rfl (by decide) ?_
              refine wl_assign rfl rfl (by decide) ?_
              refine wl_nil ?_
              refine eo_then ?_
              refine cw_seq ?_
              have hlr := rd19.len
              by_cases hrz : n19 = 0
              ·
                have hdv : L % Y ^ 2 ^ j = 0 := (len_db_zero b32).1 (by omega)
                refine cw_region ?_
                refine wl_move rfl rfl (by decide) ?_
                refine wl_pure rfl rfl (v := .int .i64 ((n19 : Nat) : Int)) (by decide) (by kernel_rfl) ?_
                refine wl_cmp rfl rfl rfl true (cb_eq_t (a := n19) (b := 0) rfl rfl (by omega)) (by decide) ?_
                refine wl_nil ?_
                refine eo_then ?_
                refine cw_true rfl ?_
                refine cw_seq ?_
                refine cw_region ?_
                refine wl_move rfl rfl (by decide) ?_
                refine wl_assign rfl rfl (by decide) ?_
                refine wl_nil ?_
                refine eo_then ?_
                refine cw_region ?_
                refine wl_move rfl rfl (by decide) ?_
                refine wl_ar rfl rfl rfl (((2 * q) + 1 : Nat) : Int) (ai_add (a := 2 * q) (b := 1) rfl rfl (by omega)) (by decide) ?_
                refine wl_assign rfl rfl (by decide) ?_
                refine wl_nil ?_
                refine eo_block_normal ?_
                refine eo_then ?_
                refine cw_region ?_
                refine wl_move rfl rfl (by decide) ?_
                refine wl_ar rfl rfl rfl (((j : Nat) : Int) - 1) (ar_i64s rfl (by omega) (by omega)) (by decide) ?_
                refine wl_assign rfl rfl (by decide) ?_
                refine wl_nil ?_
                refine eo_round (⟨v14, j, _, 2 * q + 1, _, _, _, _⟩ : World × Nat × Int × Nat × Option Addr × Nat × Nat × Nat) ⟨hw2, (by omega), rfl, (hop2.ext e15), (hpw2.ext e15), (sp_yes hL hdv), (strip_still hY2 hLn hdv), (by have h1 := len_db_mono b32 (Nat.div_le_self L (Y ^ 2 ^ j)); have h2 := rd18.len; have h3 := rl7.len; omega), hLn0, rd18⟩ (show j < j + 1 by omega) rfl ⟨rfl, rfl, rfl, rfl, trivial⟩
              ·
                have hdv : L % Y ^ 2 ^ j ≠ 0 := fun e => hrz (by rw [← hlr, e]; rfl)
                refine cw_region ?_
                refine wl_move rfl rfl (by decide) ?_
                refine wl_pure rfl rfl (v := .int .i64 ((n19 : Nat) : Int)) (by decide) (by kernel_rfl) ?_
                refine wl_cmp rfl rfl rfl false (cb_eq_f (a := n19) (b := 0) rfl rfl (by omega)) (by decide) ?_
                refine wl_nil ?_
                refine eo_then ?_
                refine cw_false rfl ?_
                refine cw_skip ?_
                refine eo_block_normal ?_
                refine eo_then ?_
                refine cw_region ?_
                refine wl_move rfl rfl (by decide) ?_
                refine wl_ar rfl rfl rfl (((j : Nat) : Int) - 1) (ar_i64s rfl (by omega) (by omega)) (by decide) ?_
                refine wl_assign rfl rfl (by decide) ?_
                refine wl_nil ?_
                refine eo_round (⟨v14, j, _, 2 * q, _, _, _, L⟩ : World × Nat × Int × Nat × Option Addr × Nat × Nat × Nat) ⟨hw2, (by omega), rfl, (hop2.ext e15), (hpw2.ext e15), (sp_no hL), hdv, hn7, hLn0, (rl7.ext e15)⟩ (show j < j + 1 by omega) rfl ⟨rfl, rfl, rfl, rfl, trivial⟩
            ·
              obtain rfl : k = 0 := by omega
              refine cw_region ?_
              refine wl_move rfl rfl (by decide) ?_
              refine wl_cmp rfl rfl rfl false (ge_f (by omega)) (by decide) ?_
              refine wl_nil ?_
              refine eo_then ?_
              refine cw_false rfl ?_
              refine cw_exit ?_
              refine eo_thenX ?_
              refine eo_loopX ?_
              refine eo_block_here ?_
              refine eo_then ?_
              refine cw_seq ?_
              refine cw_region ?_
              refine wl_move rfl rfl (by decide) ?_
              refine wl_move rfl rfl (by decide) ?_
              refine wl_call rfl rfl (vs := [.slice xA xn xc]) (by kernel_rfl) (by decide) (ref3_words_ hw1.size rl7 (by omega)) ?_
              rintro _ v20 ⟨xr22, rfl, r22, e21⟩
              refine ret_intro ?_
              have hw2 : Ext w v20 := hw1.trans e21
              obtain ⟨A23, n23, c23, rfl, j23, o23⟩ := r22
              refine wl_assign rfl rfl (by decide) ?_
              refine wl_assign rfl rfl (by decide) ?_
              refine wl_assign rfl rfl (by decide) ?_
              refine wl_nil ?_
              refine eo_then ?_
              refine cw_ret ?_
              refine eo_ret [.int .i64 ((q : Nat) : Int), .slice A23 n23 c23, .int .i64 0] rfl ⟨rfl, rfl, rfl, trivial⟩ ?_
              rw [Nat.pow_zero, Nat.mul_one] at hL
              rw [Nat.pow_zero, Nat.pow_one] at hLn
              exact ⟨q, L, hL, hLn, _, rfl, ⟨_, _, _, rfl, rfl, ⟨_, _, _, rfl, j23, o23⟩, rfl⟩, hw2⟩
          ·
            obtain rfl : ov = false := by rw [hov]; exact decide_eq_false hXZ
            have hn8x : yn ≤ n4 := by have h := len_db_mono b32 (show Z ≤ X by omega); omega
            have hZ2 : 2 ≤ Z := by rw [hZ]; have h : Y ^ 1 ≤ Y ^ 2 ^ I := Nat.pow_le_pow_right (by omega) (Nat.two_pow_pos I); rw [Nat.pow_one] at h; omega
            have hyn1 : 1 ≤ yn := Nat.pos_of_ne_zero fun e => by have := (len_db_zero b32).1 (show (db 4294967296 Z).length = 0 by omega); omega
            have hIX := sp_I hY2 hZ (show Z ≤ X by omega)
            refine cw_region ?_
            refine wl_move rfl rfl (by decide) ?_
            refine wl_pure rfl rfl (v := .bool true) (by decide) (by kernel_rfl) ?_
            refine wl_nil ?_
            refine eo_then ?_
            refine cw_true rfl ?_
            refine cw_skip ?_
            refine eo_then ?_
            refine cw_block ?_
            refine cw_seq ?_
            refine cw_region ?_
            refine wl_move rfl rfl (by decide) ?_
            refine wl_move rfl rfl (by decide) ?_
            refine wl_bslice rfl rfl (by decide) (k := 1) (e := 22) [.slice yA yn yc] (fun _ => by kernel_rfl) fun g24 v25 nb => ?_
            have hb26 := nb.bk
            have e27 := nb.ext
            clear nb
            have hw2 : Ext w v25 := hw1.trans e27
            have ow28 := (hop.ext e27)
            refine wl_app rfl rfl rfl un_wl infoW rfl (by decide) (by decide) ow28 hw2.size [.slice yA yn yc] rfl (one_news3 _ hb26) rfl (by omega) (by decide) fun A29 c30 v31 ho32 uo33 kp34 => ?_
            have hw3 : Ext w v31 := uo33.ext hw2 (fun p hp => (ow28.block p hp).1)
            have pw35 := Pows.snoc ((hpw.ext e27).updO ow28 uo33) (by omega) (by rw [← hZ]; exact ((hoy.ext e27).updOT ow28 (by decide) uo33))
            refine wl_assign rfl rfl (by decide) ?_
            refine wl_nil ?_
            refine eo_then ?_
            refine cw_seq ?_
            refine cw_seq ?_
            by_cases hbr : (2 * yn) - 1 > n4
            ·
              have htop : X < Y ^ 2 ^ (I + 1) := by rw [Nat.pow_succ, Nat.mul_comm (2 ^ I), Nat.two_mul, Nat.pow_add, ← hZ]; exact sp_break hlx2 hlz (by omega) (by omega)
              refine cw_region ?_
              refine wl_move rfl rfl (by decide) ?_
              refine wl_pure rfl rfl (v := .int .i64 ((yn : Nat) : Int)) (by decide) (by kernel_rfl) ?_
              refine wl_ar rfl rfl rfl ((2 * yn : Nat) : Int) (ai_mul (a := 2) (b := yn) rfl rfl (by omega)) (by decide) ?_
              refine wl_ar rfl rfl rfl (((2 * yn) - 1 : Nat) : Int) (ai_sub (a := 2 * yn) (b := 1) rfl rfl (by omega) (by omega)) (by decide) ?_
              refine wl_move rfl rfl (by decide) ?_
              refine wl_pure rfl rfl (v := .int .i64 ((n4 : Nat) : Int)) (by decide) (by kernel_rfl) ?_
              refine wl_cmp rfl rfl rfl true (cb_gt_t (a := (2 * yn) - 1) (b := n4) rfl rfl (by omega)) (by decide) ?_
              refine wl_nil ?_
              refine eo_then ?_
              refine cw_true rfl ?_
              refine cw_exit ?_
              refine eo_thenX ?_
              refine eo_block_far (by decide) ?_
              refine eo_loopX ?_
              refine eo_block_here ?_
              refine eo_then ?_
              refine cw_seq ?_
              refine cw_region ?_
              refine wl_assign rfl rfl (by decide) ?_
              refine wl_nil ?_
              refine eo_then ?_
              refine cw_seq ?_
              refine cw_seq ?_
              refine cw_region ?_
              refine wl_move rfl rfl (by decide) ?_
              refine wl_pure rfl rfl (v := .int .i64 (((I + 1) : Nat) : Int)) (by decide) (by kernel_rfl) ?_
              refine wl_ar rfl rfl rfl ((((I + 1) : Nat) : Int) - 1) (ar_i64s rfl (by omega) (by omega)) (by decide) ?_
              refine wl_assign rfl rfl (by decide) ?_
              refine wl_nil ?_
              refine eo_then ?_
              refine cw_block ?_
              have hpw1 := pw35
              refine cw_loop (T := World × Nat × Int × Nat × Option Addr × Nat × Nat × Nat)
                (fun ⟨wr2, k, ii, q, xA, xn, xc, L⟩ => [(7, .slice xA xn xc), (9, .slice A29 (I + 1) c30), (11, .int .i64 ((q : Nat) : Int)), (12, .int .i64 ii)])
                (fun ⟨wr2, k, ii, q, xA, xn, xc, L⟩ => wr2)
                (fun ⟨wr2, k, ii, q, xA, xn, xc, L⟩ => (Ext w wr2) ∧ (k ≤ (I + 1)) ∧ (ii = (k : Int) - 1) ∧ (Own wr2 w.heap.size 22 1 A29 (I + 1) c30 (vs ++ [.slice yA yn yc])) ∧ (Pows wr2 w.heap.size Y n4 (I + 1) (vs ++ [.slice yA yn yc])) ∧ (L * Y ^ (q * 2 ^ k) = X) ∧ (L % Y ^ 2 ^ k ≠ 0) ∧ (xn ≤ n4) ∧ (True) ∧ (Rd wr2 xA xn xc (db 4294967296 (L))))
                (fun ⟨wr2, k, ii, q, xA, xn, xc, L⟩ => k)
                (⟨v31, (I + 1), _, 0, _, _, _, X⟩ : World × Nat × Int × Nat × Option Addr × Nat × Nat × Nat) ⟨hw3, (Nat.le_refl _), (by omega), ho32, hpw1, (by rw [Nat.zero_mul, Nat.pow_zero, Nat.mul_one]), (by rw [Nat.mod_eq_of_lt htop]; exact hXz), (Nat.le_refl _), trivial, (od_rd ((hox.ext e27).updOT ow28 (by decide) uo33))⟩ rfl ⟨rfl, rfl, rfl, rfl, trivial⟩ ?_
              rintro ⟨wr2, k, ii, q, xA, xn, xc, L⟩ ⟨hw1, hk, hii, hop2, hpw2, hL, hLn, hn7, hLn0, rl7⟩
              refine cw_re [(7, .slice xA xn xc), (9, .slice A29 (I + 1) c30), (11, .int .i64 ((q : Nat) : Int)), (12, .int .i64 ii)] wr2 rfl ⟨rfl, rfl, rfl, rfl, trivial⟩ ?_
              refine cw_seq ?_
              refine cw_seq ?_
              by_cases hk0 : 0 < k
              ·
                obtain ⟨j, rfl⟩ : ∃ j, k = j + 1 := ⟨k - 1, by omega⟩
                obtain rfl : ii = (j : Int) := by omega
                refine cw_region ?_
                refine wl_move rfl rfl (by decide) ?_
                refine wl_cmp rfl rfl rfl true (cb_ge_t (a := j) (b := 0) rfl rfl (by omega)) (by decide) ?_
                refine wl_nil ?_
                refine eo_then ?_
                refine cw_true rfl ?_
                refine cw_skip ?_
                refine eo_then ?_
                refine cw_seq ?_
                refine cw_block ?_
                refine cw_seq ?_
                have hqb := sp_bound hXz hY2 hL
                refine cw_region ?_
                refine wl_move rfl rfl (by decide) ?_
                refine wl_ar rfl rfl rfl ((2 * q : Nat) : Int) (ai_mul (a := 2) (b := q) rfl rfl (by omega)) (by decide) ?_
                refine wl_assign rfl rfl (by decide) ?_
                refine wl_nil ?_
                refine eo_then ?_
                refine cw_seq ?_
                refine cw_region ?_
                refine wl_move rfl rfl (by decide) ?_
                refine wl_move rfl rfl (by decide) ?_
                refine wl_move rfl rfl (by decide) ?_
                obtain ⟨p36, hp36, hc36⟩ := own_cell hop2 (i := j) (by omega)
                obtain ⟨Ae36, ke36, ce36, hve36, hke36, hoe36⟩ := (hpw2).2 j (by omega)
                rw [hve36] at hc36
                refine wl_idx rfl rfl rfl un_wl sz_wl j rfl (by omega) p36 hp36 (by decide) ?_
                refine wl_load rfl rfl (load_cell1 ag_wl hc36) (by decide) ?_
                refine wl_call rfl rfl (vs := [.slice xA xn xc, .slice Ae36 ke36 ce36]) (by kernel_rfl) (by decide) (ref3_divide_ rl7 (by omega) (od_rd hoe36) (by omega) (Nat.pos_iff_ne_zero.1 (Nat.pow_pos (by omega)))) ?_
                rintro _ v37 ⟨xr39, rfl, r39, e38⟩
                refine ret_intro ?_
                have hw2 : Ext w v37 := hw1.trans e38
                obtain ⟨a40_0, a40_1, rfl, r40_0, r40_1⟩ := r39
                obtain ⟨A41, n41, c41, rfl, rd41⟩ := r40_0
                obtain ⟨A42, n42, c42, rfl, rd42⟩ := r40_1
                refine wl_move rfl rfl (by decide) ?_
                refine wl_pure rfl rfl (v := .slice A41 n41 c41) (by decide) (by kernel_rfl) ?_
                refine wl_pure rfl rfl (v := .slice A42 n42 c42) (by decide) (by kernel_rfl) ?_
                refine wl_assign rfl rfl (by decide) ?_
                refine wl_assign rfl rfl (by decide) ?_
                refine wl_nil ?_
                refine eo_then ?_
                refine cw_seq ?_
                have hlr := rd42.len
                by_cases hrz : n42 = 0
                ·
                  have hdv : L % Y ^ 2 ^ j = 0 := (len_db_zero b32).1 (by omega)
                  refine cw_region ?_
                  refine wl_move rfl rfl (by decide) ?_
                  refine wl_pure rfl rfl (v := .int .i64 ((n42 : Nat) : Int)) (by decide) (by kernel_rfl) ?_
                  refine wl_cmp rfl rfl rfl true (cb_eq_t (a := n42) (b := 0) rfl rfl (by omega)) (by decide) ?_
                  refine wl_nil ?_
                  refine eo_then ?_
                  refine cw_true rfl ?_
                  refine cw_seq ?_
                  refine cw_region ?_
                  refine wl_move rfl rfl (by decide) ?_
                  refine wl_assign rfl rfl (by decide) ?_
                  refine wl_nil ?_
                  refine eo_then ?_
                  refine cw_region ?_
                  refine wl_move rfl rfl (by decide) ?_
                  refine wl_ar rfl rfl rfl (((2 * q) + 1 : Nat) : Int) (ai_add (a := 2 * q) (b := 1) rfl rfl (by omega)) (by decide) ?_
                  refine wl_assign rfl rfl (by decide) ?_
                  refine wl_nil ?_
                  refine eo_block_normal ?_
                  refine eo_then ?_
                  refine cw_region ?_
                  refine wl_move rfl rfl (by decide) ?_
                  refine wl_ar rfl rfl rfl (((j : Nat) : Int) - 1) (ar_i64s rfl (by omega) (by omega)) (by decide) ?_
                  refine wl_assign rfl rfl (by decide) ?_
                  refine wl_nil ?_
                  refine eo_round (⟨v37, j, _, 2 * q + 1, _, _, _, _⟩ : World × Nat × Int × Nat × Option Addr × Nat × Nat × Nat) ⟨hw2, (by omega), rfl, (hop2.ext e38), (hpw2.ext e38), (sp_yes hL hdv), (strip_still hY2 hLn hdv), (by have h1 := len_db_mono b32 (Nat.div_le_self L (Y ^ 2 ^ j)); have h2 := rd41.len; have h3 := rl7.len; omega), hLn0, rd41⟩ (show j < j + 1 by omega) rfl ⟨rfl, rfl, rfl, rfl, trivial⟩
                ·
                  have hdv : L % Y ^ 2 ^ j ≠ 0 := fun e => hrz (by rw [← hlr, e]; rfl)
                  refine cw_region ?_
                  refine wl_move rfl rfl (by decide) ?_
                  refine wl_pure rfl rfl (v := .int .i64 ((n42 : Nat) : Int)) (by decide) (by kernel_rfl) ?_
                  refine wl_cmp rfl rfl rfl false (cb_eq_f (a := n42) (b := 0) rfl rfl (by omega)) (by decide) ?_
                  refine wl_nil ?_
                  refine eo_then ?_
                  refine cw_false rfl ?_
                  refine cw_skip ?_
                  refine eo_block_normal ?_
                  refine eo_then ?_
                  refine cw_region ?_
                  refine wl_move rfl rfl (by decide) ?_
                  refine wl_ar rfl rfl rfl (((j : Nat) : Int) - 1) (ar_i64s rfl (by omega) (by omega)) (by decide) ?_
                  refine wl_assign rfl rfl (by decide) ?_
                  refine wl_nil ?_
                  refine eo_round (⟨v37, j, _, 2 * q, _, _, _, L⟩ : World × Nat × Int × Nat × Option Addr × Nat × Nat × Nat) ⟨hw2, (by omega), rfl, (hop2.ext e38), (hpw2.ext e38), (sp_no hL), hdv, hn7, hLn0, (rl7.ext e38)⟩ (show j < j + 1 by omega) rfl ⟨rfl, rfl, rfl, rfl, trivial⟩
              ·
                obtain rfl : k = 0 := by omega
                refine cw_region ?_
                refine wl_move rfl rfl (by decide) ?_
                refine wl_cmp rfl rfl rfl false (ge_f (by omega)) (by decide) ?_
                refine wl_nil ?_
                refine eo_then ?_
                refine cw_false rfl ?_
                refine cw_exit ?_
                refine eo_thenX ?_
                refine eo_loopX ?_
                refine eo_block_here ?_
                refine eo_then ?_
                refine cw_seq ?_
                refine cw_region ?_
                refine wl_move rfl rfl (by decide) ?_
                refine wl_move rfl rfl (by decide) ?_
                refine wl_call rfl rfl (vs := [.slice xA xn xc]) (by kernel_rfl) (by decide) (ref3_words_ hw1.size rl7 (by omega)) ?_
                rintro _ v43 ⟨xr45, rfl, r45, e44⟩
                refine ret_intro ?_
                have hw2 : Ext w v43 := hw1.trans e44
                obtain ⟨A46, n46, c46, rfl, j46, o46⟩ := r45
                refine wl_assign rfl rfl (by decide) ?_
                refine wl_assign rfl rfl (by decide) ?_
                refine wl_assign rfl rfl (by decide) ?_
                refine wl_nil ?_
                refine eo_then ?_
                refine cw_ret ?_
                refine eo_ret [.int .i64 ((q : Nat) : Int), .slice A46 n46 c46, .int .i64 0] rfl ⟨rfl, rfl, rfl, trivial⟩ ?_
                rw [Nat.pow_zero, Nat.mul_one] at hL
                rw [Nat.pow_zero, Nat.pow_one] at hLn
                exact ⟨q, L, hL, hLn, _, rfl, ⟨_, _, _, rfl, rfl, ⟨_, _, _, rfl, j46, o46⟩, rfl⟩, hw2⟩
            ·
              refine cw_region ?_
              refine wl_move rfl rfl (by decide) ?_
              refine wl_pure rfl rfl (v := .int .i64 ((yn : Nat) : Int)) (by decide) (by kernel_rfl) ?_
              refine wl_ar rfl rfl rfl ((2 * yn : Nat) : Int) (ai_mul (a := 2) (b := yn) rfl rfl (by omega)) (by decide) ?_
              refine wl_ar rfl rfl rfl (((2 * yn) - 1 : Nat) : Int) (ai_sub (a := 2 * yn) (b := 1) rfl rfl (by omega) (by omega)) (by decide) ?_
              refine wl_move rfl rfl (by decide) ?_
              refine wl_pure rfl rfl (v := .int .i64 ((n4 : Nat) : Int)) (by decide) (by kernel_rfl) ?_
              refine wl_cmp rfl rfl rfl false (cb_gt_f (a := (2 * yn) - 1) (b := n4) rfl rfl (by omega)) (by decide) ?_
              refine wl_nil ?_
              refine eo_then ?_
              refine cw_false rfl ?_
              refine cw_skip ?_
              refine eo_then ?_
              refine cw_seq ?_
              refine cw_region ?_
              refine wl_move rfl rfl (by decide) ?_
              refine wl_move rfl rfl (by decide) ?_
              refine wl_call rfl rfl (vs := [.slice yA yn yc, .slice yA yn yc]) (by kernel_rfl) (by decide) (ref3_timesO hw3.size (od_rd ((hoy.ext e27).updOT ow28 (by decide) uo33)) (by omega) (od_rd ((hoy.ext e27).updOT ow28 (by decide) uo33)) (by omega)) ?_
              rintro _ v47 ⟨xr49, rfl, r49, e48⟩
              refine ret_intro ?_
              have hw4 : Ext w v47 := hw3.trans e48
              obtain ⟨A50, n50, c50, rfl, od50⟩ := r49
              refine wl_assign rfl rfl (by decide) ?_
              refine wl_nil ?_
              refine eo_then ?_
              have hlzz := od_len od50
              have hmlz := len_db_mul (x := Z) (y := Z)
              refine cw_region ?_
              refine wl_move rfl rfl (by decide) ?_
              refine wl_move rfl rfl (by decide) ?_
              refine wl_call rfl rfl (vs := [.slice A4 n4 c4, .slice A50 n50 c50]) (by kernel_rfl) (by decide) (ref3_below (od_rd (((hox.ext e27).updOT ow28 (by decide) uo33).ext e48)) (by omega) (od_rd od50) (by omega)) ?_
              rintro _ v51 ⟨xr53, rfl, r53, e52⟩
              refine ret_intro ?_
              have hw5 : Ext w v51 := hw4.trans e52
              obtain rfl := r53
              refine wl_assign rfl rfl (by decide) ?_
              refine wl_nil ?_
              refine eo_block_normal ?_
              refine eo_round (⟨v51, I + 1, _, _, _, _, _, _, _, _⟩ : World × Nat × Option Addr × Nat × List Value × Option Addr × Nat × Nat × Nat × Bool) ⟨hw5, (by omega), (((hox.ext e27).updOT ow28 (by decide) uo33).ext (e48.trans e52)), (od50.ext e52), (ho32.ext (e48.trans e52)), (pw35.ext (e48.trans e52)), (by rw [hZ, ← Nat.pow_add, ← Nat.two_mul, Nat.pow_succ, Nat.mul_comm (2 ^ I)]), rfl, (by omega)⟩ (show X + 1 - Z * Z < X + 1 - Z by have h : Z * 2 ≤ Z * Z := Nat.mul_le_mul_left Z hZ2; omega) rfl ⟨rfl, rfl, rfl, rfl, trivial⟩
      ·
        refine cw_region ?_
        refine wl_move rfl rfl (by decide) ?_
        refine wl_pure rfl rfl (v := .int .i64 ((n4 : Nat) : Int)) (by decide) (by kernel_rfl) ?_
        refine wl_cmp rfl rfl rfl false (cb_eq_f (a := n4) (b := 0) rfl rfl (by omega)) (by decide) ?_
        refine wl_move rfl rfl (by decide) ?_
        refine wl_move rfl rfl (by decide) ?_
        refine wl_pure rfl rfl (v := .int .i64 ((n8 : Nat) : Int)) (by decide) (by kernel_rfl) ?_
        refine wl_cmp rfl rfl rfl false (cb_eq_f (a := n8) (b := 0) rfl rfl (by omega)) (by decide) ?_
        refine wl_pure rfl rfl (v := .bool false) (by decide) (by kernel_rfl) ?_
        refine wl_move rfl rfl (by decide) ?_
        refine wl_move rfl rfl (by decide) ?_
        refine wl_pure rfl rfl (v := .int .i64 ((n8 : Nat) : Int)) (by decide) (by kernel_rfl) ?_
        refine wl_cmp rfl rfl rfl false (cb_eq_f (a := n8) (b := 1) rfl rfl (by omega)) (by decide) ?_
        refine wl_move rfl rfl (by decide) ?_
        refine wl_off rfl (by decide) ?_
        refine wl_off rfl (by decide) ?_
        refine wl_off rfl (by decide) ?_
        refine wl_off rfl (by decide) ?_
        refine wl_pure rfl rfl (v := .bool false) (by decide) (by kernel_rfl) ?_
        refine wl_pure rfl rfl (v := .bool false) (by decide) (by kernel_rfl) ?_
        refine wl_nil ?_
        refine eo_then ?_
        refine cw_false rfl ?_
        refine cw_skip ?_
        refine eo_then ?_
        refine cw_seq ?_
        have hY2 : 2 ≤ Y := (by refine Nat.le_of_not_lt fun h => ?_; have h3 : Y = 1 := (by omega); exact hn1 (by rw [← hly, h3, db_one]; rfl))
        refine cw_region ?_
        refine wl_assign rfl rfl (by decide) ?_
        refine wl_nil ?_
        refine eo_then ?_
        refine cw_seq ?_
        refine cw_region ?_
        refine wl_move rfl rfl (by decide) ?_
        refine wl_move rfl rfl (by decide) ?_
        refine wl_call rfl rfl (vs := [.slice A4 n4 c4, .slice A8 n8 c8]) (by kernel_rfl) (by decide) (ref3_below (od_rd (od4.ext e6)) (by omega) (od_rd od8) (by omega)) ?_
        rintro _ v54 ⟨xr56, rfl, r56, e55⟩
        refine ret_intro ?_
        have hw3 : Ext w v54 := hw2.trans e55
        obtain rfl := r56
        refine wl_assign rfl rfl (by decide) ?_
        refine wl_nil ?_
        refine eo_then ?_
        refine cw_seq ?_
        refine cw_block ?_
        refine cw_loop (T := World × Nat × Option Addr × Nat × List Value × Option Addr × Nat × Nat × Nat × Bool)
          (fun ⟨wr, I, PA, pc, vs, yA, yn, yc, Z, ov⟩ => [(7, .slice A4 n4 c4), (8, .slice yA yn yc), (9, .slice PA I pc), (10, .bool ov)])
          (fun ⟨wr, I, PA, pc, vs, yA, yn, yc, Z, ov⟩ => wr)
          (fun ⟨wr, I, PA, pc, vs, yA, yn, yc, Z, ov⟩ => (Ext w wr) ∧ (I ≤ blen X + 1) ∧ (Own wr w.heap.size 23 1 A4 n4 c4 ((db 4294967296 X).map W64)) ∧ (Own wr w.heap.size 23 1 yA yn yc ((db 4294967296 Z).map W64)) ∧ (Own wr w.heap.size 22 1 PA I pc vs) ∧ (Pows wr w.heap.size Y n4 I vs) ∧ (Z = Y ^ 2 ^ I) ∧ (ov = decide (X < Z)) ∧ (yn ≤ 4294967296))
          (fun ⟨wr, I, PA, pc, vs, yA, yn, yc, Z, ov⟩ => X + 1 - Z)
          (⟨v54, 0, none, 0, [], _, _, _, Y, _⟩ : World × Nat × Option Addr × Nat × List Value × Option Addr × Nat × Nat × Nat × Bool) ⟨hw3, (by omega), (od4.ext (e6.trans e55)), (od8.ext e55), (Own.nil _ _ _ _), (Pows.nil _ _ _ _), (by rw [Nat.pow_zero, Nat.pow_one]), rfl, (by omega)⟩ rfl ⟨rfl, rfl, rfl, rfl, trivial⟩ ?_
        rintro ⟨wr, I, PA, pc, vs, yA, yn, yc, Z, ov⟩ ⟨hw1, hI1, hox, hoy, hop, hpw, hZ, hov, hn8⟩
        refine cw_re [(7, .slice A4 n4 c4), (8, .slice yA yn yc), (9, .slice PA I pc), (10, .bool ov)] wr rfl ⟨rfl, rfl, rfl, rfl, trivial⟩ ?_
        refine cw_seq ?_
        refine cw_seq ?_
        have hlz := od_len hoy
        have hlx2 := od_len hox
        by_cases hXZ : X < Z
        ·
          obtain rfl : ov = true := by rw [hov]; exact decide_eq_true hXZ
          have htop : X < Y ^ 2 ^ I := by rw [← hZ]; exact hXZ
          refine cw_region ?_
          refine wl_move rfl rfl (by decide) ?_
          refine wl_pure rfl rfl (v := .bool false) (by decide) (by kernel_rfl) ?_
          refine wl_nil ?_
          refine eo_then ?_
          refine cw_false rfl ?_
          refine cw_exit ?_
          refine eo_thenX ?_
          refine eo_loopX ?_
          refine eo_block_here ?_
          refine eo_then ?_
          refine cw_seq ?_
          refine cw_region ?_
          refine wl_assign rfl rfl (by decide) ?_
          refine wl_nil ?_
          refine eo_then ?_
          refine cw_seq ?_
          refine cw_seq ?_
          refine cw_region ?_
          refine wl_move rfl rfl (by decide) ?_
          refine wl_pure rfl rfl (v := .int .i64 ((I : Nat) : Int)) (by decide) (by kernel_rfl) ?_
          refine wl_ar rfl rfl rfl (((I : Nat) : Int) - 1) (ar_i64s rfl (by omega) (by omega)) (by decide) ?_
          refine wl_assign rfl rfl (by decide) ?_
          refine wl_nil ?_
          refine eo_then ?_
          refine cw_block ?_
          have hpw1 := hpw
          refine cw_loop (T := World × Nat × Int × Nat × Option Addr × Nat × Nat × Nat)
            (fun ⟨wr2, k, ii, q, xA, xn, xc, L⟩ => [(7, .slice xA xn xc), (9, .slice PA I pc), (11, .int .i64 ((q : Nat) : Int)), (12, .int .i64 ii)])
            (fun ⟨wr2, k, ii, q, xA, xn, xc, L⟩ => wr2)
            (fun ⟨wr2, k, ii, q, xA, xn, xc, L⟩ => (Ext w wr2) ∧ (k ≤ I) ∧ (ii = (k : Int) - 1) ∧ (Own wr2 w.heap.size 22 1 PA I pc vs) ∧ (Pows wr2 w.heap.size Y n4 I vs) ∧ (L * Y ^ (q * 2 ^ k) = X) ∧ (L % Y ^ 2 ^ k ≠ 0) ∧ (xn ≤ n4) ∧ (True) ∧ (Rd wr2 xA xn xc (db 4294967296 (L))))
            (fun ⟨wr2, k, ii, q, xA, xn, xc, L⟩ => k)
            (⟨wr, I, _, 0, _, _, _, X⟩ : World × Nat × Int × Nat × Option Addr × Nat × Nat × Nat) ⟨hw1, (Nat.le_refl _), (by omega), hop, hpw1, (by rw [Nat.zero_mul, Nat.pow_zero, Nat.mul_one]), (by rw [Nat.mod_eq_of_lt htop]; exact hXz), (Nat.le_refl _), trivial, (od_rd hox)⟩ rfl ⟨rfl, rfl, rfl, rfl, trivial⟩ ?_
          rintro ⟨wr2, k, ii, q, xA, xn, xc, L⟩ ⟨hw1, hk, hii, hop2, hpw2, hL, hLn, hn7, hLn0, rl7⟩
          refine cw_re [(7, .slice xA xn xc), (9, .slice PA I pc), (11, .int .i64 ((q : Nat) : Int)), (12, .int .i64 ii)] wr2 rfl ⟨rfl, rfl, rfl, rfl, trivial⟩ ?_
          refine cw_seq ?_
          refine cw_seq ?_
          by_cases hk0 : 0 < k
          ·
            obtain ⟨j, rfl⟩ : ∃ j, k = j + 1 := ⟨k - 1, by omega⟩
            obtain rfl : ii = (j : Int) := by omega
            refine cw_region ?_
            refine wl_move rfl rfl (by decide) ?_
            refine wl_cmp rfl rfl rfl true (cb_ge_t (a := j) (b := 0) rfl rfl (by omega)) (by decide) ?_
            refine wl_nil ?_
            refine eo_then ?_
            refine cw_true rfl ?_
            refine cw_skip ?_
            refine eo_then ?_
            refine cw_seq ?_
            refine cw_block ?_
            refine cw_seq ?_
            have hqb := sp_bound hXz hY2 hL
            refine cw_region ?_
            refine wl_move rfl rfl (by decide) ?_
            refine wl_ar rfl rfl rfl ((2 * q : Nat) : Int) (ai_mul (a := 2) (b := q) rfl rfl (by omega)) (by decide) ?_
            refine wl_assign rfl rfl (by decide) ?_
            refine wl_nil ?_
            refine eo_then ?_
            refine cw_seq ?_
            refine cw_region ?_
            refine wl_move rfl rfl (by decide) ?_
            refine wl_move rfl rfl (by decide) ?_
            refine wl_move rfl rfl (by decide) ?_
            obtain ⟨p57, hp57, hc57⟩ := own_cell hop2 (i := j) (by omega)
            obtain ⟨Ae57, ke57, ce57, hve57, hke57, hoe57⟩ := (hpw2).2 j (by omega)
            rw [hve57] at hc57
            refine wl_idx rfl rfl rfl un_wl sz_wl j rfl (by omega) p57 hp57 (by decide) ?_
            refine wl_load rfl rfl (load_cell1 ag_wl hc57) (by decide) ?_
            refine wl_call rfl rfl (vs := [.slice xA xn xc, .slice Ae57 ke57 ce57]) (by kernel_rfl) (by decide) (ref3_divide_ rl7 (by omega) (od_rd hoe57) (by omega) (Nat.pos_iff_ne_zero.1 (Nat.pow_pos (by omega)))) ?_
            rintro _ v58 ⟨xr60, rfl, r60, e59⟩
            refine ret_intro ?_
            have hw2 : Ext w v58 := hw1.trans e59
            obtain ⟨a61_0, a61_1, rfl, r61_0, r61_1⟩ := r60
            obtain ⟨A62, n62, c62, rfl, rd62⟩ := r61_0
            obtain ⟨A63, n63, c63, rfl, rd63⟩ := r61_1
            refine wl_move rfl rfl (by decide) ?_
            refine wl_pure rfl rfl (v := .slice A62 n62 c62) (by decide) (by kernel_rfl) ?_
            refine wl_pure rfl rfl (v := .slice A63 n63 c63) (by decide) (by kernel_rfl) ?_
            refine wl_assign rfl rfl (by decide) ?_
            refine wl_assign rfl rfl (by decide) ?_
            refine wl_nil ?_
            refine eo_then ?_
            refine cw_seq ?_
            have hlr := rd63.len
            by_cases hrz : n63 = 0
            ·
              have hdv : L % Y ^ 2 ^ j = 0 := (len_db_zero b32).1 (by omega)
              refine cw_region ?_
              refine wl_move rfl rfl (by decide) ?_
              refine wl_pure rfl rfl (v := .int .i64 ((n63 : Nat) : Int)) (by decide) (by kernel_rfl) ?_
              refine wl_cmp rfl rfl rfl true (cb_eq_t (a := n63) (b := 0) rfl rfl (by omega)) (by decide) ?_
              refine wl_nil ?_
              refine eo_then ?_
              refine cw_true rfl ?_
              refine cw_seq ?_
              refine cw_region ?_
              refine wl_move rfl rfl (by decide) ?_
              refine wl_assign rfl rfl (by decide) ?_
              refine wl_nil ?_
              refine eo_then ?_
              refine cw_region ?_
              refine wl_move rfl rfl (by decide) ?_
              refine wl_ar rfl rfl rfl (((2 * q) + 1 : Nat) : Int) (ai_add (a := 2 * q) (b := 1) rfl rfl (by omega)) (by decide) ?_
              refine wl_assign rfl rfl (by decide) ?_
              refine wl_nil ?_
              refine eo_block_normal ?_
              refine eo_then ?_
              refine cw_region ?_
              refine wl_move rfl rfl (by decide) ?_
              refine wl_ar rfl rfl rfl (((j : Nat) : Int) - 1) (ar_i64s rfl (by omega) (by omega)) (by decide) ?_
              refine wl_assign rfl rfl (by decide) ?_
              refine wl_nil ?_
              refine eo_round (⟨v58, j, _, 2 * q + 1, _, _, _, _⟩ : World × Nat × Int × Nat × Option Addr × Nat × Nat × Nat) ⟨hw2, (by omega), rfl, (hop2.ext e59), (hpw2.ext e59), (sp_yes hL hdv), (strip_still hY2 hLn hdv), (by have h1 := len_db_mono b32 (Nat.div_le_self L (Y ^ 2 ^ j)); have h2 := rd62.len; have h3 := rl7.len; omega), hLn0, rd62⟩ (show j < j + 1 by omega) rfl ⟨rfl, rfl, rfl, rfl, trivial⟩
            ·
              have hdv : L % Y ^ 2 ^ j ≠ 0 := fun e => hrz (by rw [← hlr, e]; rfl)
              refine cw_region ?_
              refine wl_move rfl rfl (by decide) ?_
              refine wl_pure rfl rfl (v := .int .i64 ((n63 : Nat) : Int)) (by decide) (by kernel_rfl) ?_
              refine wl_cmp rfl rfl rfl false (cb_eq_f (a := n63) (b := 0) rfl rfl (by omega)) (by decide) ?_
              refine wl_nil ?_
              refine eo_then ?_
              refine cw_false rfl ?_
              refine cw_skip ?_
              refine eo_block_normal ?_
              refine eo_then ?_
              refine cw_region ?_
              refine wl_move rfl rfl (by decide) ?_
              refine wl_ar rfl rfl rfl (((j : Nat) : Int) - 1) (ar_i64s rfl (by omega) (by omega)) (by decide) ?_
              refine wl_assign rfl rfl (by decide) ?_
              refine wl_nil ?_
              refine eo_round (⟨v58, j, _, 2 * q, _, _, _, L⟩ : World × Nat × Int × Nat × Option Addr × Nat × Nat × Nat) ⟨hw2, (by omega), rfl, (hop2.ext e59), (hpw2.ext e59), (sp_no hL), hdv, hn7, hLn0, (rl7.ext e59)⟩ (show j < j + 1 by omega) rfl ⟨rfl, rfl, rfl, rfl, trivial⟩
          ·
            obtain rfl : k = 0 := by omega
            refine cw_region ?_
            refine wl_move rfl rfl (by decide) ?_
            refine wl_cmp rfl rfl rfl false (ge_f (by omega)) (by decide) ?_
            refine wl_nil ?_
            refine eo_then ?_
            refine cw_false rfl ?_
            refine cw_exit ?_
            refine eo_thenX ?_
            refine eo_loopX ?_
            refine eo_block_here ?_
            refine eo_then ?_
            refine cw_seq ?_
            refine cw_region ?_
            refine wl_move rfl rfl (by decide) ?_
            refine wl_move rfl rfl (by decide) ?_
            refine wl_call rfl rfl (vs := [.slice xA xn xc]) (by kernel_rfl) (by decide) (ref3_words_ hw1.size rl7 (by omega)) ?_
            rintro _ v64 ⟨xr66, rfl, r66, e65⟩
            refine ret_intro ?_
            have hw2 : Ext w v64 := hw1.trans e65
            obtain ⟨A67, n67, c67, rfl, j67, o67⟩ := r66
            refine wl_assign rfl rfl (by decide) ?_
            refine wl_assign rfl rfl (by decide) ?_
            refine wl_assign rfl rfl (by decide) ?_
            refine wl_nil ?_
            refine eo_then ?_
            refine cw_ret ?_
            refine eo_ret [.int .i64 ((q : Nat) : Int), .slice A67 n67 c67, .int .i64 0] rfl ⟨rfl, rfl, rfl, trivial⟩ ?_
            rw [Nat.pow_zero, Nat.mul_one] at hL
            rw [Nat.pow_zero, Nat.pow_one] at hLn
            exact ⟨q, L, hL, hLn, _, rfl, ⟨_, _, _, rfl, rfl, ⟨_, _, _, rfl, j67, o67⟩, rfl⟩, hw2⟩
        ·
          obtain rfl : ov = false := by rw [hov]; exact decide_eq_false hXZ
          have hn8x : yn ≤ n4 := by have h := len_db_mono b32 (show Z ≤ X by omega); omega
          have hZ2 : 2 ≤ Z := by rw [hZ]; have h : Y ^ 1 ≤ Y ^ 2 ^ I := Nat.pow_le_pow_right (by omega) (Nat.two_pow_pos I); rw [Nat.pow_one] at h; omega
          have hyn1 : 1 ≤ yn := Nat.pos_of_ne_zero fun e => by have := (len_db_zero b32).1 (show (db 4294967296 Z).length = 0 by omega); omega
          have hIX := sp_I hY2 hZ (show Z ≤ X by omega)
          refine cw_region ?_
          refine wl_move rfl rfl (by decide) ?_
          refine wl_pure rfl rfl (v := .bool true) (by decide) (by kernel_rfl) ?_
          refine wl_nil ?_
          refine eo_then ?_
          refine cw_true rfl ?_
          refine cw_skip ?_
          refine eo_then ?_
          refine cw_block ?_
          refine cw_seq ?_
          refine cw_region ?_
          refine wl_move rfl rfl (by decide) ?_
          refine wl_move rfl rfl (by decide) ?_
          refine wl_bslice rfl rfl (by decide) (k := 1) (e := 22) [.slice yA yn yc] (fun _ => by kernel_rfl) fun g68 v69 nb => ?_
          have hb70 := nb.bk
          have e71 := nb.ext
          clear nb
          have hw2 : Ext w v69 := hw1.trans e71
          have ow72 := (hop.ext e71)
          refine wl_app rfl rfl rfl un_wl infoW rfl (by decide) (by decide) ow72 hw2.size [.slice yA yn yc] rfl (one_news3 _ hb70) rfl (by omega) (by decide) fun A73 c74 v75 ho76 uo77 kp78 => ?_
          have hw3 : Ext w v75 := uo77.ext hw2 (fun p hp => (ow72.block p hp).1)
          have pw79 := Pows.snoc ((hpw.ext e71).updO ow72 uo77) (by omega) (by rw [← hZ]; exact ((hoy.ext e71).updOT ow72 (by decide) uo77))
          refine wl_assign rfl rfl (by decide) ?_
          refine wl_nil ?_
          refine eo_then ?_
          refine cw_seq ?_
          refine cw_seq ?_
          by_cases hbr : (2 * yn) - 1 > n4
          ·
            have htop : X < Y ^ 2 ^ (I + 1) := by rw [Nat.pow_succ, Nat.mul_comm (2 ^ I), Nat.two_mul, Nat.pow_add, ← hZ]; exact sp_break hlx2 hlz (by omega) (by omega)
            refine cw_region ?_
            refine wl_move rfl rfl (by decide) ?_
            refine wl_pure rfl rfl (v := .int .i64 ((yn : Nat) : Int)) (by decide) (by kernel_rfl) ?_
            refine wl_ar rfl rfl rfl ((2 * yn : Nat) : Int) (ai_mul (a := 2) (b := yn) rfl rfl (by omega)) (by decide) ?_
            refine wl_ar rfl rfl rfl (((2 * yn) - 1 : Nat) : Int) (ai_sub (a := 2 * yn) (b := 1) rfl rfl (by omega) (by omega)) (by decide) ?_
            refine wl_move rfl rfl (by decide) ?_
            refine wl_pure rfl rfl (v := .int .i64 ((n4 : Nat) : Int)) (by decide) (by kernel_rfl) ?_
            refine wl_cmp rfl rfl rfl true (cb_gt_t (a := (2 * yn) - 1) (b := n4) rfl rfl (by omega)) (by decide) ?_
            refine wl_nil ?_
            refine eo_then ?_
            refine cw_true rfl ?_
            refine cw_exit ?_
            refine eo_thenX ?_
            refine eo_block_far (by decide) ?_
            refine eo_loopX ?_
            refine eo_block_here ?_
            refine eo_then ?_
            refine cw_seq ?_
            refine cw_region ?_
            refine wl_assign rfl rfl (by decide) ?_
            refine wl_nil ?_
            refine eo_then ?_
            refine cw_seq ?_
            refine cw_seq ?_
            refine cw_region ?_
            refine wl_move rfl rfl (by decide) ?_
            refine wl_pure rfl rfl (v := .int .i64 (((I + 1) : Nat) : Int)) (by decide) (by kernel_rfl) ?_
            refine wl_ar rfl rfl rfl ((((I + 1) : Nat) : Int) - 1) (ar_i64s rfl (by omega) (by omega)) (by decide) ?_
            refine wl_assign rfl rfl (by decide) ?_
            refine wl_nil ?_
            refine eo_then ?_
            refine cw_block ?_
            have hpw1 := pw79
            refine cw_loop (T := World × Nat × Int × Nat × Option Addr × Nat × Nat × Nat)
              (fun ⟨wr2, k, ii, q, xA, xn, xc, L⟩ => [(7, .slice xA xn xc), (9, .slice A73 (I + 1) c74), (11, .int .i64 ((q : Nat) : Int)), (12, .int .i64 ii)])
              (fun ⟨wr2, k, ii, q, xA, xn, xc, L⟩ => wr2)
              (fun ⟨wr2, k, ii, q, xA, xn, xc, L⟩ => (Ext w wr2) ∧ (k ≤ (I + 1)) ∧ (ii = (k : Int) - 1) ∧ (Own wr2 w.heap.size 22 1 A73 (I + 1) c74 (vs ++ [.slice yA yn yc])) ∧ (Pows wr2 w.heap.size Y n4 (I + 1) (vs ++ [.slice yA yn yc])) ∧ (L * Y ^ (q * 2 ^ k) = X) ∧ (L % Y ^ 2 ^ k ≠ 0) ∧ (xn ≤ n4) ∧ (True) ∧ (Rd wr2 xA xn xc (db 4294967296 (L))))
              (fun ⟨wr2, k, ii, q, xA, xn, xc, L⟩ => k)
              (⟨v75, (I + 1), _, 0, _, _, _, X⟩ : World × Nat × Int × Nat × Option Addr × Nat × Nat × Nat) ⟨hw3, (Nat.le_refl _), (by omega), ho76, hpw1, (by rw [Nat.zero_mul, Nat.pow_zero, Nat.mul_one]), (by rw [Nat.mod_eq_of_lt htop]; exact hXz), (Nat.le_refl _), trivial, (od_rd ((hox.ext e71).updOT ow72 (by decide) uo77))⟩ rfl ⟨rfl, rfl, rfl, rfl, trivial⟩ ?_
            rintro ⟨wr2, k, ii, q, xA, xn, xc, L⟩ ⟨hw1, hk, hii, hop2, hpw2, hL, hLn, hn7, hLn0, rl7⟩
            refine cw_re [(7, .slice xA xn xc), (9, .slice A73 (I + 1) c74), (11, .int .i64 ((q : Nat) : Int)), (12, .int .i64 ii)] wr2 rfl ⟨rfl, rfl, rfl, rfl, trivial⟩ ?_
            refine cw_seq ?_
            refine cw_seq ?_
            by_cases hk0 : 0 < k
            ·
              obtain ⟨j, rfl⟩ : ∃ j, k = j + 1 := ⟨k - 1, by omega⟩
              obtain rfl : ii = (j : Int) := by omega
              refine cw_region ?_
              refine wl_move rfl rfl (by decide) ?_
              refine wl_cmp rfl rfl rfl true (cb_ge_t (a := j) (b := 0) rfl rfl (by omega)) (by decide) ?_
              refine wl_nil ?_
              refine eo_then ?_
              refine cw_true rfl ?_
              refine cw_skip ?_
              refine eo_then ?_
              refine cw_seq ?_
              refine cw_block ?_
              refine cw_seq ?_
              have hqb := sp_bound hXz hY2 hL
              refine cw_region ?_
              refine wl_move rfl rfl (by decide) ?_
              refine wl_ar rfl rfl rfl ((2 * q : Nat) : Int) (ai_mul (a := 2) (b := q) rfl rfl (by omega)) (by decide) ?_
              refine wl_assign rfl rfl (by decide) ?_
              refine wl_nil ?_
              refine eo_then ?_
              refine cw_seq ?_
              refine cw_region ?_
              refine wl_move rfl rfl (by decide) ?_
              refine wl_move rfl rfl (by decide) ?_
              refine wl_move rfl rfl (by decide) ?_
              obtain ⟨p80, hp80, hc80⟩ := own_cell hop2 (i := j) (by omega)
              obtain ⟨Ae80, ke80, ce80, hve80, hke80, hoe80⟩ := (hpw2).2 j (by omega)
              rw [hve80] at hc80
              refine wl_idx rfl rfl rfl un_wl sz_wl j rfl (by omega) p80 hp80 (by decide) ?_
              refine wl_load rfl rfl (load_cell1 ag_wl hc80) (by decide) ?_
              refine wl_call rfl rfl (vs := [.slice xA xn xc, .slice Ae80 ke80 ce80]) (by kernel_rfl) (by decide) (ref3_divide_ rl7 (by omega) (od_rd hoe80) (by omega) (Nat.pos_iff_ne_zero.1 (Nat.pow_pos (by omega)))) ?_
              rintro _ v81 ⟨xr83, rfl, r83, e82⟩
              refine ret_intro ?_
              have hw2 : Ext w v81 := hw1.trans e82
              obtain ⟨a84_0, a84_1, rfl, r84_0, r84_1⟩ := r83
              obtain ⟨A85, n85, c85, rfl, rd85⟩ := r84_0
              obtain ⟨A86, n86, c86, rfl, rd86⟩ := r84_1
              refine wl_move rfl rfl (by decide) ?_
              refine wl_pure rfl rfl (v := .slice A85 n85 c85) (by decide) (by kernel_rfl) ?_
              refine wl_pure rfl rfl (v := .slice A86 n86 c86) (by decide) (by kernel_rfl) ?_
              refine wl_assign rfl rfl (by decide) ?_
              refine wl_assign rfl rfl (by decide) ?_
              refine wl_nil ?_
              refine eo_then ?_
              refine cw_seq ?_
              have hlr := rd86.len
              by_cases hrz : n86 = 0
              ·
                have hdv : L % Y ^ 2 ^ j = 0 := (len_db_zero b32).1 (by omega)
                refine cw_region ?_
                refine wl_move rfl rfl (by decide) ?_
                refine wl_pure rfl rfl (v := .int .i64 ((n86 : Nat) : Int)) (by decide) (by kernel_rfl) ?_
                refine wl_cmp rfl rfl rfl true (cb_eq_t (a := n86) (b := 0) rfl rfl (by omega)) (by decide) ?_
                refine wl_nil ?_
                refine eo_then ?_
                refine cw_true rfl ?_
                refine cw_seq ?_
                refine cw_region ?_
                refine wl_move rfl rfl (by decide) ?_
                refine wl_assign rfl rfl (by decide) ?_
                refine wl_nil ?_
                refine eo_then ?_
                refine cw_region ?_
                refine wl_move rfl rfl (by decide) ?_
                refine wl_ar rfl rfl rfl (((2 * q) + 1 : Nat) : Int) (ai_add (a := 2 * q) (b := 1) rfl rfl (by omega)) (by decide) ?_
                refine wl_assign rfl rfl (by decide) ?_
                refine wl_nil ?_
                refine eo_block_normal ?_
                refine eo_then ?_
                refine cw_region ?_
                refine wl_move rfl rfl (by decide) ?_
                refine wl_ar rfl rfl rfl (((j : Nat) : Int) - 1) (ar_i64s rfl (by omega) (by omega)) (by decide) ?_
                refine wl_assign rfl rfl (by decide) ?_
                refine wl_nil ?_
                refine eo_round (⟨v81, j, _, 2 * q + 1, _, _, _, _⟩ : World × Nat × Int × Nat × Option Addr × Nat × Nat × Nat) ⟨hw2, (by omega), rfl, (hop2.ext e82), (hpw2.ext e82), (sp_yes hL hdv), (strip_still hY2 hLn hdv), (by have h1 := len_db_mono b32 (Nat.div_le_self L (Y ^ 2 ^ j)); have h2 := rd85.len; have h3 := rl7.len; omega), hLn0, rd85⟩ (show j < j + 1 by omega) rfl ⟨rfl, rfl, rfl, rfl, trivial⟩
              ·
                have hdv : L % Y ^ 2 ^ j ≠ 0 := fun e => hrz (by rw [← hlr, e]; rfl)
                refine cw_region ?_
                refine wl_move rfl rfl (by decide) ?_
                refine wl_pure rfl rfl (v := .int .i64 ((n86 : Nat) : Int)) (by decide) (by kernel_rfl) ?_
                refine wl_cmp rfl rfl rfl false (cb_eq_f (a := n86) (b := 0) rfl rfl (by omega)) (by decide) ?_
                refine wl_nil ?_
                refine eo_then ?_
                refine cw_false rfl ?_
                refine cw_skip ?_
                refine eo_block_normal ?_
                refine eo_then ?_
                refine cw_region ?_
                refine wl_move rfl rfl (by decide) ?_
                refine wl_ar rfl rfl rfl (((j : Nat) : Int) - 1) (ar_i64s rfl (by omega) (by omega)) (by decide) ?_
                refine wl_assign rfl rfl (by decide) ?_
                refine wl_nil ?_
                refine eo_round (⟨v81, j, _, 2 * q, _, _, _, L⟩ : World × Nat × Int × Nat × Option Addr × Nat × Nat × Nat) ⟨hw2, (by omega), rfl, (hop2.ext e82), (hpw2.ext e82), (sp_no hL), hdv, hn7, hLn0, (rl7.ext e82)⟩ (show j < j + 1 by omega) rfl ⟨rfl, rfl, rfl, rfl, trivial⟩
            ·
              obtain rfl : k = 0 := by omega
              refine cw_region ?_
              refine wl_move rfl rfl (by decide) ?_
              refine wl_cmp rfl rfl rfl false (ge_f (by omega)) (by decide) ?_
              refine wl_nil ?_
              refine eo_then ?_
              refine cw_false rfl ?_
              refine cw_exit ?_
              refine eo_thenX ?_
              refine eo_loopX ?_
              refine eo_block_here ?_
              refine eo_then ?_
              refine cw_seq ?_
              refine cw_region ?_
              refine wl_move rfl rfl (by decide) ?_
              refine wl_move rfl rfl (by decide) ?_
              refine wl_call rfl rfl (vs := [.slice xA xn xc]) (by kernel_rfl) (by decide) (ref3_words_ hw1.size rl7 (by omega)) ?_
              rintro _ v87 ⟨xr89, rfl, r89, e88⟩
              refine ret_intro ?_
              have hw2 : Ext w v87 := hw1.trans e88
              obtain ⟨A90, n90, c90, rfl, j90, o90⟩ := r89
              refine wl_assign rfl rfl (by decide) ?_
              refine wl_assign rfl rfl (by decide) ?_
              refine wl_assign rfl rfl (by decide) ?_
              refine wl_nil ?_
              refine eo_then ?_
              refine cw_ret ?_
              refine eo_ret [.int .i64 ((q : Nat) : Int), .slice A90 n90 c90, .int .i64 0] rfl ⟨rfl, rfl, rfl, trivial⟩ ?_
              rw [Nat.pow_zero, Nat.mul_one] at hL
              rw [Nat.pow_zero, Nat.pow_one] at hLn
              exact ⟨q, L, hL, hLn, _, rfl, ⟨_, _, _, rfl, rfl, ⟨_, _, _, rfl, j90, o90⟩, rfl⟩, hw2⟩
          ·
            refine cw_region ?_
            refine wl_move rfl rfl (by decide) ?_
            refine wl_pure rfl rfl (v := .int .i64 ((yn : Nat) : Int)) (by decide) (by kernel_rfl) ?_
            refine wl_ar rfl rfl rfl ((2 * yn : Nat) : Int) (ai_mul (a := 2) (b := yn) rfl rfl (by omega)) (by decide) ?_
            refine wl_ar rfl rfl rfl (((2 * yn) - 1 : Nat) : Int) (ai_sub (a := 2 * yn) (b := 1) rfl rfl (by omega) (by omega)) (by decide) ?_
            refine wl_move rfl rfl (by decide) ?_
            refine wl_pure rfl rfl (v := .int .i64 ((n4 : Nat) : Int)) (by decide) (by kernel_rfl) ?_
            refine wl_cmp rfl rfl rfl false (cb_gt_f (a := (2 * yn) - 1) (b := n4) rfl rfl (by omega)) (by decide) ?_
            refine wl_nil ?_
            refine eo_then ?_
            refine cw_false rfl ?_
            refine cw_skip ?_
            refine eo_then ?_
            refine cw_seq ?_
            refine cw_region ?_
            refine wl_move rfl rfl (by decide) ?_
            refine wl_move rfl rfl (by decide) ?_
            refine wl_call rfl rfl (vs := [.slice yA yn yc, .slice yA yn yc]) (by kernel_rfl) (by decide) (ref3_timesO hw3.size (od_rd ((hoy.ext e71).updOT ow72 (by decide) uo77)) (by omega) (od_rd ((hoy.ext e71).updOT ow72 (by decide) uo77)) (by omega)) ?_
            rintro _ v91 ⟨xr93, rfl, r93, e92⟩
            refine ret_intro ?_
            have hw4 : Ext w v91 := hw3.trans e92
            obtain ⟨A94, n94, c94, rfl, od94⟩ := r93
            refine wl_assign rfl rfl (by decide) ?_
            refine wl_nil ?_
            refine eo_then ?_
            have hlzz := od_len od94
            have hmlz := len_db_mul (x := Z) (y := Z)
            refine cw_region ?_
            refine wl_move rfl rfl (by decide) ?_
            refine wl_move rfl rfl (by decide) ?_
            refine wl_call rfl rfl (vs := [.slice A4 n4 c4, .slice A94 n94 c94]) (by kernel_rfl) (by decide) (ref3_below (od_rd (((hox.ext e71).updOT ow72 (by decide) uo77).ext e92)) (by omega) (od_rd od94) (by omega)) ?_
            rintro _ v95 ⟨xr97, rfl, r97, e96⟩
            refine ret_intro ?_
            have hw5 : Ext w v95 := hw4.trans e96
            obtain rfl := r97
            refine wl_assign rfl rfl (by decide) ?_
            refine wl_nil ?_
            refine eo_block_normal ?_
            refine eo_round (⟨v95, I + 1, _, _, _, _, _, _, _, _⟩ : World × Nat × Option Addr × Nat × List Value × Option Addr × Nat × Nat × Nat × Bool) ⟨hw5, (by omega), (((hox.ext e71).updOT ow72 (by decide) uo77).ext (e92.trans e96)), (od94.ext e96), (ho76.ext (e92.trans e96)), (pw79.ext (e92.trans e96)), (by rw [hZ, ← Nat.pow_add, ← Nat.two_mul, Nat.pow_succ, Nat.mul_comm (2 ^ I)]), rfl, (by omega)⟩ (show X + 1 - Z * Z < X + 1 - Z by have h : Z * 2 ≤ Z * Z := Nat.mul_le_mul_left Z hZ2; omega) rfl ⟨rfl, rfl, rfl, rfl, trivial⟩
end Go.Proofs.Ythggegdkpalgbaa

namespace Go.Proofs.Ythggegdkpalgbaa
open Go.RowKit
theorem law_wakes (w : World) : Calls Try.prog 8 #[] w (BoolP true w) := by
  go_enter Try.func8, Try.ntmps8
  go_wp2_with fail
  have hone := Rd.one w (x := 7) (by omega)
  refine (divnat_Word hone (by omega) (v := 2) (by omega) (by omega)).mono ?_
  rintro e w2 ⟨A2, n2, c2, r, rfl, hr, hrb, hn2, hr2, ho2, hx2⟩
  have e3 : wd (nv [7] / 2) = [3] := by decide +kernel
  have e1 : nv [7] % 2 = 1 := by decide +kernel
  rw [e3] at hn2 hr2 ho2
  rw [e1] at hr
  obtain rfl : n2 = 1 := hn2.out
  obtain ⟨a, x, rfl, hxk, hxb, hcx⟩ := hr2.get (i := 0) (by omega)
  have hx3 : x = 3 := by rw [← hxk.out]; rfl
  have hr1 : r = 1 := hr.out
  subst hx3
  subst hr1
  have hcx0 : w2.cell? a = some (.int .u64 3) := by simpa [Addr.add] using hcx
  clear hcx hr hrb hn2 ho2 hr2 hxk hxb
  go_wp2_with fail
  go_ret
  exact ⟨rfl, ((Ext.refl w).alloc _).trans hx2⟩
end Go.Proofs.Ythggegdkpalgbaa
