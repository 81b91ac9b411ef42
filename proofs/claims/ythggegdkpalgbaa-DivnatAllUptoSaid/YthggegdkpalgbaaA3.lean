/- Parts Ref3b, Ref3c, Ref3d, Sxb, Ref3e, Ref1, Ref3f, Keep0, Sxk, joined. -/
import Derived.Test.YthggegdkpalgbaaA2
import Derived.WalkSmall

namespace Go.Proofs.Ythggegdkpalgbaa
open Go.RowKit
/-- r less q times b, from place s on -/
def TK (g N q s : Nat) (l es : List Nat) (w : World) (e : Ending) (w' : World) : Prop :=
  e = .returned (.tuple #[]) ∧ Upd g w w' ∧ ∃ l', Bk w' g 23 (l'.map W64) ∧ l'.length = N ∧ Wfb 4294967296 l' ∧ nb 4294967296 l' + q * nb 4294967296 es * 4294967296 ^ s = nb 4294967296 l
theorem takeOff_step {b : Nat} {l es : List Nat} {s i c q e T d d' c' Y : Nat} (h : nb b l + q * nb b (es.take i) * b ^ s = Y + b ^ (s + i) * c) (hk : s + i < l.length) (hd0 : l.getD (s + i) 0 = d) (hT : T = c + q * e) (he : nb b (es.take (i + 1)) = nb b (es.take i) + b ^ i * e)
    (hd : d' + T = d + b * c') : nb b (l.set (s + i) d') + q * nb b (es.take (i + 1)) * b ^ s = Y + b ^ (s + (i + 1)) * c' := by
  have h1 := nb_set b hk d'
  rw [hd0] at h1
  have e1 : q * nb b (es.take (i + 1)) * b ^ s = q * nb b (es.take i) * b ^ s + b ^ (s + i) * (q * e) := by
    rw [he, Nat.mul_add, Nat.add_mul, Nat.pow_add]
    congr 1
    grind
  have e2 : b ^ (s + i) * (d' + T) = b ^ (s + i) * (d + b * c') := by rw [hd]
  have e3 : b ^ (s + (i + 1)) * c' = b ^ (s + i) * (b * c') := by rw [← Nat.add_assoc, Nat.pow_succ, Nat.mul_assoc]
  rw [hT] at e2
  simp only [Nat.mul_add] at e2
  rw [e1, e3]
  omega
theorem takeOff_more {b : Nat} {es : List Nat} {i : Nat} (h : es.length ≤ i) : nb b (es.take (i + 1)) = nb b (es.take i) + b ^ i * 0 := by
  rw [List.take_of_length_le (by omega), List.take_of_length_le h]; rfl
theorem takeOff_done {l l' es : List Nat} {N s i m c q : Nat} (hw : Wfb 4294967296 l') (hl : l'.length = N) (he : es.length = m) (hs : s + m ≤ N) (hi : s + i ≤ N) (hq : q * nb 4294967296 es * 4294967296 ^ s ≤ nb 4294967296 l)
    (h : nb 4294967296 l' + q * nb 4294967296 (es.take i) * 4294967296 ^ s = nb 4294967296 l + 4294967296 ^ (s + i) * c) (hend : s + i = N ∨ m ≤ i ∧ c = 0) : nb 4294967296 l' + q * nb 4294967296 es * 4294967296 ^ s = nb 4294967296 l := by
  have hmi : m ≤ i := by omega
  rw [List.take_of_length_le (by omega)] at h
  have hc : c = 0 := by
    rcases hend with h1 | h1
    · have h2 := nb_lt hw
      rw [hl] at h2
      rw [h1] at h
      refine Nat.eq_zero_of_not_pos fun hp => ?_
      have h3 : 4294967296 ^ N * 1 ≤ 4294967296 ^ N * c := Nat.mul_le_mul_left _ hp
      omega
    · exact h1.2
  rw [hc, Nat.mul_zero, Nat.add_zero] at h
  exact h
set_option maxHeartbeats 4000000 in
theorem ref3_takeOff {w : World} {g N m cd q s : Nat} {D : Option Addr} {l es : List Nat} (hb0 : Bk w g 23 (l.map W64)) (hl0 : l.length = N) (hN : N ≤ 1099511627776) (hwl : Wfb 4294967296 l) (hy : Rd w D m cd es) (hwe : Wfb 4294967296 es) (hne : 0 < cd → ∀ a, D = some a → a.block ≠ g) (hqb : q < 4294967296) (hs : s + m ≤ N) (hq : q * nb 4294967296 es * 4294967296 ^ s ≤ nb 4294967296 l) :
    Calls Try.prog 88 #[.slice (some ⟨g, 0, none⟩) N N, .slice D m cd, .int .u64 ((q : Nat) : Int), .int .i64 ((s : Nat) : Int)] w (TK g N q s l es w) := by
  have hle := hy.len
  refine sx_enter Try.func88 rfl (n := 84) rfl (Nat.le_of_ble_eq_true rfl) (args := [.slice (some ⟨g, 0, none⟩) N N, .slice D m cd, .int .u64 ((q : Nat) : Int), .int .i64 ((s : Nat) : Int)]) ?_
  refine cw_keep [(0, .slice (some ⟨g, 0, none⟩) N N), (1, .slice D m cd), (2, .int .u64 ((q : Nat) : Int)), (3, .int .i64 ((s : Nat) : Int))] ⟨rfl, rfl, rfl, rfl, trivial⟩ ?_
  refine cw_seq ?_
  refine cw_region ?_
  refine wl_assign rfl rfl (by decide) ?_
  refine wl_nil ?_
  refine eo_then ?_
  refine cw_seq ?_
  refine cw_region ?_
  refine wl_assign rfl rfl (by decide) ?_
  refine wl_nil ?_
  refine eo_then ?_
  refine cw_block ?_
  refine cw_loop (T := World × Nat × Nat × List Nat)
    (fun ⟨wr, i, c, l'⟩ => [(0, .slice (some ⟨g, 0, none⟩) N N), (1, .slice D m cd), (2, .int .u64 ((q : Nat) : Int)), (3, .int .i64 ((s : Nat) : Int)), (8, .int .u64 ((c : Nat) : Int)), (9, .int .i64 ((i : Nat) : Int))])
    (fun ⟨wr, i, c, l'⟩ => wr)
    (fun ⟨wr, i, c, l'⟩ => (Upd g w wr) ∧ (s + i ≤ N) ∧ (c ≤ 4294967296) ∧ (Bk wr g 23 (l'.map W64)) ∧ (l'.length = N) ∧ (Wfb 4294967296 l') ∧ (nb 4294967296 l' + q * nb 4294967296 (es.take i) * 4294967296 ^ s = nb 4294967296 l + 4294967296 ^ (s + i) * c) ∧ (Rd wr D m cd es))
    (fun ⟨wr, i, c, l'⟩ => N - (s + i))
    (⟨w, 0, 0, l⟩ : World × Nat × Nat × List Nat) ⟨Upd.refl g w, (by omega), (by decide), hb0, hl0, hwl, by simp [nb], hy⟩ rfl ⟨rfl, rfl, rfl, rfl, rfl, rfl, trivial⟩ ?_
  rintro ⟨wr, i, c, l'⟩ ⟨hu, hi, hc, hb, hl, hwf, hv, rl1⟩
  refine cw_re [(0, .slice (some ⟨g, 0, none⟩) N N), (1, .slice D m cd), (2, .int .u64 ((q : Nat) : Int)), (3, .int .i64 ((s : Nat) : Int)), (8, .int .u64 ((c : Nat) : Int)), (9, .int .i64 ((i : Nat) : Int))] wr rfl ⟨rfl, rfl, rfl, rfl, rfl, rfl, trivial⟩ ?_
  refine cw_seq ?_
  refine cw_seq ?_
  by_cases hsi : s + i < N
  ·
    by_cases him : i < m
    ·
      refine cw_region ?_
      refine wl_move rfl rfl (by decide) ?_
      refine wl_move rfl rfl (by decide) ?_
      refine wl_ar rfl rfl rfl ((s + i : Nat) : Int) (ai_add (a := s) (b := i) rfl rfl (by omega)) (by decide) ?_
      refine wl_move rfl rfl (by decide) ?_
      refine wl_pure rfl rfl (v := .int .i64 ((N : Nat) : Int)) (by decide) (by kernel_rfl) ?_
      refine wl_cmp rfl rfl rfl true (cb_lt_t (a := s + i) (b := N) rfl rfl (by omega)) (by decide) ?_
      refine wl_move rfl rfl (by decide) ?_
      refine wl_move rfl rfl (by decide) ?_
      refine wl_move rfl rfl (by decide) ?_
      refine wl_pure rfl rfl (v := .int .i64 ((m : Nat) : Int)) (by decide) (by kernel_rfl) ?_
      refine wl_cmp rfl rfl rfl true (cb_lt_t (a := i) (b := m) rfl rfl (by omega)) (by decide) ?_
      refine wl_move rfl rfl (by decide) ?_
      refine wl_off rfl (by decide) ?_
      refine wl_off rfl (by decide) ?_
      refine wl_pure rfl rfl (v := .bool true) (by decide) (by kernel_rfl) ?_
      refine wl_pure rfl rfl (v := .bool true) (by decide) (by kernel_rfl) ?_
      refine wl_nil ?_
      refine eo_then ?_
      refine cw_true rfl ?_
      refine cw_skip ?_
      refine eo_then ?_
      refine cw_seq ?_
      refine cw_block ?_
      refine cw_seq ?_
      refine cw_region ?_
      refine wl_move rfl rfl (by decide) ?_
      refine wl_assign rfl rfl (by decide) ?_
      refine wl_nil ?_
      refine eo_then ?_
      refine cw_seq ?_
      refine cw_seq ?_
      refine cw_region ?_
      refine wl_move rfl rfl (by decide) ?_
      refine wl_move rfl rfl (by decide) ?_
      refine wl_pure rfl rfl (v := .int .i64 ((m : Nat) : Int)) (by decide) (by kernel_rfl) ?_
      refine wl_cmp rfl rfl rfl true (cb_lt_t (a := i) (b := m) rfl rfl (by omega)) (by decide) ?_
      refine wl_nil ?_
      refine eo_then ?_
      refine cw_true rfl ?_
      have hey := Wfb_getD (b := 4294967296) (by decide) hwe i
      have hm : q * (es.getD i 0) ≤ 4294967295 * 4294967295 := Nat.mul_le_mul (by omega) (by omega)
      refine cw_region ?_
      refine wl_move rfl rfl (by decide) ?_
      refine wl_move rfl rfl (by decide) ?_
      refine wl_move rfl rfl (by decide) ?_
      refine wl_move rfl rfl (by decide) ?_
      obtain ⟨p1, hp1, hc1, hv1⟩ := (rl1).at (i := i) (by omega)
      refine wl_idx rfl rfl rfl un_u64 sz_u64 i rfl (by omega) p1 hp1 (by decide) ?_
      refine wl_load rfl rfl (load_cell1 ag_u64 hc1) (by decide) ?_
      refine wl_ar rfl rfl rfl ((q * (es.getD i 0) : Nat) : Int) (au_mul (a := q) (b := es.getD i 0) rfl rfl (by omega)) (by decide) ?_
      refine wl_ar rfl rfl rfl ((c + (q * (es.getD i 0)) : Nat) : Int) (au_add (a := c) (b := q * (es.getD i 0)) rfl rfl (by omega)) (by decide) ?_
      refine wl_assign rfl rfl (by decide) ?_
      refine wl_nil ?_
      refine eo_then ?_
      refine cw_seq ?_
      refine cw_region ?_
      refine wl_move rfl rfl (by decide) ?_
      refine wl_ar rfl rfl rfl (((c + (q * (es.getD i 0))) % 4294967296 : Nat) : Int) (au_rem (a := c + (q * (es.getD i 0))) (b := 4294967296) rfl rfl (by omega)) (by decide) ?_
      refine wl_assign rfl rfl (by decide) ?_
      refine wl_nil ?_
      refine eo_then ?_
      refine cw_seq ?_
      refine cw_region ?_
      refine wl_move rfl rfl (by decide) ?_
      refine wl_ar rfl rfl rfl (((c + (q * (es.getD i 0))) / 4294967296 : Nat) : Int) (au_quo (a := c + (q * (es.getD i 0))) (b := 4294967296) rfl rfl (by omega) (by omega)) (by decide) ?_
      refine wl_assign rfl rfl (by decide) ?_
      refine wl_nil ?_
      refine eo_then ?_
      refine cw_seq ?_
      have hd := Wfb_getD (b := 4294967296) (by decide) hwf (s + i)
      by_cases hlow : l'.getD (s + i) 0 < (c + (q * (es.getD i 0))) % 4294967296
      ·
        refine cw_region ?_
        refine wl_move rfl rfl (by decide) ?_
        refine wl_move rfl rfl (by decide) ?_
        refine wl_move rfl rfl (by decide) ?_
        refine wl_ar rfl rfl rfl ((s + i : Nat) : Int) (ai_add (a := s) (b := i) rfl rfl (by omega)) (by decide) ?_
        refine wl_idx rfl rfl rfl un_u64 sz_u64 (s + i) rfl (by omega) ⟨g, s + i, none⟩ (arr_at _ _) (by decide) ?_
        refine wl_load rfl rfl (load_word ag_u64 hb (by rw [hl]; omega)) (by decide) ?_
        refine wl_move rfl rfl (by decide) ?_
        refine wl_cmp rfl rfl rfl true (cb_lt_t (a := l'.getD (s + i) 0) (b := (c + (q * (es.getD i 0))) % 4294967296) rfl rfl (by omega)) (by decide) ?_
        refine wl_nil ?_
        refine eo_then ?_
        refine cw_true rfl ?_
        refine cw_seq ?_
        refine cw_region ?_
        refine wl_move rfl rfl (by decide) ?_
        refine wl_move rfl rfl (by decide) ?_
        refine wl_move rfl rfl (by decide) ?_
        refine wl_ar rfl rfl rfl ((s + i : Nat) : Int) (ai_add (a := s) (b := i) rfl rfl (by omega)) (by decide) ?_
        refine wl_move rfl rfl (by decide) ?_
        refine wl_move rfl rfl (by decide) ?_
        refine wl_move rfl rfl (by decide) ?_
        refine wl_ar rfl rfl rfl ((s + i : Nat) : Int) (ai_add (a := s) (b := i) rfl rfl (by omega)) (by decide) ?_
        refine wl_idx rfl rfl rfl un_u64 sz_u64 (s + i) rfl (by omega) ⟨g, s + i, none⟩ (arr_at _ _) (by decide) ?_
        refine wl_load rfl rfl (load_word ag_u64 hb (by rw [hl]; omega)) (by decide) ?_
        refine wl_ar rfl rfl rfl (((l'.getD (s + i) 0) + 4294967296 : Nat) : Int) (au_add (a := l'.getD (s + i) 0) (b := 4294967296) rfl rfl (by omega)) (by decide) ?_
        refine wl_move rfl rfl (by decide) ?_
        refine wl_ar rfl rfl rfl ((((l'.getD (s + i) 0) + 4294967296) - ((c + (q * (es.getD i 0))) % 4294967296) : Nat) : Int) (au_sub (a := (l'.getD (s + i) 0) + 4294967296) (b := (c + (q * (es.getD i 0))) % 4294967296) rfl rfl (by omega) (by omega)) (by decide) ?_
        refine wl_idx rfl rfl rfl un_u64 sz_u64 (s + i) rfl (by omega) ⟨g, s + i, none⟩ (arr_at _ _) (by decide) ?_
        have hb3 := hb
        refine wl_stored1 rfl rfl rfl sz_u64 rfl hb3 (len_map (by rw [hl]; omega)) rfl ((l'.set (s + i) (((l'.getD (s + i) 0) + 4294967296) - ((c + (q * (es.getD i 0))) % 4294967296))).map W64) (map_W64_set _ _ _) fun v2 hb4 u5 hs6 => ?_
        refine wl_nil ?_
        refine eo_then ?_
        refine cw_region ?_
        refine wl_move rfl rfl (by decide) ?_
        refine wl_ar rfl rfl rfl ((((c + (q * (es.getD i 0))) / 4294967296) + 1 : Nat) : Int) (au_add (a := (c + (q * (es.getD i 0))) / 4294967296) (b := 1) rfl rfl (by omega)) (by decide) ?_
        refine wl_assign rfl rfl (by decide) ?_
        refine wl_nil ?_
        refine eo_block_normal ?_
        refine eo_then ?_
        refine cw_region ?_
        refine wl_move rfl rfl (by decide) ?_
        refine wl_ar rfl rfl rfl ((i + 1 : Nat) : Int) (ai_add (a := i) (b := 1) rfl rfl (by omega)) (by decide) ?_
        refine wl_assign rfl rfl (by decide) ?_
        refine wl_nil ?_
        refine eo_round (⟨v2, i + 1, _, _⟩ : World × Nat × Nat × List Nat) ⟨hu.trans u5, (by omega), (by omega), hb4, (len_set (l := l') (hl)), Wfb_set hwf _ (by omega), takeOff_step hv (by omega) rfl rfl (nb_take_snoc _ _ _ (by omega)) (by omega), (Rd.updL rl1 u5 hne)⟩ (show N - (s + (i + 1)) < N - (s + i) by omega) rfl ⟨rfl, rfl, rfl, rfl, rfl, rfl, trivial⟩
      ·
        refine cw_region ?_
        refine wl_move rfl rfl (by decide) ?_
        refine wl_move rfl rfl (by decide) ?_
        refine wl_move rfl rfl (by decide) ?_
        refine wl_ar rfl rfl rfl ((s + i : Nat) : Int) (ai_add (a := s) (b := i) rfl rfl (by omega)) (by decide) ?_
        refine wl_idx rfl rfl rfl un_u64 sz_u64 (s + i) rfl (by omega) ⟨g, s + i, none⟩ (arr_at _ _) (by decide) ?_
        refine wl_load rfl rfl (load_word ag_u64 hb (by rw [hl]; omega)) (by decide) ?_
        refine wl_move rfl rfl (by decide) ?_
        refine wl_cmp rfl rfl rfl false (cb_lt_f (a := l'.getD (s + i) 0) (b := (c + (q * (es.getD i 0))) % 4294967296) rfl rfl (by omega)) (by decide) ?_
        refine wl_nil ?_
        refine eo_then ?_
        refine cw_false rfl ?_
        refine cw_region ?_
        refine wl_move rfl rfl (by decide) ?_
        refine wl_move rfl rfl (by decide) ?_
        refine wl_move rfl rfl (by decide) ?_
        refine wl_ar rfl rfl rfl ((s + i : Nat) : Int) (ai_add (a := s) (b := i) rfl rfl (by omega)) (by decide) ?_
        refine wl_move rfl rfl (by decide) ?_
        refine wl_move rfl rfl (by decide) ?_
        refine wl_move rfl rfl (by decide) ?_
        refine wl_ar rfl rfl rfl ((s + i : Nat) : Int) (ai_add (a := s) (b := i) rfl rfl (by omega)) (by decide) ?_
        refine wl_idx rfl rfl rfl un_u64 sz_u64 (s + i) rfl (by omega) ⟨g, s + i, none⟩ (arr_at _ _) (by decide) ?_
        refine wl_load rfl rfl (load_word ag_u64 hb (by rw [hl]; omega)) (by decide) ?_
        refine wl_move rfl rfl (by decide) ?_
        refine wl_ar rfl rfl rfl (((l'.getD (s + i) 0) - ((c + (q * (es.getD i 0))) % 4294967296) : Nat) : Int) (au_sub (a := l'.getD (s + i) 0) (b := (c + (q * (es.getD i 0))) % 4294967296) rfl rfl (by omega) (by omega)) (by decide) ?_
        refine wl_idx rfl rfl rfl un_u64 sz_u64 (s + i) rfl (by omega) ⟨g, s + i, none⟩ (arr_at _ _) (by decide) ?_
        have hb8 := hb
        refine wl_stored1 rfl rfl rfl sz_u64 rfl hb8 (len_map (by rw [hl]; omega)) rfl ((l'.set (s + i) ((l'.getD (s + i) 0) - ((c + (q * (es.getD i 0))) % 4294967296))).map W64) (map_W64_set _ _ _) fun v7 hb9 u10 hs11 => ?_
        refine wl_nil ?_
        refine eo_block_normal ?_
        refine eo_then ?_
        refine cw_region ?_
        refine wl_move rfl rfl (by decide) ?_
        refine wl_ar rfl rfl rfl ((i + 1 : Nat) : Int) (ai_add (a := i) (b := 1) rfl rfl (by omega)) (by decide) ?_
        refine wl_assign rfl rfl (by decide) ?_
        refine wl_nil ?_
        refine eo_round (⟨v7, i + 1, _, _⟩ : World × Nat × Nat × List Nat) ⟨hu.trans u10, (by omega), (by omega), hb9, (len_set (l := l') (hl)), Wfb_set hwf _ (by omega), takeOff_step hv (by omega) rfl rfl (nb_take_snoc _ _ _ (by omega)) (by omega), (Rd.updL rl1 u10 hne)⟩ (show N - (s + (i + 1)) < N - (s + i) by omega) rfl ⟨rfl, rfl, rfl, rfl, rfl, rfl, trivial⟩
    ·
      by_cases hcp : c > 0
      ·
        refine cw_region ?_
        refine wl_move rfl rfl (by decide) ?_
        refine wl_move rfl rfl (by decide) ?_
        refine wl_ar rfl rfl rfl ((s + i : Nat) : Int) (ai_add (a := s) (b := i) rfl rfl (by omega)) (by decide) ?_
        refine wl_move rfl rfl (by decide) ?_
        refine wl_pure rfl rfl (v := .int .i64 ((N : Nat) : Int)) (by decide) (by kernel_rfl) ?_
        refine wl_cmp rfl rfl rfl true (cb_lt_t (a := s + i) (b := N) rfl rfl (by omega)) (by decide) ?_
        refine wl_move rfl rfl (by decide) ?_
        refine wl_move rfl rfl (by decide) ?_
        refine wl_move rfl rfl (by decide) ?_
        refine wl_pure rfl rfl (v := .int .i64 ((m : Nat) : Int)) (by decide) (by kernel_rfl) ?_
        refine wl_cmp rfl rfl rfl false (cb_lt_f (a := i) (b := m) rfl rfl (by omega)) (by decide) ?_
        refine wl_move rfl rfl (by decide) ?_
        refine wl_move rfl rfl (by decide) ?_
        refine wl_cmp rfl rfl rfl true (cb_gt_t (a := c) (b := 0) rfl rfl (by omega)) (by decide) ?_
        refine wl_pure rfl rfl (v := .bool true) (by decide) (by kernel_rfl) ?_
        refine wl_pure rfl rfl (v := .bool true) (by decide) (by kernel_rfl) ?_
        refine wl_nil ?_
        refine eo_then ?_
        refine cw_true rfl ?_
        refine cw_skip ?_
        refine eo_then ?_
        refine cw_seq ?_
        refine cw_block ?_
        refine cw_seq ?_
        refine cw_region ?_
        refine wl_move rfl rfl (by decide) ?_
        refine wl_assign rfl rfl (by decide) ?_
        refine wl_nil ?_
        refine eo_then ?_
        refine cw_seq ?_
        refine cw_seq ?_
        refine cw_region ?_
        refine wl_move rfl rfl (by decide) ?_
        refine wl_move rfl rfl (by decide) ?_
        refine wl_pure rfl rfl (v := .int .i64 ((m : Nat) : Int)) (by decide) (by kernel_rfl) ?_
        refine wl_cmp rfl rfl rfl false (cb_lt_f (a := i) (b := m) rfl rfl (by omega)) (by decide) ?_
        refine wl_nil ?_
        refine eo_then ?_
        refine cw_false rfl ?_
        refine cw_skip ?_
        refine eo_then ?_
        refine cw_seq ?_
        refine cw_region ?_
        refine wl_move rfl rfl (by decide) ?_
        refine wl_ar rfl rfl rfl ((c % 4294967296 : Nat) : Int) (au_rem (a := c) (b := 4294967296) rfl rfl (by omega)) (by decide) ?_
        refine wl_assign rfl rfl (by decide) ?_
        refine wl_nil ?_
        refine eo_then ?_
        refine cw_seq ?_
        refine cw_region ?_
        refine wl_move rfl rfl (by decide) ?_
        refine wl_ar rfl rfl rfl ((c / 4294967296 : Nat) : Int) (au_quo (a := c) (b := 4294967296) rfl rfl (by omega) (by omega)) (by decide) ?_
        refine wl_assign rfl rfl (by decide) ?_
        refine wl_nil ?_
        refine eo_then ?_
        refine cw_seq ?_
        have hd := Wfb_getD (b := 4294967296) (by decide) hwf (s + i)
        by_cases hlow : l'.getD (s + i) 0 < c % 4294967296
        ·
          refine cw_region ?_
          refine wl_move rfl rfl (by decide) ?_
          refine wl_move rfl rfl (by decide) ?_
          refine wl_move rfl rfl (by decide) ?_
          refine wl_ar rfl rfl rfl ((s + i : Nat) : Int) (ai_add (a := s) (b := i) rfl rfl (by omega)) (by decide) ?_
          refine wl_idx rfl rfl rfl un_u64 sz_u64 (s + i) rfl (by omega) ⟨g, s + i, none⟩ (arr_at _ _) (by decide) ?_
          refine wl_load rfl rfl (load_word ag_u64 hb (by rw [hl]; omega)) (by decide) ?_
          refine wl_move rfl rfl (by decide) ?_
          refine wl_cmp rfl rfl rfl true (cb_lt_t (a := l'.getD (s + i) 0) (b := c % 4294967296) rfl rfl (by omega)) (by decide) ?_
          refine wl_nil ?_
          refine eo_then ?_
          refine cw_true rfl ?_
          refine cw_seq ?_
          refine cw_region ?_
          refine wl_move rfl rfl (by decide) ?_
          refine wl_move rfl rfl (by decide) ?_
          refine wl_move rfl rfl (by decide) ?_
          refine wl_ar rfl rfl rfl ((s + i : Nat) : Int) (ai_add (a := s) (b := i) rfl rfl (by omega)) (by decide) ?_
          refine wl_move rfl rfl (by decide) ?_
          refine wl_move rfl rfl (by decide) ?_
          refine wl_move rfl rfl (by decide) ?_
          refine wl_ar rfl rfl rfl ((s + i : Nat) : Int) (ai_add (a := s) (b := i) rfl rfl (by omega)) (by decide) ?_
          refine wl_idx rfl rfl rfl un_u64 sz_u64 (s + i) rfl (by omega) ⟨g, s + i, none⟩ (arr_at _ _) (by decide) ?_
          refine wl_load rfl rfl (load_word ag_u64 hb (by rw [hl]; omega)) (by decide) ?_
          refine wl_ar rfl rfl rfl (((l'.getD (s + i) 0) + 4294967296 : Nat) : Int) (au_add (a := l'.getD (s + i) 0) (b := 4294967296) rfl rfl (by omega)) (by decide) ?_
          refine wl_move rfl rfl (by decide) ?_
          refine wl_ar rfl rfl rfl ((((l'.getD (s + i) 0) + 4294967296) - (c % 4294967296) : Nat) : Int) (au_sub (a := (l'.getD (s + i) 0) + 4294967296) (b := c % 4294967296) rfl rfl (by omega) (by omega)) (by decide) ?_
          refine wl_idx rfl rfl rfl un_u64 sz_u64 (s + i) rfl (by omega) ⟨g, s + i, none⟩ (arr_at _ _) (by decide) ?_
          have hb13 := hb
          refine wl_stored1 rfl rfl rfl sz_u64 rfl hb13 (len_map (by rw [hl]; omega)) rfl ((l'.set (s + i) (((l'.getD (s + i) 0) + 4294967296) - (c % 4294967296))).map W64) (map_W64_set _ _ _) fun v12 hb14 u15 hs16 => ?_
          refine wl_nil ?_
          refine eo_then ?_
          refine cw_region ?_
          refine wl_move rfl rfl (by decide) ?_
          refine wl_ar rfl rfl rfl (((c / 4294967296) + 1 : Nat) : Int) (au_add (a := c / 4294967296) (b := 1) rfl rfl (by omega)) (by decide) ?_
          refine wl_assign rfl rfl (by decide) ?_
          refine wl_nil ?_
          refine eo_block_normal ?_
          refine eo_then ?_
          refine cw_region ?_
          refine wl_move rfl rfl (by decide) ?_
          refine wl_ar rfl rfl rfl ((i + 1 : Nat) : Int) (ai_add (a := i) (b := 1) rfl rfl (by omega)) (by decide) ?_
          refine wl_assign rfl rfl (by decide) ?_
          refine wl_nil ?_
          refine eo_round (⟨v12, i + 1, _, _⟩ : World × Nat × Nat × List Nat) ⟨hu.trans u15, (by omega), (by omega), hb14, (len_set (l := l') (hl)), Wfb_set hwf _ (by omega), takeOff_step hv (by omega) rfl (T := c) (e := 0) (by simp) (takeOff_more (by omega)) (by omega), (Rd.updL rl1 u15 hne)⟩ (show N - (s + (i + 1)) < N - (s + i) by omega) rfl ⟨rfl, rfl, rfl, rfl, rfl, rfl, trivial⟩
        ·
          refine cw_region ?_
          refine wl_move rfl rfl (by decide) ?_
          refine wl_move rfl rfl (by decide) ?_
          refine wl_move rfl rfl (by decide) ?_
          refine wl_ar rfl rfl rfl ((s + i : Nat) : Int) (ai_add (a := s) (b := i) rfl rfl (by omega)) (by decide) ?_
          refine wl_idx rfl rfl rfl un_u64 sz_u64 (s + i) rfl (by omega) ⟨g, s + i, none⟩ (arr_at _ _) (by decide) ?_
          refine wl_load rfl rfl (load_word ag_u64 hb (by rw [hl]; omega)) (by decide) ?_
          refine wl_move rfl rfl (by decide) ?_
          refine wl_cmp rfl rfl rfl false (cb_lt_f (a := l'.getD (s + i) 0) (b := c % 4294967296) rfl rfl (by omega)) (by decide) ?_
          refine wl_nil ?_
          refine eo_then ?_
          refine cw_false rfl ?_
          refine cw_region ?_
          refine wl_move rfl rfl (by decide) ?_
          refine wl_move rfl rfl (by decide) ?_
          refine wl_move rfl rfl (by decide) ?_
          refine wl_ar rfl rfl rfl ((s + i : Nat) : Int) (ai_add (a := s) (b := i) rfl rfl (by omega)) (by decide) ?_
          refine wl_move rfl rfl (by decide) ?_
          refine wl_move rfl rfl (by decide) ?_
          refine wl_move rfl rfl (by decide) ?_
          refine wl_ar rfl rfl rfl ((s + i : Nat) : Int) (ai_add (a := s) (b := i) rfl rfl (by omega)) (by decide) ?_
          refine wl_idx rfl rfl rfl un_u64 sz_u64 (s + i) rfl (by omega) ⟨g, s + i, none⟩ (arr_at _ _) (by decide) ?_
          refine wl_load rfl rfl (load_word ag_u64 hb (by rw [hl]; omega)) (by decide) ?_
          refine wl_move rfl rfl (by decide) ?_
          refine wl_ar rfl rfl rfl (((l'.getD (s + i) 0) - (c % 4294967296) : Nat) : Int) (au_sub (a := l'.getD (s + i) 0) (b := c % 4294967296) rfl rfl (by omega) (by omega)) (by decide) ?_
          refine wl_idx rfl rfl rfl un_u64 sz_u64 (s + i) rfl (by omega) ⟨g, s + i, none⟩ (arr_at _ _) (by decide) ?_
          have hb18 := hb
          refine wl_stored1 rfl rfl rfl sz_u64 rfl hb18 (len_map (by rw [hl]; omega)) rfl ((l'.set (s + i) ((l'.getD (s + i) 0) - (c % 4294967296))).map W64) (map_W64_set _ _ _) fun v17 hb19 u20 hs21 => ?_
          refine wl_nil ?_
          refine eo_block_normal ?_
          refine eo_then ?_
          refine cw_region ?_
          refine wl_move rfl rfl (by decide) ?_
          refine wl_ar rfl rfl rfl ((i + 1 : Nat) : Int) (ai_add (a := i) (b := 1) rfl rfl (by omega)) (by decide) ?_
          refine wl_assign rfl rfl (by decide) ?_
          refine wl_nil ?_
          refine eo_round (⟨v17, i + 1, _, _⟩ : World × Nat × Nat × List Nat) ⟨hu.trans u20, (by omega), (by omega), hb19, (len_set (l := l') (hl)), Wfb_set hwf _ (by omega), takeOff_step hv (by omega) rfl (T := c) (e := 0) (by simp) (takeOff_more (by omega)) (by omega), (Rd.updL rl1 u20 hne)⟩ (show N - (s + (i + 1)) < N - (s + i) by omega) rfl ⟨rfl, rfl, rfl, rfl, rfl, rfl, trivial⟩
      ·
        refine cw_region ?_
        refine wl_move rfl rfl (by decide) ?_
        refine wl_move rfl rfl (by decide) ?_
        refine wl_ar rfl rfl rfl ((s + i : Nat) : Int) (ai_add (a := s) (b := i) rfl rfl (by omega)) (by decide) ?_
        refine wl_move rfl rfl (by decide) ?_
        refine wl_pure rfl rfl (v := .int .i64 ((N : Nat) : Int)) (by decide) (by kernel_rfl) ?_
        refine wl_cmp rfl rfl rfl true (cb_lt_t (a := s + i) (b := N) rfl rfl (by omega)) (by decide) ?_
        refine wl_move rfl rfl (by decide) ?_
        refine wl_move rfl rfl (by decide) ?_
        refine wl_move rfl rfl (by decide) ?_
        refine wl_pure rfl rfl (v := .int .i64 ((m : Nat) : Int)) (by decide) (by kernel_rfl) ?_
        refine wl_cmp rfl rfl rfl false (cb_lt_f (a := i) (b := m) rfl rfl (by omega)) (by decide) ?_
        refine wl_move rfl rfl (by decide) ?_
        refine wl_move rfl rfl (by decide) ?_
        refine wl_cmp rfl rfl rfl false (cb_gt_f (a := c) (b := 0) rfl rfl (by omega)) (by decide) ?_
        refine wl_pure rfl rfl (v := .bool false) (by decide) (by kernel_rfl) ?_
        refine wl_pure rfl rfl (v := .bool false) (by decide) (by kernel_rfl) ?_
        refine wl_nil ?_
        refine eo_then ?_
        refine cw_false rfl ?_
        refine cw_exit ?_
        refine eo_thenX ?_
        refine eo_loopX ?_
        refine eo_block_here ?_
        refine eo_end [] rfl trivial ?_
        exact ⟨rfl, hu, l', hb, hl, hwf, takeOff_done hwf hl hle hs hi hq hv (Or.inr ⟨by omega, by omega⟩)⟩
  ·
    refine cw_region ?_
    refine wl_move rfl rfl (by decide) ?_
    refine wl_move rfl rfl (by decide) ?_
    refine wl_ar rfl rfl rfl ((s + i : Nat) : Int) (ai_add (a := s) (b := i) rfl rfl (by omega)) (by decide) ?_
    refine wl_move rfl rfl (by decide) ?_
    refine wl_pure rfl rfl (v := .int .i64 ((N : Nat) : Int)) (by decide) (by kernel_rfl) ?_
    refine wl_cmp rfl rfl rfl false (cb_lt_f (a := s + i) (b := N) rfl rfl (by omega)) (by decide) ?_
    refine wl_move rfl rfl (by decide) ?_
    refine wl_off rfl (by decide) ?_
    refine wl_off rfl (by decide) ?_
    refine wl_off rfl (by decide) ?_
    refine wl_off rfl (by decide) ?_
    refine wl_off rfl (by decide) ?_
    refine wl_off rfl (by decide) ?_
    refine wl_off rfl (by decide) ?_
    refine wl_off rfl (by decide) ?_
    refine wl_pure rfl rfl (v := .bool false) (by decide) (by kernel_rfl) ?_
    refine wl_nil ?_
    refine eo_then ?_
    refine cw_false rfl ?_
    refine cw_exit ?_
    refine eo_thenX ?_
    refine eo_loopX ?_
    refine eo_block_here ?_
    refine eo_end [] rfl trivial ?_
    exact ⟨rfl, hu, l', hb, hl, hwf, takeOff_done hwf hl hle hs hi hq hv (Or.inl (by omega))⟩
theorem drop_getD3 {xs : List Nat} {k : Nat} (h : k < xs.length) (b : Nat) : nb b (xs.drop k) = xs.getD k 0 + b * nb b (xs.drop (k + 1)) := by
  rw [List.drop_eq_getElem_cons h, nb_cons, List.getD_eq_getElem?_getD, List.getElem?_eq_getElem h]; rfl
section
set_option linter.unusedSectionVars false
variable {xs es : List Nat} {n m s : Nat} (hx : xs.length = n) (he : es.length = m) (hs : s + m ≤ n) (hwx : Wfb 4294967296 xs) (hwe : Wfb 4294967296 es)
include hx he hs hwx hwe
theorem goes_start (hbig : nb 4294967296 xs < 4294967296 ^ (s + m + 1)) (h0 : s + m < n → xs.getD (s + m) 0 = 0) : nb 4294967296 (xs.drop (s + m)) = nb 4294967296 (es.drop m) := by
  rw [List.drop_of_length_le (l := es) (by omega), nb_nil]
  by_cases hlt : s + m < n
  · have h1 := nb_split 4294967296 xs (s + m) (by omega)
    have h2 := drop_getD3 (xs := xs) (k := s + m) (by omega) 4294967296
    rw [h0 hlt, Nat.zero_add] at h2
    rw [h2] at h1 ⊢
    refine Nat.mul_eq_zero.2 (Or.inr (Nat.eq_zero_of_not_pos fun hp => ?_))
    rw [Nat.pow_succ, ← Nat.mul_assoc] at *
    have h3 : 4294967296 ^ (s + m) * 4294967296 * 1 ≤ 4294967296 ^ (s + m) * 4294967296 * nb 4294967296 (xs.drop (s + m + 1)) := Nat.mul_le_mul_left _ hp
    omega
  · rw [List.drop_of_length_le (by omega), nb_nil]
theorem goes_top (h0 : s + m < n) (hp : 0 < xs.getD (s + m) 0) : nb 4294967296 es * 4294967296 ^ s ≤ nb 4294967296 xs := by
  have h1 := nb_split 4294967296 xs (s + m) (by omega)
  have h2 := drop_getD3 (xs := xs) (k := s + m) (by omega) 4294967296
  have h3 := nb_lt hwe
  rw [he] at h3
  have h4 : nb 4294967296 es * 4294967296 ^ s ≤ 4294967296 ^ m * 4294967296 ^ s := Nat.mul_le_mul_right _ (Nat.le_of_lt h3)
  rw [← Nat.pow_add, Nat.add_comm m s] at h4
  have h5 : 4294967296 ^ (s + m) * 1 ≤ 4294967296 ^ (s + m) * nb 4294967296 (xs.drop (s + m)) := Nat.mul_le_mul_left _ (by omega)
  omega
theorem goes_lt {j : Nat} (hj : j < m) (h : nb 4294967296 (xs.drop (s + (j + 1))) = nb 4294967296 (es.drop (j + 1))) (hd : xs.getD (s + j) 0 < es.getD j 0) : ¬ nb 4294967296 es * 4294967296 ^ s ≤ nb 4294967296 xs := by
  have h2 := drop_getD3 (xs := xs) (k := s + j) (by omega) 4294967296
  have h3 := drop_getD3 (xs := es) (k := j) (by omega) 4294967296
  rw [Nat.add_assoc, h] at h2
  have h4 := nb_split 4294967296 xs (s + j) (by omega)
  have h5 := nb_split 4294967296 es j (by omega)
  have h6 := nb_take_lt (by decide) hwx (s + j)
  have h7 : 4294967296 ^ (s + j) * (nb 4294967296 (xs.drop (s + j)) + 1) ≤ 4294967296 ^ (s + j) * nb 4294967296 (es.drop j) := Nat.mul_le_mul_left _ (by omega)
  have h8 : 4294967296 ^ (s + j) * nb 4294967296 (es.drop j) ≤ nb 4294967296 es * 4294967296 ^ s := by
    rw [h5, Nat.add_mul, Nat.pow_add, Nat.mul_assoc, Nat.mul_comm (4294967296 ^ s)]
    exact Nat.le_add_left _ _
  rw [Nat.mul_add] at h7
  omega
theorem goes_gt {j : Nat} (hj : j < m) (h : nb 4294967296 (xs.drop (s + (j + 1))) = nb 4294967296 (es.drop (j + 1))) (hd : xs.getD (s + j) 0 > es.getD j 0) : nb 4294967296 es * 4294967296 ^ s ≤ nb 4294967296 xs := by
  have h2 := drop_getD3 (xs := xs) (k := s + j) (by omega) 4294967296
  have h3 := drop_getD3 (xs := es) (k := j) (by omega) 4294967296
  rw [Nat.add_assoc, h] at h2
  have h4 := nb_split 4294967296 xs (s + j) (by omega)
  have h5 := nb_split 4294967296 es j (by omega)
  have h6 := nb_take_lt (by decide) hwe j
  have h7 : 4294967296 ^ j * (nb 4294967296 (es.drop j) + 1) ≤ 4294967296 ^ j * nb 4294967296 (xs.drop (s + j)) := Nat.mul_le_mul_left _ (by omega)
  rw [Nat.mul_add] at h7
  have h8 : nb 4294967296 es ≤ 4294967296 ^ j * nb 4294967296 (xs.drop (s + j)) := by omega
  have h9 : nb 4294967296 es * 4294967296 ^ s ≤ 4294967296 ^ j * nb 4294967296 (xs.drop (s + j)) * 4294967296 ^ s := Nat.mul_le_mul_right _ h8
  have e : 4294967296 ^ j * nb 4294967296 (xs.drop (s + j)) * 4294967296 ^ s = 4294967296 ^ (s + j) * nb 4294967296 (xs.drop (s + j)) := by
    rw [Nat.pow_add, Nat.mul_right_comm, Nat.mul_comm (4294967296 ^ j)]
  omega
theorem goes_eq (h : nb 4294967296 (xs.drop (s + 0)) = nb 4294967296 (es.drop 0)) : nb 4294967296 es * 4294967296 ^ s ≤ nb 4294967296 xs := by
  have h4 := nb_split 4294967296 xs s (by omega)
  rw [Nat.add_zero, List.drop_zero] at h
  rw [h4, h, Nat.mul_comm]
  exact Nat.le_add_left _ _
theorem goes_step {j : Nat} (hj : j < m) (h : nb 4294967296 (xs.drop (s + (j + 1))) = nb 4294967296 (es.drop (j + 1))) (hd : xs.getD (s + j) 0 = es.getD j 0) : nb 4294967296 (xs.drop (s + j)) = nb 4294967296 (es.drop j) := by
  rw [drop_getD3 (xs := xs) (k := s + j) (by omega), drop_getD3 (xs := es) (k := j) (by omega), Nat.add_assoc, h, hd]
end
set_option maxHeartbeats 4000000 in
theorem ref3_goes {w : World} {A D : Option Addr} {n cap m cd s : Nat} {xs es : List Nat} (hx : Rd w A n cap xs) (hln : n ≤ 1099511627776) (hy : Rd w D m cd es) (hwx : Wfb 4294967296 xs) (hwe : Wfb 4294967296 es) (hs : s + m ≤ n) (hbig : nb 4294967296 xs < 4294967296 ^ (s + m + 1)) :
    Calls Try.prog 101 #[.slice A n cap, .slice D m cd, .int .i64 ((s : Nat) : Int)] w (Gv w (Is (.bool (decide (nb 4294967296 es * 4294967296 ^ s ≤ nb 4294967296 xs))))) := by
  have hlen := hx.len
  have hle := hx.rv.le
  have hle2 := hy.len
  refine sx_enter Try.func101 rfl (n := 53) rfl (Nat.le_of_ble_eq_true rfl) (args := [.slice A n cap, .slice D m cd, .int .i64 ((s : Nat) : Int)]) ?_
  refine cw_keep [(0, .slice A n cap), (1, .slice D m cd), (2, .int .i64 ((s : Nat) : Int))] ⟨rfl, rfl, rfl, trivial⟩ ?_
  refine cw_seq ?_
  refine cw_region ?_
  refine wl_assign rfl rfl (by decide) ?_
  refine wl_nil ?_
  refine eo_then ?_
  refine cw_seq ?_
  refine cw_region ?_
  refine wl_move rfl rfl (by decide) ?_
  refine wl_move rfl rfl (by decide) ?_
  refine wl_pure rfl rfl (v := .int .i64 ((m : Nat) : Int)) (by decide) (by kernel_rfl) ?_
  refine wl_ar rfl rfl rfl ((s + m : Nat) : Int) (ai_add (a := s) (b := m) rfl rfl (by omega)) (by decide) ?_
  refine wl_assign rfl rfl (by decide) ?_
  refine wl_nil ?_
  refine eo_then ?_
  refine cw_seq ?_
  refine cw_seq ?_
  by_cases htop : s + m < n
  ·
    by_cases hpos : xs.getD (s + m) 0 > 0
    ·
      refine cw_region ?_
      refine wl_move rfl rfl (by decide) ?_
      refine wl_move rfl rfl (by decide) ?_
      refine wl_pure rfl rfl (v := .int .i64 ((n : Nat) : Int)) (by decide) (by kernel_rfl) ?_
      refine wl_cmp rfl rfl rfl true (cb_lt_t (a := s + m) (b := n) rfl rfl (by omega)) (by decide) ?_
      refine wl_move rfl rfl (by decide) ?_
      refine wl_move rfl rfl (by decide) ?_
      refine wl_move rfl rfl (by decide) ?_
      obtain ⟨p1, hp1, hc1, hv1⟩ := (hx).at (i := s + m) (by omega)
      refine wl_idx rfl rfl rfl un_u64 sz_u64 (s + m) rfl (by omega) p1 hp1 (by decide) ?_
      refine wl_load rfl rfl (load_cell1 ag_u64 hc1) (by decide) ?_
      refine wl_cmp rfl rfl rfl true (cb_gt_t (a := xs.getD (s + m) 0) (b := 0) rfl rfl (by omega)) (by decide) ?_
      refine wl_pure rfl rfl (v := .bool true) (by decide) (by kernel_rfl) ?_
      refine wl_nil ?_
      refine eo_then ?_
      refine cw_true rfl ?_
      refine cw_seq ?_
      refine cw_region ?_
      refine wl_assign rfl rfl (by decide) ?_
      refine wl_nil ?_
      refine eo_then ?_
      refine cw_ret ?_
      refine eo_thenR ?_
      refine eo_ret [.bool true] rfl ⟨rfl, trivial⟩ ?_
      exact ⟨_, rfl, (show Value.bool true = _ by rw [decide_eq_true (goes_top hlen hle2 hs hwx hwe htop hpos)]), (Ext.refl w)⟩
    ·
      have hst := goes_start hlen hle2 hs hwx hwe hbig (fun _ => by omega)
      refine cw_region ?_
      refine wl_move rfl rfl (by decide) ?_
      refine wl_move rfl rfl (by decide) ?_
      refine wl_pure rfl rfl (v := .int .i64 ((n : Nat) : Int)) (by decide) (by kernel_rfl) ?_
      refine wl_cmp rfl rfl rfl true (cb_lt_t (a := s + m) (b := n) rfl rfl (by omega)) (by decide) ?_
      refine wl_move rfl rfl (by decide) ?_
      refine wl_move rfl rfl (by decide) ?_
      refine wl_move rfl rfl (by decide) ?_
      obtain ⟨p2, hp2, hc2, hv2⟩ := (hx).at (i := s + m) (by omega)
      refine wl_idx rfl rfl rfl un_u64 sz_u64 (s + m) rfl (by omega) p2 hp2 (by decide) ?_
      refine wl_load rfl rfl (load_cell1 ag_u64 hc2) (by decide) ?_
      refine wl_cmp rfl rfl rfl false (cb_gt_f (a := xs.getD (s + m) 0) (b := 0) rfl rfl (by omega)) (by decide) ?_
      refine wl_pure rfl rfl (v := .bool false) (by decide) (by kernel_rfl) ?_
      refine wl_nil ?_
      refine eo_then ?_
      refine cw_false rfl ?_
      refine cw_skip ?_
      refine eo_then ?_
      refine cw_seq ?_
      refine cw_seq ?_
      refine cw_region ?_
      refine wl_move rfl rfl (by decide) ?_
      refine wl_pure rfl rfl (v := .int .i64 ((m : Nat) : Int)) (by decide) (by kernel_rfl) ?_
      refine wl_ar rfl rfl rfl (((m : Nat) : Int) - 1) (ar_i64s rfl (by omega) (by omega)) (by decide) ?_
      refine wl_assign rfl rfl (by decide) ?_
      refine wl_nil ?_
      refine eo_then ?_
      refine cw_block ?_
      refine cw_loop (T := World × Nat × Int)
        (fun ⟨wr, k, ii⟩ => [(0, .slice A n cap), (1, .slice D m cd), (2, .int .i64 ((s : Nat) : Int)), (8, .int .i64 ii)])
        (fun ⟨wr, k, ii⟩ => wr)
        (fun ⟨wr, k, ii⟩ => (Ext w wr) ∧ (k ≤ m) ∧ (ii = (k : Int) - 1) ∧ (nb 4294967296 (xs.drop (s + k)) = nb 4294967296 (es.drop k)) ∧ (Rd wr A n cap xs) ∧ (Rd wr D m cd es))
        (fun ⟨wr, k, ii⟩ => k)
        (⟨w, m, _⟩ : World × Nat × Int) ⟨(Ext.refl w), Nat.le_refl _, rfl, hst, hx, hy⟩ rfl ⟨rfl, rfl, rfl, rfl, trivial⟩ ?_
      rintro ⟨wr, k, ii⟩ ⟨hw1, hk, hii, hv, rl0, rl1⟩
      refine cw_re [(0, .slice A n cap), (1, .slice D m cd), (2, .int .i64 ((s : Nat) : Int)), (8, .int .i64 ii)] wr rfl ⟨rfl, rfl, rfl, rfl, trivial⟩ ?_
      refine cw_seq ?_
      refine cw_seq ?_
      by_cases hkp : 0 < k
      ·
        obtain ⟨j, rfl⟩ : ∃ j, k = j + 1 := ⟨k - 1, by omega⟩
        obtain rfl : ii = (j : Int) := by omega
        refine cw_region ?_
        refine wl_move rfl rfl (by decide) ?_
        refine wl_cmp rfl rfl rfl true (cb_ge_t (a := j) (b := 0) rfl rfl (by omega)) (by decide) ?_
        refine wl_nil ?_
        refine eo_then ?_
        refine cw_true rfl ?_
        refine cw_skip ?_
        refine eo_then ?_
        refine cw_seq ?_
        refine cw_block ?_
        refine cw_seq ?_
        by_cases hne : xs.getD (s + j) 0 ≠ es.getD j 0
        ·
          refine cw_keep [(0, .slice A n cap), (1, .slice D m cd), (2, .int .i64 ((s : Nat) : Int)), (8, .int .i64 ((j : Nat) : Int)), (27, .int .i64 ((j : Nat) : Int)), (28, .bool true)] ⟨rfl, rfl, rfl, rfl, rfl, rfl, trivial⟩ ?_
          obtain ⟨v3, hv, e4⟩ : ∃ v, v = wr.drew ∧ Ext wr v := ⟨_, rfl, (Ext.refl _).drew⟩
          have hw2 : Ext w v3 := hw1.trans e4
          obtain ⟨p5, hp5, hc5, hv5⟩ := ((rl0.ext e4)).at (i := s + j) (by omega)
          obtain ⟨p6, hp6, hc6, hv6⟩ := ((rl1.ext e4)).at (i := j) (by omega)
          refine cw_det mix (w := v3) [.slice A n cap, .int .i64 ((s : Nat) : Int), .int .i64 ((j : Nat) : Int), .int .i64 ((s + j : Nat) : Int), .pointer (some p5), .int .u64 ((xs.getD (s + j) 0 : Nat) : Int), .slice D m cd, .int .i64 ((j : Nat) : Int), .pointer (some p6), .int .u64 ((es.getD j 0 : Nat) : Int), .bool true] [v3] [] [[], [], [], [1, 2], [0, 3], [4], [], [], [6, 7], [8], [5, 9]] [[], [], [], [1, 2], [0, 1, 2, 3], [0, 1, 2, 3, 4], [], [], [6, 7], [6, 7, 8], [0, 1, 2, 3, 4, 5, 6, 7, 8, 9]] [(0, 0), (1, 0), (2, 0), (3, 0), (4, 0), (5, 0), (6, 0), (7, 0), (8, 0), (9, 0), (10, 0)] rfl hv ?_ ?_
          ·
            refine dobs_val ([(0, .slice A n cap), (1, .slice D m cd), (2, .int .i64 ((s : Nat) : Int)), (8, .int .i64 ((j : Nat) : Int)), (27, .int .i64 ((j : Nat) : Int)), (28, .bool true)]) rfl rfl rfl rfl rfl (rd_move rfl) ?_
            refine dobs_val ([(0, .slice A n cap), (1, .slice D m cd), (2, .int .i64 ((s : Nat) : Int)), (8, .int .i64 ((j : Nat) : Int)), (27, .int .i64 ((j : Nat) : Int)), (28, .bool true)]) rfl rfl rfl rfl rfl (rd_move rfl) ?_
            refine dobs_val ([(0, .slice A n cap), (1, .slice D m cd), (2, .int .i64 ((s : Nat) : Int)), (8, .int .i64 ((j : Nat) : Int)), (27, .int .i64 ((j : Nat) : Int)), (28, .bool true)]) rfl rfl rfl rfl rfl (rd_move rfl) ?_
            refine dobs_val ((32, .int .i64 ((s : Nat) : Int)) :: (33, .int .i64 ((j : Nat) : Int)) :: [(0, .slice A n cap), (1, .slice D m cd), (2, .int .i64 ((s : Nat) : Int)), (8, .int .i64 ((j : Nat) : Int)), (27, .int .i64 ((j : Nat) : Int)), (28, .bool true)]) rfl rfl rfl rfl rfl (rd_ar rfl rfl ((s + j : Nat) : Int) (ai_add (a := s) (b := j) rfl rfl (by omega))) ?_
            refine dobs_val ((31, .slice A n cap) :: (34, .int .i64 ((s + j : Nat) : Int)) :: [(0, .slice A n cap), (1, .slice D m cd), (2, .int .i64 ((s : Nat) : Int)), (8, .int .i64 ((j : Nat) : Int)), (27, .int .i64 ((j : Nat) : Int)), (28, .bool true)]) rfl rfl rfl rfl rfl (rd_idx rfl rfl un_u64 sz_u64 (s + j) rfl (by omega) p5 hp5) ?_
            refine dobs_val ((35, .pointer (some p5)) :: [(0, .slice A n cap), (1, .slice D m cd), (2, .int .i64 ((s : Nat) : Int)), (8, .int .i64 ((j : Nat) : Int)), (27, .int .i64 ((j : Nat) : Int)), (28, .bool true)]) rfl rfl rfl rfl rfl (rd_load rfl (load_cell1 ag_u64 hc5)) ?_
            refine dobs_val ([(0, .slice A n cap), (1, .slice D m cd), (2, .int .i64 ((s : Nat) : Int)), (8, .int .i64 ((j : Nat) : Int)), (27, .int .i64 ((j : Nat) : Int)), (28, .bool true)]) rfl rfl rfl rfl rfl (rd_move rfl) ?_
            refine dobs_val ([(0, .slice A n cap), (1, .slice D m cd), (2, .int .i64 ((s : Nat) : Int)), (8, .int .i64 ((j : Nat) : Int)), (27, .int .i64 ((j : Nat) : Int)), (28, .bool true)]) rfl rfl rfl rfl rfl (rd_move rfl) ?_
            refine dobs_val ((37, .slice D m cd) :: (38, .int .i64 ((j : Nat) : Int)) :: [(0, .slice A n cap), (1, .slice D m cd), (2, .int .i64 ((s : Nat) : Int)), (8, .int .i64 ((j : Nat) : Int)), (27, .int .i64 ((j : Nat) : Int)), (28, .bool true)]) rfl rfl rfl rfl rfl (rd_idx rfl rfl un_u64 sz_u64 j rfl (by omega) p6 hp6) ?_
            refine dobs_val ((39, .pointer (some p6)) :: [(0, .slice A n cap), (1, .slice D m cd), (2, .int .i64 ((s : Nat) : Int)), (8, .int .i64 ((j : Nat) : Int)), (27, .int .i64 ((j : Nat) : Int)), (28, .bool true)]) rfl rfl rfl rfl rfl (rd_load rfl (load_cell1 ag_u64 hc6)) ?_
            refine dobs_val ((36, .int .u64 ((xs.getD (s + j) 0 : Nat) : Int)) :: (40, .int .u64 ((es.getD j 0 : Nat) : Int)) :: [(0, .slice A n cap), (1, .slice D m cd), (2, .int .i64 ((s : Nat) : Int)), (8, .int .i64 ((j : Nat) : Int)), (27, .int .i64 ((j : Nat) : Int)), (28, .bool true)]) rfl rfl rfl rfl rfl (rd_cmp rfl rfl true (cb_ne_t (a := xs.getD (s + j) 0) (b := es.getD j 0) rfl rfl (by omega))) ?_
            exact dobs_nil
          clear hv
          refine eo_keep [(0, .slice A n cap), (1, .slice D m cd), (2, .int .i64 ((s : Nat) : Int)), (8, .int .i64 ((j : Nat) : Int)), (27, .int .i64 ((j : Nat) : Int)), (28, .bool true), (31, .slice A n cap), (32, .int .i64 ((s : Nat) : Int)), (33, .int .i64 ((j : Nat) : Int)), (34, .int .i64 ((s + j : Nat) : Int)), (35, .pointer (some p5)), (36, .int .u64 ((xs.getD (s + j) 0 : Nat) : Int)), (37, .slice D m cd), (38, .int .i64 ((j : Nat) : Int)), (39, .pointer (some p6)), (40, .int .u64 ((es.getD j 0 : Nat) : Int)), (41, .bool true)] ⟨rfl, rfl, rfl, rfl, rfl, rfl, rfl, rfl, rfl, rfl, rfl, rfl, rfl, rfl, rfl, rfl, rfl, trivial⟩ ?_
          refine eo_then ?_
          refine cw_true rfl ?_
          refine cw_seq ?_
          by_cases hgt : xs.getD (s + j) 0 > es.getD j 0
          ·
            refine cw_keep [(0, .slice A n cap), (1, .slice D m cd), (2, .int .i64 ((s : Nat) : Int)), (8, .int .i64 ((j : Nat) : Int)), (27, .int .i64 ((j : Nat) : Int)), (28, .bool true), (31, .slice A n cap), (32, .int .i64 ((s : Nat) : Int)), (33, .int .i64 ((j : Nat) : Int)), (34, .int .i64 ((s + j : Nat) : Int)), (35, .pointer (some p5)), (36, .int .u64 ((xs.getD (s + j) 0 : Nat) : Int)), (37, .slice D m cd), (38, .int .i64 ((j : Nat) : Int)), (39, .pointer (some p6)), (40, .int .u64 ((es.getD j 0 : Nat) : Int)), (41, .bool true)] ⟨rfl, rfl, rfl, rfl, rfl, rfl, rfl, rfl, rfl, rfl, rfl, rfl, rfl, rfl, rfl, rfl, rfl, trivial⟩ ?_
            obtain ⟨v7, hv, e8⟩ : ∃ v, v = v3.drew ∧ Ext v3 v := ⟨_, rfl, (Ext.refl _).drew⟩
            have hw3 : Ext w v7 := hw2.trans e8
            refine cw_det mix (w := v7) [.slice A n cap, .int .i64 ((s : Nat) : Int), .int .i64 ((j : Nat) : Int), .int .i64 ((s + j : Nat) : Int), .pointer (some p5), .int .u64 ((xs.getD (s + j) 0 : Nat) : Int), .slice D m cd, .int .i64 ((j : Nat) : Int), .pointer (some p6), .int .u64 ((es.getD j 0 : Nat) : Int), .bool true, .bool true] [v7] [] [[], [], [], [1, 2], [0, 3], [4], [], [], [6, 7], [8], [5, 9], [10]] [[], [], [], [1, 2], [0, 1, 2, 3], [0, 1, 2, 3, 4], [], [], [6, 7], [6, 7, 8], [0, 1, 2, 3, 4, 5, 6, 7, 8, 9], [0, 1, 2, 3, 4, 5, 6, 7, 8, 9, 10]] [(0, 0), (1, 0), (2, 0), (3, 0), (4, 0), (5, 0), (6, 0), (7, 0), (8, 0), (9, 0), (10, 0), (11, 0)] rfl hv ?_ ?_
            ·
              refine dobs_val ([(0, .slice A n cap), (1, .slice D m cd), (2, .int .i64 ((s : Nat) : Int)), (8, .int .i64 ((j : Nat) : Int)), (27, .int .i64 ((j : Nat) : Int)), (28, .bool true), (31, .slice A n cap), (32, .int .i64 ((s : Nat) : Int)), (33, .int .i64 ((j : Nat) : Int)), (34, .int .i64 ((s + j : Nat) : Int)), (35, .pointer (some p5)), (36, .int .u64 ((xs.getD (s + j) 0 : Nat) : Int)), (37, .slice D m cd), (38, .int .i64 ((j : Nat) : Int)), (39, .pointer (some p6)), (40, .int .u64 ((es.getD j 0 : Nat) : Int)), (41, .bool true)]) rfl rfl rfl rfl rfl (rd_move rfl) ?_
              refine dobs_val ([(0, .slice A n cap), (1, .slice D m cd), (2, .int .i64 ((s : Nat) : Int)), (8, .int .i64 ((j : Nat) : Int)), (27, .int .i64 ((j : Nat) : Int)), (28, .bool true), (31, .slice A n cap), (32, .int .i64 ((s : Nat) : Int)), (33, .int .i64 ((j : Nat) : Int)), (34, .int .i64 ((s + j : Nat) : Int)), (35, .pointer (some p5)), (36, .int .u64 ((xs.getD (s + j) 0 : Nat) : Int)), (37, .slice D m cd), (38, .int .i64 ((j : Nat) : Int)), (39, .pointer (some p6)), (40, .int .u64 ((es.getD j 0 : Nat) : Int)), (41, .bool true)]) rfl rfl rfl rfl rfl (rd_move rfl) ?_
              refine dobs_val ([(0, .slice A n cap), (1, .slice D m cd), (2, .int .i64 ((s : Nat) : Int)), (8, .int .i64 ((j : Nat) : Int)), (27, .int .i64 ((j : Nat) : Int)), (28, .bool true), (31, .slice A n cap), (32, .int .i64 ((s : Nat) : Int)), (33, .int .i64 ((j : Nat) : Int)), (34, .int .i64 ((s + j : Nat) : Int)), (35, .pointer (some p5)), (36, .int .u64 ((xs.getD (s + j) 0 : Nat) : Int)), (37, .slice D m cd), (38, .int .i64 ((j : Nat) : Int)), (39, .pointer (some p6)), (40, .int .u64 ((es.getD j 0 : Nat) : Int)), (41, .bool true)]) rfl rfl rfl rfl rfl (rd_move rfl) ?_
              refine dobs_val ((43, .int .i64 ((s : Nat) : Int)) :: (44, .int .i64 ((j : Nat) : Int)) :: [(0, .slice A n cap), (1, .slice D m cd), (2, .int .i64 ((s : Nat) : Int)), (8, .int .i64 ((j : Nat) : Int)), (27, .int .i64 ((j : Nat) : Int)), (28, .bool true), (31, .slice A n cap), (32, .int .i64 ((s : Nat) : Int)), (33, .int .i64 ((j : Nat) : Int)), (34, .int .i64 ((s + j : Nat) : Int)), (35, .pointer (some p5)), (36, .int .u64 ((xs.getD (s + j) 0 : Nat) : Int)), (37, .slice D m cd), (38, .int .i64 ((j : Nat) : Int)), (39, .pointer (some p6)), (40, .int .u64 ((es.getD j 0 : Nat) : Int)), (41, .bool true)]) rfl rfl rfl rfl rfl (rd_ar rfl rfl ((s + j : Nat) : Int) (ai_add (a := s) (b := j) rfl rfl (by omega))) ?_
              refine dobs_val ((42, .slice A n cap) :: (45, .int .i64 ((s + j : Nat) : Int)) :: [(0, .slice A n cap), (1, .slice D m cd), (2, .int .i64 ((s : Nat) : Int)), (8, .int .i64 ((j : Nat) : Int)), (27, .int .i64 ((j : Nat) : Int)), (28, .bool true), (31, .slice A n cap), (32, .int .i64 ((s : Nat) : Int)), (33, .int .i64 ((j : Nat) : Int)), (34, .int .i64 ((s + j : Nat) : Int)), (35, .pointer (some p5)), (36, .int .u64 ((xs.getD (s + j) 0 : Nat) : Int)), (37, .slice D m cd), (38, .int .i64 ((j : Nat) : Int)), (39, .pointer (some p6)), (40, .int .u64 ((es.getD j 0 : Nat) : Int)), (41, .bool true)]) rfl rfl rfl rfl rfl (rd_idx rfl rfl un_u64 sz_u64 (s + j) rfl (by omega) p5 hp5) ?_
              refine dobs_val ((46, .pointer (some p5)) :: [(0, .slice A n cap), (1, .slice D m cd), (2, .int .i64 ((s : Nat) : Int)), (8, .int .i64 ((j : Nat) : Int)), (27, .int .i64 ((j : Nat) : Int)), (28, .bool true), (31, .slice A n cap), (32, .int .i64 ((s : Nat) : Int)), (33, .int .i64 ((j : Nat) : Int)), (34, .int .i64 ((s + j : Nat) : Int)), (35, .pointer (some p5)), (36, .int .u64 ((xs.getD (s + j) 0 : Nat) : Int)), (37, .slice D m cd), (38, .int .i64 ((j : Nat) : Int)), (39, .pointer (some p6)), (40, .int .u64 ((es.getD j 0 : Nat) : Int)), (41, .bool true)]) rfl rfl rfl rfl rfl (rd_load rfl (load_cell1 ag_u64 (e8.cell hc5))) ?_
              refine dobs_val ([(0, .slice A n cap), (1, .slice D m cd), (2, .int .i64 ((s : Nat) : Int)), (8, .int .i64 ((j : Nat) : Int)), (27, .int .i64 ((j : Nat) : Int)), (28, .bool true), (31, .slice A n cap), (32, .int .i64 ((s : Nat) : Int)), (33, .int .i64 ((j : Nat) : Int)), (34, .int .i64 ((s + j : Nat) : Int)), (35, .pointer (some p5)), (36, .int .u64 ((xs.getD (s + j) 0 : Nat) : Int)), (37, .slice D m cd), (38, .int .i64 ((j : Nat) : Int)), (39, .pointer (some p6)), (40, .int .u64 ((es.getD j 0 : Nat) : Int)), (41, .bool true)]) rfl rfl rfl rfl rfl (rd_move rfl) ?_
              refine dobs_val ([(0, .slice A n cap), (1, .slice D m cd), (2, .int .i64 ((s : Nat) : Int)), (8, .int .i64 ((j : Nat) : Int)), (27, .int .i64 ((j : Nat) : Int)), (28, .bool true), (31, .slice A n cap), (32, .int .i64 ((s : Nat) : Int)), (33, .int .i64 ((j : Nat) : Int)), (34, .int .i64 ((s + j : Nat) : Int)), (35, .pointer (some p5)), (36, .int .u64 ((xs.getD (s + j) 0 : Nat) : Int)), (37, .slice D m cd), (38, .int .i64 ((j : Nat) : Int)), (39, .pointer (some p6)), (40, .int .u64 ((es.getD j 0 : Nat) : Int)), (41, .bool true)]) rfl rfl rfl rfl rfl (rd_move rfl) ?_
              refine dobs_val ((48, .slice D m cd) :: (49, .int .i64 ((j : Nat) : Int)) :: [(0, .slice A n cap), (1, .slice D m cd), (2, .int .i64 ((s : Nat) : Int)), (8, .int .i64 ((j : Nat) : Int)), (27, .int .i64 ((j : Nat) : Int)), (28, .bool true), (31, .slice A n cap), (32, .int .i64 ((s : Nat) : Int)), (33, .int .i64 ((j : Nat) : Int)), (34, .int .i64 ((s + j : Nat) : Int)), (35, .pointer (some p5)), (36, .int .u64 ((xs.getD (s + j) 0 : Nat) : Int)), (37, .slice D m cd), (38, .int .i64 ((j : Nat) : Int)), (39, .pointer (some p6)), (40, .int .u64 ((es.getD j 0 : Nat) : Int)), (41, .bool true)]) rfl rfl rfl rfl rfl (rd_idx rfl rfl un_u64 sz_u64 j rfl (by omega) p6 hp6) ?_
              refine dobs_val ((50, .pointer (some p6)) :: [(0, .slice A n cap), (1, .slice D m cd), (2, .int .i64 ((s : Nat) : Int)), (8, .int .i64 ((j : Nat) : Int)), (27, .int .i64 ((j : Nat) : Int)), (28, .bool true), (31, .slice A n cap), (32, .int .i64 ((s : Nat) : Int)), (33, .int .i64 ((j : Nat) : Int)), (34, .int .i64 ((s + j : Nat) : Int)), (35, .pointer (some p5)), (36, .int .u64 ((xs.getD (s + j) 0 : Nat) : Int)), (37, .slice D m cd), (38, .int .i64 ((j : Nat) : Int)), (39, .pointer (some p6)), (40, .int .u64 ((es.getD j 0 : Nat) : Int)), (41, .bool true)]) rfl rfl rfl rfl rfl (rd_load rfl (load_cell1 ag_u64 (e8.cell hc6))) ?_
              refine dobs_val ((47, .int .u64 ((xs.getD (s + j) 0 : Nat) : Int)) :: (51, .int .u64 ((es.getD j 0 : Nat) : Int)) :: [(0, .slice A n cap), (1, .slice D m cd), (2, .int .i64 ((s : Nat) : Int)), (8, .int .i64 ((j : Nat) : Int)), (27, .int .i64 ((j : Nat) : Int)), (28, .bool true), (31, .slice A n cap), (32, .int .i64 ((s : Nat) : Int)), (33, .int .i64 ((j : Nat) : Int)), (34, .int .i64 ((s + j : Nat) : Int)), (35, .pointer (some p5)), (36, .int .u64 ((xs.getD (s + j) 0 : Nat) : Int)), (37, .slice D m cd), (38, .int .i64 ((j : Nat) : Int)), (39, .pointer (some p6)), (40, .int .u64 ((es.getD j 0 : Nat) : Int)), (41, .bool true)]) rfl rfl rfl rfl rfl (rd_cmp rfl rfl true (cb_gt_t (a := xs.getD (s + j) 0) (b := es.getD j 0) rfl rfl (by omega))) ?_
              refine dobs_val ((52, .bool true) :: [(0, .slice A n cap), (1, .slice D m cd), (2, .int .i64 ((s : Nat) : Int)), (8, .int .i64 ((j : Nat) : Int)), (27, .int .i64 ((j : Nat) : Int)), (28, .bool true), (31, .slice A n cap), (32, .int .i64 ((s : Nat) : Int)), (33, .int .i64 ((j : Nat) : Int)), (34, .int .i64 ((s + j : Nat) : Int)), (35, .pointer (some p5)), (36, .int .u64 ((xs.getD (s + j) 0 : Nat) : Int)), (37, .slice D m cd), (38, .int .i64 ((j : Nat) : Int)), (39, .pointer (some p6)), (40, .int .u64 ((es.getD j 0 : Nat) : Int)), (41, .bool true)]) rfl rfl rfl rfl rfl (rd_assign rfl) ?_
              exact dobs_nil
            clear hv
            refine eo_keep [(0, .slice A n cap), (1, .slice D m cd), (2, .int .i64 ((s : Nat) : Int)), (8, .int .i64 ((j : Nat) : Int)), (27, .int .i64 ((j : Nat) : Int)), (28, .bool true), (31, .slice A n cap), (32, .int .i64 ((s : Nat) : Int)), (33, .int .i64 ((j : Nat) : Int)), (34, .int .i64 ((s + j : Nat) : Int)), (35, .pointer (some p5)), (36, .int .u64 ((xs.getD (s + j) 0 : Nat) : Int)), (37, .slice D m cd), (38, .int .i64 ((j : Nat) : Int)), (39, .pointer (some p6)), (40, .int .u64 ((es.getD j 0 : Nat) : Int)), (41, .bool true), (42, .slice A n cap), (43, .int .i64 ((s : Nat) : Int)), (44, .int .i64 ((j : Nat) : Int)), (45, .int .i64 ((s + j : Nat) : Int)), (46, .pointer (some p5)), (47, .int .u64 ((xs.getD (s + j) 0 : Nat) : Int)), (48, .slice D m cd), (49, .int .i64 ((j : Nat) : Int)), (50, .pointer (some p6)), (51, .int .u64 ((es.getD j 0 : Nat) : Int)), (52, .bool true), (6, .bool true)] ⟨rfl, rfl, rfl, rfl, rfl, rfl, rfl, rfl, rfl, rfl, rfl, rfl, rfl, rfl, rfl, rfl, rfl, rfl, rfl, rfl, rfl, rfl, rfl, rfl, rfl, rfl, rfl, rfl, rfl, trivial⟩ ?_
            refine eo_then ?_
            refine cw_ret ?_
            refine eo_block_ret ?_
            refine eo_thenR ?_
            refine eo_loopR ?_
            refine eo_block_ret ?_
            refine eo_thenR ?_
            refine eo_ret [.bool true] rfl ⟨rfl, trivial⟩ ?_
            exact ⟨_, rfl, (show Value.bool true = _ by rw [decide_eq_true (goes_gt hlen hle2 hs hwx hwe (by omega) hv hgt)]), hw3⟩
          ·
            refine cw_keep [(0, .slice A n cap), (1, .slice D m cd), (2, .int .i64 ((s : Nat) : Int)), (8, .int .i64 ((j : Nat) : Int)), (27, .int .i64 ((j : Nat) : Int)), (28, .bool true), (31, .slice A n cap), (32, .int .i64 ((s : Nat) : Int)), (33, .int .i64 ((j : Nat) : Int)), (34, .int .i64 ((s + j : Nat) : Int)), (35, .pointer (some p5)), (36, .int .u64 ((xs.getD (s + j) 0 : Nat) : Int)), (37, .slice D m cd), (38, .int .i64 ((j : Nat) : Int)), (39, .pointer (some p6)), (40, .int .u64 ((es.getD j 0 : Nat) : Int)), (41, .bool true)] ⟨rfl, rfl, rfl, rfl, rfl, rfl, rfl, rfl, rfl, rfl, rfl, rfl, rfl, rfl, rfl, rfl, rfl, trivial⟩ ?_
            obtain ⟨v9, hv, e10⟩ : ∃ v, v = v3.drew ∧ Ext v3 v := ⟨_, rfl, (Ext.refl _).drew⟩
            have hw3 : Ext w v9 := hw2.trans e10
            refine cw_det mix (w := v9) [.slice A n cap, .int .i64 ((s : Nat) : Int), .int .i64 ((j : Nat) : Int), .int .i64 ((s + j : Nat) : Int), .pointer (some p5), .int .u64 ((xs.getD (s + j) 0 : Nat) : Int), .slice D m cd, .int .i64 ((j : Nat) : Int), .pointer (some p6), .int .u64 ((es.getD j 0 : Nat) : Int), .bool false, .bool false] [v9] [] [[], [], [], [1, 2], [0, 3], [4], [], [], [6, 7], [8], [5, 9], [10]] [[], [], [], [1, 2], [0, 1, 2, 3], [0, 1, 2, 3, 4], [], [], [6, 7], [6, 7, 8], [0, 1, 2, 3, 4, 5, 6, 7, 8, 9], [0, 1, 2, 3, 4, 5, 6, 7, 8, 9, 10]] [(0, 0), (1, 0), (2, 0), (3, 0), (4, 0), (5, 0), (6, 0), (7, 0), (8, 0), (9, 0), (10, 0), (11, 0)] rfl hv ?_ ?_
            ·
              refine dobs_val ([(0, .slice A n cap), (1, .slice D m cd), (2, .int .i64 ((s : Nat) : Int)), (8, .int .i64 ((j : Nat) : Int)), (27, .int .i64 ((j : Nat) : Int)), (28, .bool true), (31, .slice A n cap), (32, .int .i64 ((s : Nat) : Int)), (33, .int .i64 ((j : Nat) : Int)), (34, .int .i64 ((s + j : Nat) : Int)), (35, .pointer (some p5)), (36, .int .u64 ((xs.getD (s + j) 0 : Nat) : Int)), (37, .slice D m cd), (38, .int .i64 ((j : Nat) : Int)), (39, .pointer (some p6)), (40, .int .u64 ((es.getD j 0 : Nat) : Int)), (41, .bool true)]) rfl rfl rfl rfl rfl (rd_move rfl) ?_
              refine dobs_val ([(0, .slice A n cap), (1, .slice D m cd), (2, .int .i64 ((s : Nat) : Int)), (8, .int .i64 ((j : Nat) : Int)), (27, .int .i64 ((j : Nat) : Int)), (28, .bool true), (31, .slice A n cap), (32, .int .i64 ((s : Nat) : Int)), (33, .int .i64 ((j : Nat) : Int)), (34, .int .i64 ((s + j : Nat) : Int)), (35, .pointer (some p5)), (36, .int .u64 ((xs.getD (s + j) 0 : Nat) : Int)), (37, .slice D m cd), (38, .int .i64 ((j : Nat) : Int)), (39, .pointer (some p6)), (40, .int .u64 ((es.getD j 0 : Nat) : Int)), (41, .bool true)]) rfl rfl rfl rfl rfl (rd_move rfl) ?_
              refine dobs_val ([(0, .slice A n cap), (1, .slice D m cd), (2, .int .i64 ((s : Nat) : Int)), (8, .int .i64 ((j : Nat) : Int)), (27, .int .i64 ((j : Nat) : Int)), (28, .bool true), (31, .slice A n cap), (32, .int .i64 ((s : Nat) : Int)), (33, .int .i64 ((j : Nat) : Int)), (34, .int .i64 ((s + j : Nat) : Int)), (35, .pointer (some p5)), (36, .int .u64 ((xs.getD (s + j) 0 : Nat) : Int)), (37, .slice D m cd), (38, .int .i64 ((j : Nat) : Int)), (39, .pointer (some p6)), (40, .int .u64 ((es.getD j 0 : Nat) : Int)), (41, .bool true)]) rfl rfl rfl rfl rfl (rd_move rfl) ?_
              refine dobs_val ((43, .int .i64 ((s : Nat) : Int)) :: (44, .int .i64 ((j : Nat) : Int)) :: [(0, .slice A n cap), (1, .slice D m cd), (2, .int .i64 ((s : Nat) : Int)), (8, .int .i64 ((j : Nat) : Int)), (27, .int .i64 ((j : Nat) : Int)), (28, .bool true), (31, .slice A n cap), (32, .int .i64 ((s : Nat) : Int)), (33, .int .i64 ((j : Nat) : Int)), (34, .int .i64 ((s + j : Nat) : Int)), (35, .pointer (some p5)), (36, .int .u64 ((xs.getD (s + j) 0 : Nat) : Int)), (37, .slice D m cd), (38, .int .i64 ((j : Nat) : Int)), (39, .pointer (some p6)), (40, .int .u64 ((es.getD j 0 : Nat) : Int)), (41, .bool true)]) rfl rfl rfl rfl rfl (rd_ar rfl rfl ((s + j : Nat) : Int) (ai_add (a := s) (b := j) rfl rfl (by omega))) ?_
              refine dobs_val ((42, .slice A n cap) :: (45, .int .i64 ((s + j : Nat) : Int)) :: [(0, .slice A n cap), (1, .slice D m cd), (2, .int .i64 ((s : Nat) : Int)), (8, .int .i64 ((j : Nat) : Int)), (27, .int .i64 ((j : Nat) : Int)), (28, .bool true), (31, .slice A n cap), (32, .int .i64 ((s : Nat) : Int)), (33, .int .i64 ((j : Nat) : Int)), (34, .int .i64 ((s + j : Nat) : Int)), (35, .pointer (some p5)), (36, .int .u64 ((xs.getD (s + j) 0 : Nat) : Int)), (37, .slice D m cd), (38, .int .i64 ((j : Nat) : Int)), (39, .pointer (some p6)), (40, .int .u64 ((es.getD j 0 : Nat) : Int)), (41, .bool true)]) rfl rfl rfl rfl rfl (rd_idx rfl rfl un_u64 sz_u64 (s + j) rfl (by omega) p5 hp5) ?_
              refine dobs_val ((46, .pointer (some p5)) :: [(0, .slice A n cap), (1, .slice D m cd), (2, .int .i64 ((s : Nat) : Int)), (8, .int .i64 ((j : Nat) : Int)), (27, .int .i64 ((j : Nat) : Int)), (28, .bool true), (31, .slice A n cap), (32, .int .i64 ((s : Nat) : Int)), (33, .int .i64 ((j : Nat) : Int)), (34, .int .i64 ((s + j : Nat) : Int)), (35, .pointer (some p5)), (36, .int .u64 ((xs.getD (s + j) 0 : Nat) : Int)), (37, .slice D m cd), (38, .int .i64 ((j : Nat) : Int)), (39, .pointer (some p6)), (40, .int .u64 ((es.getD j 0 : Nat) : Int)), (41, .bool true)]) rfl rfl rfl rfl rfl (rd_load rfl (load_cell1 ag_u64 (e10.cell hc5))) ?_
              refine dobs_val ([(0, .slice A n cap), (1, .slice D m cd), (2, .int .i64 ((s : Nat) : Int)), (8, .int .i64 ((j : Nat) : Int)), (27, .int .i64 ((j : Nat) : Int)), (28, .bool true), (31, .slice A n cap), (32, .int .i64 ((s : Nat) : Int)), (33, .int .i64 ((j : Nat) : Int)), (34, .int .i64 ((s + j : Nat) : Int)), (35, .pointer (some p5)), (36, .int .u64 ((xs.getD (s + j) 0 : Nat) : Int)), (37, .slice D m cd), (38, .int .i64 ((j : Nat) : Int)), (39, .pointer (some p6)), (40, .int .u64 ((es.getD j 0 : Nat) : Int)), (41, .bool true)]) rfl rfl rfl rfl rfl (rd_move rfl) ?_
              refine dobs_val ([(0, .slice A n cap), (1, .slice D m cd), (2, .int .i64 ((s : Nat) : Int)), (8, .int .i64 ((j : Nat) : Int)), (27, .int .i64 ((j : Nat) : Int)), (28, .bool true), (31, .slice A n cap), (32, .int .i64 ((s : Nat) : Int)), (33, .int .i64 ((j : Nat) : Int)), (34, .int .i64 ((s + j : Nat) : Int)), (35, .pointer (some p5)), (36, .int .u64 ((xs.getD (s + j) 0 : Nat) : Int)), (37, .slice D m cd), (38, .int .i64 ((j : Nat) : Int)), (39, .pointer (some p6)), (40, .int .u64 ((es.getD j 0 : Nat) : Int)), (41, .bool true)]) rfl rfl rfl rfl rfl (rd_move rfl) ?_
              refine dobs_val ((48, .slice D m cd) :: (49, .int .i64 ((j : Nat) : Int)) :: [(0, .slice A n cap), (1, .slice D m cd), (2, .int .i64 ((s : Nat) : Int)), (8, .int .i64 ((j : Nat) : Int)), (27, .int .i64 ((j : Nat) : Int)), (28, .bool true), (31, .slice A n cap), (32, .int .i64 ((s : Nat) : Int)), (33, .int .i64 ((j : Nat) : Int)), (34, .int .i64 ((s + j : Nat) : Int)), (35, .pointer (some p5)), (36, .int .u64 ((xs.getD (s + j) 0 : Nat) : Int)), (37, .slice D m cd), (38, .int .i64 ((j : Nat) : Int)), (39, .pointer (some p6)), (40, .int .u64 ((es.getD j 0 : Nat) : Int)), (41, .bool true)]) rfl rfl rfl rfl rfl (rd_idx rfl rfl un_u64 sz_u64 j rfl (by omega) p6 hp6) ?_
              refine dobs_val ((50, .pointer (some p6)) :: [(0, .slice A n cap), (1, .slice D m cd), (2, .int .i64 ((s : Nat) : Int)), (8, .int .i64 ((j : Nat) : Int)), (27, .int .i64 ((j : Nat) : Int)), (28, .bool true), (31, .slice A n cap), (32, .int .i64 ((s : Nat) : Int)), (33, .int .i64 ((j : Nat) : Int)), (34, .int .i64 ((s + j : Nat) : Int)), (35, .pointer (some p5)), (36, .int .u64 ((xs.getD (s + j) 0 : Nat) : Int)), (37, .slice D m cd), (38, .int .i64 ((j : Nat) : Int)), (39, .pointer (some p6)), (40, .int .u64 ((es.getD j 0 : Nat) : Int)), (41, .bool true)]) rfl rfl rfl rfl rfl (rd_load rfl (load_cell1 ag_u64 (e10.cell hc6))) ?_
              refine dobs_val ((47, .int .u64 ((xs.getD (s + j) 0 : Nat) : Int)) :: (51, .int .u64 ((es.getD j 0 : Nat) : Int)) :: [(0, .slice A n cap), (1, .slice D m cd), (2, .int .i64 ((s : Nat) : Int)), (8, .int .i64 ((j : Nat) : Int)), (27, .int .i64 ((j : Nat) : Int)), (28, .bool true), (31, .slice A n cap), (32, .int .i64 ((s : Nat) : Int)), (33, .int .i64 ((j : Nat) : Int)), (34, .int .i64 ((s + j : Nat) : Int)), (35, .pointer (some p5)), (36, .int .u64 ((xs.getD (s + j) 0 : Nat) : Int)), (37, .slice D m cd), (38, .int .i64 ((j : Nat) : Int)), (39, .pointer (some p6)), (40, .int .u64 ((es.getD j 0 : Nat) : Int)), (41, .bool true)]) rfl rfl rfl rfl rfl (rd_cmp rfl rfl false (cb_gt_f (a := xs.getD (s + j) 0) (b := es.getD j 0) rfl rfl (by omega))) ?_
              refine dobs_val ((52, .bool false) :: [(0, .slice A n cap), (1, .slice D m cd), (2, .int .i64 ((s : Nat) : Int)), (8, .int .i64 ((j : Nat) : Int)), (27, .int .i64 ((j : Nat) : Int)), (28, .bool true), (31, .slice A n cap), (32, .int .i64 ((s : Nat) : Int)), (33, .int .i64 ((j : Nat) : Int)), (34, .int .i64 ((s + j : Nat) : Int)), (35, .pointer (some p5)), (36, .int .u64 ((xs.getD (s + j) 0 : Nat) : Int)), (37, .slice D m cd), (38, .int .i64 ((j : Nat) : Int)), (39, .pointer (some p6)), (40, .int .u64 ((es.getD j 0 : Nat) : Int)), (41, .bool true)]) rfl rfl rfl rfl rfl (rd_assign rfl) ?_
              exact dobs_nil
            clear hv
            refine eo_keep [(0, .slice A n cap), (1, .slice D m cd), (2, .int .i64 ((s : Nat) : Int)), (8, .int .i64 ((j : Nat) : Int)), (27, .int .i64 ((j : Nat) : Int)), (28, .bool true), (31, .slice A n cap), (32, .int .i64 ((s : Nat) : Int)), (33, .int .i64 ((j : Nat) : Int)), (34, .int .i64 ((s + j : Nat) : Int)), (35, .pointer (some p5)), (36, .int .u64 ((xs.getD (s + j) 0 : Nat) : Int)), (37, .slice D m cd), (38, .int .i64 ((j : Nat) : Int)), (39, .pointer (some p6)), (40, .int .u64 ((es.getD j 0 : Nat) : Int)), (41, .bool true), (42, .slice A n cap), (43, .int .i64 ((s : Nat) : Int)), (44, .int .i64 ((j : Nat) : Int)), (45, .int .i64 ((s + j : Nat) : Int)), (46, .pointer (some p5)), (47, .int .u64 ((xs.getD (s + j) 0 : Nat) : Int)), (48, .slice D m cd), (49, .int .i64 ((j : Nat) : Int)), (50, .pointer (some p6)), (51, .int .u64 ((es.getD j 0 : Nat) : Int)), (52, .bool false), (6, .bool false)] ⟨rfl, rfl, rfl, rfl, rfl, rfl, rfl, rfl, rfl, rfl, rfl, rfl, rfl, rfl, rfl, rfl, rfl, rfl, rfl, rfl, rfl, rfl, rfl, rfl, rfl, rfl, rfl, rfl, rfl, trivial⟩ ?_
            refine eo_then ?_
            refine cw_ret ?_
            refine eo_block_ret ?_
            refine eo_thenR ?_
            refine eo_loopR ?_
            refine eo_block_ret ?_
            refine eo_thenR ?_
            refine eo_ret [.bool false] rfl ⟨rfl, trivial⟩ ?_
            exact ⟨_, rfl, (show Value.bool false = _ by rw [decide_eq_false (goes_lt hlen hle2 hs hwx hwe (by omega) hv (by omega))]), hw3⟩
        ·
          refine cw_keep [(0, .slice A n cap), (1, .slice D m cd), (2, .int .i64 ((s : Nat) : Int)), (8, .int .i64 ((j : Nat) : Int)), (27, .int .i64 ((j : Nat) : Int)), (28, .bool true)] ⟨rfl, rfl, rfl, rfl, rfl, rfl, trivial⟩ ?_
          obtain ⟨v11, hv, e12⟩ : ∃ v, v = wr.drew ∧ Ext wr v := ⟨_, rfl, (Ext.refl _).drew⟩
          have hw2 : Ext w v11 := hw1.trans e12
          obtain ⟨p13, hp13, hc13, hv13⟩ := ((rl0.ext e12)).at (i := s + j) (by omega)
          obtain ⟨p14, hp14, hc14, hv14⟩ := ((rl1.ext e12)).at (i := j) (by omega)
          refine cw_det mix (w := v11) [.slice A n cap, .int .i64 ((s : Nat) : Int), .int .i64 ((j : Nat) : Int), .int .i64 ((s + j : Nat) : Int), .pointer (some p13), .int .u64 ((xs.getD (s + j) 0 : Nat) : Int), .slice D m cd, .int .i64 ((j : Nat) : Int), .pointer (some p14), .int .u64 ((es.getD j 0 : Nat) : Int), .bool false] [v11] [] [[], [], [], [1, 2], [0, 3], [4], [], [], [6, 7], [8], [5, 9]] [[], [], [], [1, 2], [0, 1, 2, 3], [0, 1, 2, 3, 4], [], [], [6, 7], [6, 7, 8], [0, 1, 2, 3, 4, 5, 6, 7, 8, 9]] [(0, 0), (1, 0), (2, 0), (3, 0), (4, 0), (5, 0), (6, 0), (7, 0), (8, 0), (9, 0), (10, 0)] rfl hv ?_ ?_
          ·
            refine dobs_val ([(0, .slice A n cap), (1, .slice D m cd), (2, .int .i64 ((s : Nat) : Int)), (8, .int .i64 ((j : Nat) : Int)), (27, .int .i64 ((j : Nat) : Int)), (28, .bool true)]) rfl rfl rfl rfl rfl (rd_move rfl) ?_
            refine dobs_val ([(0, .slice A n cap), (1, .slice D m cd), (2, .int .i64 ((s : Nat) : Int)), (8, .int .i64 ((j : Nat) : Int)), (27, .int .i64 ((j : Nat) : Int)), (28, .bool true)]) rfl rfl rfl rfl rfl (rd_move rfl) ?_
            refine dobs_val ([(0, .slice A n cap), (1, .slice D m cd), (2, .int .i64 ((s : Nat) : Int)), (8, .int .i64 ((j : Nat) : Int)), (27, .int .i64 ((j : Nat) : Int)), (28, .bool true)]) rfl rfl rfl rfl rfl (rd_move rfl) ?_
            refine dobs_val ((32, .int .i64 ((s : Nat) : Int)) :: (33, .int .i64 ((j : Nat) : Int)) :: [(0, .slice A n cap), (1, .slice D m cd), (2, .int .i64 ((s : Nat) : Int)), (8, .int .i64 ((j : Nat) : Int)), (27, .int .i64 ((j : Nat) : Int)), (28, .bool true)]) rfl rfl rfl rfl rfl (rd_ar rfl rfl ((s + j : Nat) : Int) (ai_add (a := s) (b := j) rfl rfl (by omega))) ?_
            refine dobs_val ((31, .slice A n cap) :: (34, .int .i64 ((s + j : Nat) : Int)) :: [(0, .slice A n cap), (1, .slice D m cd), (2, .int .i64 ((s : Nat) : Int)), (8, .int .i64 ((j : Nat) : Int)), (27, .int .i64 ((j : Nat) : Int)), (28, .bool true)]) rfl rfl rfl rfl rfl (rd_idx rfl rfl un_u64 sz_u64 (s + j) rfl (by omega) p13 hp13) ?_
            refine dobs_val ((35, .pointer (some p13)) :: [(0, .slice A n cap), (1, .slice D m cd), (2, .int .i64 ((s : Nat) : Int)), (8, .int .i64 ((j : Nat) : Int)), (27, .int .i64 ((j : Nat) : Int)), (28, .bool true)]) rfl rfl rfl rfl rfl (rd_load rfl (load_cell1 ag_u64 hc13)) ?_
            refine dobs_val ([(0, .slice A n cap), (1, .slice D m cd), (2, .int .i64 ((s : Nat) : Int)), (8, .int .i64 ((j : Nat) : Int)), (27, .int .i64 ((j : Nat) : Int)), (28, .bool true)]) rfl rfl rfl rfl rfl (rd_move rfl) ?_
            refine dobs_val ([(0, .slice A n cap), (1, .slice D m cd), (2, .int .i64 ((s : Nat) : Int)), (8, .int .i64 ((j : Nat) : Int)), (27, .int .i64 ((j : Nat) : Int)), (28, .bool true)]) rfl rfl rfl rfl rfl (rd_move rfl) ?_
            refine dobs_val ((37, .slice D m cd) :: (38, .int .i64 ((j : Nat) : Int)) :: [(0, .slice A n cap), (1, .slice D m cd), (2, .int .i64 ((s : Nat) : Int)), (8, .int .i64 ((j : Nat) : Int)), (27, .int .i64 ((j : Nat) : Int)), (28, .bool true)]) rfl rfl rfl rfl rfl (rd_idx rfl rfl un_u64 sz_u64 j rfl (by omega) p14 hp14) ?_
            refine dobs_val ((39, .pointer (some p14)) :: [(0, .slice A n cap), (1, .slice D m cd), (2, .int .i64 ((s : Nat) : Int)), (8, .int .i64 ((j : Nat) : Int)), (27, .int .i64 ((j : Nat) : Int)), (28, .bool true)]) rfl rfl rfl rfl rfl (rd_load rfl (load_cell1 ag_u64 hc14)) ?_
            refine dobs_val ((36, .int .u64 ((xs.getD (s + j) 0 : Nat) : Int)) :: (40, .int .u64 ((es.getD j 0 : Nat) : Int)) :: [(0, .slice A n cap), (1, .slice D m cd), (2, .int .i64 ((s : Nat) : Int)), (8, .int .i64 ((j : Nat) : Int)), (27, .int .i64 ((j : Nat) : Int)), (28, .bool true)]) rfl rfl rfl rfl rfl (rd_cmp rfl rfl false (cb_ne_f (a := xs.getD (s + j) 0) (b := es.getD j 0) rfl rfl (by omega))) ?_
            exact dobs_nil
          clear hv
          refine eo_keep [(0, .slice A n cap), (1, .slice D m cd), (2, .int .i64 ((s : Nat) : Int)), (8, .int .i64 ((j : Nat) : Int)), (27, .int .i64 ((j : Nat) : Int)), (28, .bool true), (31, .slice A n cap), (32, .int .i64 ((s : Nat) : Int)), (33, .int .i64 ((j : Nat) : Int)), (34, .int .i64 ((s + j : Nat) : Int)), (35, .pointer (some p13)), (36, .int .u64 ((xs.getD (s + j) 0 : Nat) : Int)), (37, .slice D m cd), (38, .int .i64 ((j : Nat) : Int)), (39, .pointer (some p14)), (40, .int .u64 ((es.getD j 0 : Nat) : Int)), (41, .bool false)] ⟨rfl, rfl, rfl, rfl, rfl, rfl, rfl, rfl, rfl, rfl, rfl, rfl, rfl, rfl, rfl, rfl, rfl, trivial⟩ ?_
          refine eo_then ?_
          refine cw_false rfl ?_
          refine cw_skip ?_
          refine eo_block_normal ?_
          refine eo_then ?_
          refine cw_region ?_
          refine wl_move rfl rfl (by decide) ?_
          refine wl_ar rfl rfl rfl (((j : Nat) : Int) - 1) (ar_i64s rfl (by omega) (by omega)) (by decide) ?_
          refine wl_assign rfl rfl (by decide) ?_
          refine wl_nil ?_
          refine eo_round (⟨v11, j, _⟩ : World × Nat × Int) ⟨hw2, (by omega), rfl, goes_step hlen hle2 hs hwx hwe (by omega) hv (by omega), (rl0.ext e12), (rl1.ext e12)⟩ (show j < j + 1 by omega) rfl ⟨rfl, rfl, rfl, rfl, trivial⟩
      ·
        obtain rfl : k = 0 := by omega
        refine cw_region ?_
        refine wl_move rfl rfl (by decide) ?_
        refine wl_cmp rfl rfl rfl false (ge_f (by omega)) (by decide) ?_
        refine wl_nil ?_
        refine eo_then ?_
        refine cw_false rfl ?_
        refine cw_exit ?_
        refine eo_thenX ?_
        refine eo_loopX ?_
        refine eo_block_here ?_
        refine eo_then ?_
        refine cw_seq ?_
        refine cw_region ?_
        refine wl_assign rfl rfl (by decide) ?_
        refine wl_nil ?_
        refine eo_then ?_
        refine cw_ret ?_
        refine eo_ret [.bool true] rfl ⟨rfl, trivial⟩ ?_
        exact ⟨_, rfl, (show Value.bool true = _ by rw [decide_eq_true (goes_eq hlen hle2 hs hwx hwe hv)]), hw1⟩
  ·
    have hst := goes_start hlen hle2 hs hwx hwe hbig (fun h => absurd h htop)
    refine cw_region ?_
    refine wl_move rfl rfl (by decide) ?_
    refine wl_move rfl rfl (by decide) ?_
    refine wl_pure rfl rfl (v := .int .i64 ((n : Nat) : Int)) (by decide) (by kernel_rfl) ?_
    refine wl_cmp rfl rfl rfl false (cb_lt_f (a := s + m) (b := n) rfl rfl (by omega)) (by decide) ?_
    refine wl_move rfl rfl (by decide) ?_
    refine wl_off rfl (by decide) ?_
    refine wl_off rfl (by decide) ?_
    refine wl_off rfl (by decide) ?_
    refine wl_off rfl (by decide) ?_
    refine wl_off rfl (by decide) ?_
    refine wl_pure rfl rfl (v := .bool false) (by decide) (by kernel_rfl) ?_
    refine wl_nil ?_
    refine eo_then ?_
    refine cw_false rfl ?_
    refine cw_skip ?_
    refine eo_then ?_
    refine cw_seq ?_
    refine cw_seq ?_
    refine cw_region ?_
    refine wl_move rfl rfl (by decide) ?_
    refine wl_pure rfl rfl (v := .int .i64 ((m : Nat) : Int)) (by decide) (by kernel_rfl) ?_
    refine wl_ar rfl rfl rfl (((m : Nat) : Int) - 1) (ar_i64s rfl (by omega) (by omega)) (by decide) ?_
    refine wl_assign rfl rfl (by decide) ?_
    refine wl_nil ?_
    refine eo_then ?_
    refine cw_block ?_
    refine cw_loop (T := World × Nat × Int)
      (fun ⟨wr, k, ii⟩ => [(0, .slice A n cap), (1, .slice D m cd), (2, .int .i64 ((s : Nat) : Int)), (8, .int .i64 ii)])
      (fun ⟨wr, k, ii⟩ => wr)
      (fun ⟨wr, k, ii⟩ => (Ext w wr) ∧ (k ≤ m) ∧ (ii = (k : Int) - 1) ∧ (nb 4294967296 (xs.drop (s + k)) = nb 4294967296 (es.drop k)) ∧ (Rd wr A n cap xs) ∧ (Rd wr D m cd es))
      (fun ⟨wr, k, ii⟩ => k)
      (⟨w, m, _⟩ : World × Nat × Int) ⟨(Ext.refl w), Nat.le_refl _, rfl, hst, hx, hy⟩ rfl ⟨rfl, rfl, rfl, rfl, trivial⟩ ?_
    rintro ⟨wr, k, ii⟩ ⟨hw1, hk, hii, hv, rl0, rl1⟩
    refine cw_re [(0, .slice A n cap), (1, .slice D m cd), (2, .int .i64 ((s : Nat) : Int)), (8, .int .i64 ii)] wr rfl ⟨rfl, rfl, rfl, rfl, trivial⟩ ?_
    refine cw_seq ?_
    refine cw_seq ?_
    by_cases hkp : 0 < k
    ·
      obtain ⟨j, rfl⟩ : ∃ j, k = j + 1 := ⟨k - 1, by omega⟩
      obtain rfl : ii = (j : Int) := by omega
      refine cw_region ?_
      refine wl_move rfl rfl (by decide) ?_
      refine wl_cmp rfl rfl rfl true (cb_ge_t (a := j) (b := 0) rfl rfl (by omega)) (by decide) ?_
      refine wl_nil ?_
      refine eo_then ?_
      refine cw_true rfl ?_
      refine cw_skip ?_
      refine eo_then ?_
      refine cw_seq ?_
      refine cw_block ?_
      refine cw_seq ?_
      by_cases hne : xs.getD (s + j) 0 ≠ es.getD j 0
      ·
        refine cw_keep [(0, .slice A n cap), (1, .slice D m cd), (2, .int .i64 ((s : Nat) : Int)), (8, .int .i64 ((j : Nat) : Int)), (27, .int .i64 ((j : Nat) : Int)), (28, .bool true)] ⟨rfl, rfl, rfl, rfl, rfl, rfl, trivial⟩ ?_
        obtain ⟨v15, hv, e16⟩ : ∃ v, v = wr.drew ∧ Ext wr v := ⟨_, rfl, (Ext.refl _).drew⟩
        have hw2 : Ext w v15 := hw1.trans e16
        obtain ⟨p17, hp17, hc17, hv17⟩ := ((rl0.ext e16)).at (i := s + j) (by omega)
        obtain ⟨p18, hp18, hc18, hv18⟩ := ((rl1.ext e16)).at (i := j) (by omega)
        refine cw_det mix (w := v15) [.slice A n cap, .int .i64 ((s : Nat) : Int), .int .i64 ((j : Nat) : Int), .int .i64 ((s + j : Nat) : Int), .pointer (some p17), .int .u64 ((xs.getD (s + j) 0 : Nat) : Int), .slice D m cd, .int .i64 ((j : Nat) : Int), .pointer (some p18), .int .u64 ((es.getD j 0 : Nat) : Int), .bool true] [v15] [] [[], [], [], [1, 2], [0, 3], [4], [], [], [6, 7], [8], [5, 9]] [[], [], [], [1, 2], [0, 1, 2, 3], [0, 1, 2, 3, 4], [], [], [6, 7], [6, 7, 8], [0, 1, 2, 3, 4, 5, 6, 7, 8, 9]] [(0, 0), (1, 0), (2, 0), (3, 0), (4, 0), (5, 0), (6, 0), (7, 0), (8, 0), (9, 0), (10, 0)] rfl hv ?_ ?_
        ·
          refine dobs_val ([(0, .slice A n cap), (1, .slice D m cd), (2, .int .i64 ((s : Nat) : Int)), (8, .int .i64 ((j : Nat) : Int)), (27, .int .i64 ((j : Nat) : Int)), (28, .bool true)]) rfl rfl rfl rfl rfl (rd_move rfl) ?_
          refine dobs_val ([(0, .slice A n cap), (1, .slice D m cd), (2, .int .i64 ((s : Nat) : Int)), (8, .int .i64 ((j : Nat) : Int)), (27, .int .i64 ((j : Nat) : Int)), (28, .bool true)]) rfl rfl rfl rfl rfl (rd_move rfl) ?_
          refine dobs_val ([(0, .slice A n cap), (1, .slice D m cd), (2, .int .i64 ((s : Nat) : Int)), (8, .int .i64 ((j : Nat) : Int)), (27, .int .i64 ((j : Nat) : Int)), (28, .bool true)]) rfl rfl rfl rfl rfl (rd_move rfl) ?_
          refine dobs_val ((32, .int .i64 ((s : Nat) : Int)) :: (33, .int .i64 ((j : Nat) : Int)) :: [(0, .slice A n cap), (1, .slice D m cd), (2, .int .i64 ((s : Nat) : Int)), (8, .int .i64 ((j : Nat) : Int)), (27, .int .i64 ((j : Nat) : Int)), (28, .bool true)]) rfl rfl rfl rfl rfl (rd_ar rfl rfl ((s + j : Nat) : Int) (ai_add (a := s) (b := j) rfl rfl (by omega))) ?_
          refine dobs_val ((31, .slice A n cap) :: (34, .int .i64 ((s + j : Nat) : Int)) :: [(0, .slice A n cap), (1, .slice D m cd), (2, .int .i64 ((s : Nat) : Int)), (8, .int .i64 ((j : Nat) : Int)), (27, .int .i64 ((j : Nat) : Int)), (28, .bool true)]) rfl rfl rfl rfl rfl (rd_idx rfl rfl un_u64 sz_u64 (s + j) rfl (by omega) p17 hp17) ?_
          refine dobs_val ((35, .pointer (some p17)) :: [(0, .slice A n cap), (1, .slice D m cd), (2, .int .i64 ((s : Nat) : Int)), (8, .int .i64 ((j : Nat) : Int)), (27, .int .i64 ((j : Nat) : Int)), (28, .bool true)]) rfl rfl rfl rfl rfl (rd_load rfl (load_cell1 ag_u64 hc17)) ?_
          refine dobs_val ([(0, .slice A n cap), (1, .slice D m cd), (2, .int .i64 ((s : Nat) : Int)), (8, .int .i64 ((j : Nat) : Int)), (27, .int .i64 ((j : Nat) : Int)), (28, .bool true)]) rfl rfl rfl rfl rfl (rd_move rfl) ?_
          refine dobs_val ([(0, .slice A n cap), (1, .slice D m cd), (2, .int .i64 ((s : Nat) : Int)), (8, .int .i64 ((j : Nat) : Int)), (27, .int .i64 ((j : Nat) : Int)), (28, .bool true)]) rfl rfl rfl rfl rfl (rd_move rfl) ?_
          refine dobs_val ((37, .slice D m cd) :: (38, .int .i64 ((j : Nat) : Int)) :: [(0, .slice A n cap), (1, .slice D m cd), (2, .int .i64 ((s : Nat) : Int)), (8, .int .i64 ((j : Nat) : Int)), (27, .int .i64 ((j : Nat) : Int)), (28, .bool true)]) rfl rfl rfl rfl rfl (rd_idx rfl rfl un_u64 sz_u64 j rfl (by omega) p18 hp18) ?_
          refine dobs_val ((39, .pointer (some p18)) :: [(0, .slice A n cap), (1, .slice D m cd), (2, .int .i64 ((s : Nat) : Int)), (8, .int .i64 ((j : Nat) : Int)), (27, .int .i64 ((j : Nat) : Int)), (28, .bool true)]) rfl rfl rfl rfl rfl (rd_load rfl (load_cell1 ag_u64 hc18)) ?_
          refine dobs_val ((36, .int .u64 ((xs.getD (s + j) 0 : Nat) : Int)) :: (40, .int .u64 ((es.getD j 0 : Nat) : Int)) :: [(0, .slice A n cap), (1, .slice D m cd), (2, .int .i64 ((s : Nat) : Int)), (8, .int .i64 ((j : Nat) : Int)), (27, .int .i64 ((j : Nat) : Int)), (28, .bool true)]) rfl rfl rfl rfl rfl (rd_cmp rfl rfl true (cb_ne_t (a := xs.getD (s + j) 0) (b := es.getD j 0) rfl rfl (by omega))) ?_
          exact dobs_nil
        clear hv
        refine eo_keep [(0, .slice A n cap), (1, .slice D m cd), (2, .int .i64 ((s : Nat) : Int)), (8, .int .i64 ((j : Nat) : Int)), (27, .int .i64 ((j : Nat) : Int)), (28, .bool true), (31, .slice A n cap), (32, .int .i64 ((s : Nat) : Int)), (33, .int .i64 ((j : Nat) : Int)), (34, .int .i64 ((s + j : Nat) : Int)), (35, .pointer (some p17)), (36, .int .u64 ((xs.getD (s + j) 0 : Nat) : Int)), (37, .slice D m cd), (38, .int .i64 ((j : Nat) : Int)), (39, .pointer (some p18)), (40, .int .u64 ((es.getD j 0 : Nat) : Int)), (41, .bool true)] ⟨rfl, rfl, rfl, rfl, rfl, rfl, rfl, rfl, rfl, rfl, rfl, rfl, rfl, rfl, rfl, rfl, rfl, trivial⟩ ?_
        refine eo_then ?_
        refine cw_true rfl ?_
        refine cw_seq ?_
        by_cases hgt : xs.getD (s + j) 0 > es.getD j 0
        ·
          refine cw_keep [(0, .slice A n cap), (1, .slice D m cd), (2, .int .i64 ((s : Nat) : Int)), (8, .int .i64 ((j : Nat) : Int)), (27, .int .i64 ((j : Nat) : Int)), (28, .bool true), (31, .slice A n cap), (32, .int .i64 ((s : Nat) : Int)), (33, .int .i64 ((j : Nat) : Int)), (34, .int .i64 ((s + j : Nat) : Int)), (35, .pointer (some p17)), (36, .int .u64 ((xs.getD (s + j) 0 : Nat) : Int)), (37, .slice D m cd), (38, .int .i64 ((j : Nat) : Int)), (39, .pointer (some p18)), (40, .int .u64 ((es.getD j 0 : Nat) : Int)), (41, .bool true)] ⟨rfl, rfl, rfl, rfl, rfl, rfl, rfl, rfl, rfl, rfl, rfl, rfl, rfl, rfl, rfl, rfl, rfl, trivial⟩ ?_
          obtain ⟨v19, hv, e20⟩ : ∃ v, v = v15.drew ∧ Ext v15 v := ⟨_, rfl, (Ext.refl _).drew⟩
          have hw3 : Ext w v19 := hw2.trans e20
          refine cw_det mix (w := v19) [.slice A n cap, .int .i64 ((s : Nat) : Int), .int .i64 ((j : Nat) : Int), .int .i64 ((s + j : Nat) : Int), .pointer (some p17), .int .u64 ((xs.getD (s + j) 0 : Nat) : Int), .slice D m cd, .int .i64 ((j : Nat) : Int), .pointer (some p18), .int .u64 ((es.getD j 0 : Nat) : Int), .bool true, .bool true] [v19] [] [[], [], [], [1, 2], [0, 3], [4], [], [], [6, 7], [8], [5, 9], [10]] [[], [], [], [1, 2], [0, 1, 2, 3], [0, 1, 2, 3, 4], [], [], [6, 7], [6, 7, 8], [0, 1, 2, 3, 4, 5, 6, 7, 8, 9], [0, 1, 2, 3, 4, 5, 6, 7, 8, 9, 10]] [(0, 0), (1, 0), (2, 0), (3, 0), (4, 0), (5, 0), (6, 0), (7, 0), (8, 0), (9, 0), (10, 0), (11, 0)] rfl hv ?_ ?_
          ·
            refine dobs_val ([(0, .slice A n cap), (1, .slice D m cd), (2, .int .i64 ((s : Nat) : Int)), (8, .int .i64 ((j : Nat) : Int)), (27, .int .i64 ((j : Nat) : Int)), (28, .bool true), (31, .slice A n cap), (32, .int .i64 ((s : Nat) : Int)), (33, .int .i64 ((j : Nat) : Int)), (34, .int .i64 ((s + j : Nat) : Int)), (35, .pointer (some p17)), (36, .int .u64 ((xs.getD (s + j) 0 : Nat) : Int)), (37, .slice D m cd), (38, .int .i64 ((j : Nat) : Int)), (39, .pointer (some p18)), (40, .int .u64 ((es.getD j 0 : Nat) : Int)), (41, .bool true)]) rfl rfl rfl rfl rfl (rd_move rfl) ?_
            refine dobs_val ([(0, .slice A n cap), (1, .slice D m cd), (2, .int .i64 ((s : Nat) : Int)), (8, .int .i64 ((j : Nat) : Int)), (27, .int .i64 ((j : Nat) : Int)), (28, .bool true), (31, .slice A n cap), (32, .int .i64 ((s : Nat) : Int)), (33, .int .i64 ((j : Nat) : Int)), (34, .int .i64 ((s + j : Nat) : Int)), (35, .pointer (some p17)), (36, .int .u64 ((xs.getD (s + j) 0 : Nat) : Int)), (37, .slice D m cd), (38, .int .i64 ((j : Nat) : Int)), (39, .pointer (some p18)), (40, .int .u64 ((es.getD j 0 : Nat) : Int)), (41, .bool true)]) rfl rfl rfl rfl rfl (rd_move rfl) ?_
            refine dobs_val ([(0, .slice A n cap), (1, .slice D m cd), (2, .int .i64 ((s : Nat) : Int)), (8, .int .i64 ((j : Nat) : Int)), (27, .int .i64 ((j : Nat) : Int)), (28, .bool true), (31, .slice A n cap), (32, .int .i64 ((s : Nat) : Int)), (33, .int .i64 ((j : Nat) : Int)), (34, .int .i64 ((s + j : Nat) : Int)), (35, .pointer (some p17)), (36, .int .u64 ((xs.getD (s + j) 0 : Nat) : Int)), (37, .slice D m cd), (38, .int .i64 ((j : Nat) : Int)), (39, .pointer (some p18)), (40, .int .u64 ((es.getD j 0 : Nat) : Int)), (41, .bool true)]) rfl rfl rfl rfl rfl (rd_move rfl) ?_
            refine dobs_val ((43, .int .i64 ((s : Nat) : Int)) :: (44, .int .i64 ((j : Nat) : Int)) :: [(0, .slice A n cap), (1, .slice D m cd), (2, .int .i64 ((s : Nat) : Int)), (8, .int .i64 ((j : Nat) : Int)), (27, .int .i64 ((j : Nat) : Int)), (28, .bool true), (31, .slice A n cap), (32, .int .i64 ((s : Nat) : Int)), (33, .int .i64 ((j : Nat) : Int)), (34, .int .i64 ((s + j : Nat) : Int)), (35, .pointer (some p17)), (36, .int .u64 ((xs.getD (s + j) 0 : Nat) : Int)), (37, .slice D m cd), (38, .int .i64 ((j : Nat) : Int)), (39, .pointer (some p18)), (40, .int .u64 ((es.getD j 0 : Nat) : Int)), (41, .bool true)]) rfl rfl rfl rfl rfl (rd_ar rfl rfl ((s + j : Nat) : Int) (ai_add (a := s) (b := j) rfl rfl (by omega))) ?_
            refine dobs_val ((42, .slice A n cap) :: (45, .int .i64 ((s + j : Nat) : Int)) :: [(0, .slice A n cap), (1, .slice D m cd), (2, .int .i64 ((s : Nat) : Int)), (8, .int .i64 ((j : Nat) : Int)), (27, .int .i64 ((j : Nat) : Int)), (28, .bool true), (31, .slice A n cap), (32, .int .i64 ((s : Nat) : Int)), (33, .int .i64 ((j : Nat) : Int)), (34, .int .i64 ((s + j : Nat) : Int)), (35, .pointer (some p17)), (36, .int .u64 ((xs.getD (s + j) 0 : Nat) : Int)), (37, .slice D m cd), (38, .int .i64 ((j : Nat) : Int)), (39, .pointer (some p18)), (40, .int .u64 ((es.getD j 0 : Nat) : Int)), (41, .bool true)]) rfl rfl rfl rfl rfl (rd_idx rfl rfl un_u64 sz_u64 (s + j) rfl (by omega) p17 hp17) ?_
            refine dobs_val ((46, .pointer (some p17)) :: [(0, .slice A n cap), (1, .slice D m cd), (2, .int .i64 ((s : Nat) : Int)), (8, .int .i64 ((j : Nat) : Int)), (27, .int .i64 ((j : Nat) : Int)), (28, .bool true), (31, .slice A n cap), (32, .int .i64 ((s : Nat) : Int)), (33, .int .i64 ((j : Nat) : Int)), (34, .int .i64 ((s + j : Nat) : Int)), (35, .pointer (some p17)), (36, .int .u64 ((xs.getD (s + j) 0 : Nat) : Int)), (37, .slice D m cd), (38, .int .i64 ((j : Nat) : Int)), (39, .pointer (some p18)), (40, .int .u64 ((es.getD j 0 : Nat) : Int)), (41, .bool true)]) rfl rfl rfl rfl rfl (rd_load rfl (load_cell1 ag_u64 (e20.cell hc17))) ?_
            refine dobs_val ([(0, .slice A n cap), (1, .slice D m cd), (2, .int .i64 ((s : Nat) : Int)), (8, .int .i64 ((j : Nat) : Int)), (27, .int .i64 ((j : Nat) : Int)), (28, .bool true), (31, .slice A n cap), (32, .int .i64 ((s : Nat) : Int)), (33, .int .i64 ((j : Nat) : Int)), (34, .int .i64 ((s + j : Nat) : Int)), (35, .pointer (some p17)), (36, .int .u64 ((xs.getD (s + j) 0 : Nat) : Int)), (37, .slice D m cd), (38, .int .i64 ((j : Nat) : Int)), (39, .pointer (some p18)), (40, .int .u64 ((es.getD j 0 : Nat) : Int)), (41, .bool true)]) rfl rfl rfl rfl rfl (rd_move rfl) ?_
            refine dobs_val ([(0, .slice A n cap), (1, .slice D m cd), (2, .int .i64 ((s : Nat) : Int)), (8, .int .i64 ((j : Nat) : Int)), (27, .int .i64 ((j : Nat) : Int)), (28, .bool true), (31, .slice A n cap), (32, .int .i64 ((s : Nat) : Int)), (33, .int .i64 ((j : Nat) : Int)), (34, .int .i64 ((s + j : Nat) : Int)), (35, .pointer (some p17)), (36, .int .u64 ((xs.getD (s + j) 0 : Nat) : Int)), (37, .slice D m cd), (38, .int .i64 ((j : Nat) : Int)), (39, .pointer (some p18)), (40, .int .u64 ((es.getD j 0 : Nat) : Int)), (41, .bool true)]) rfl rfl rfl rfl rfl (rd_move rfl) ?_
            refine dobs_val ((48, .slice D m cd) :: (49, .int .i64 ((j : Nat) : Int)) :: [(0, .slice A n cap), (1, .slice D m cd), (2, .int .i64 ((s : Nat) : Int)), (8, .int .i64 ((j : Nat) : Int)), (27, .int .i64 ((j : Nat) : Int)), (28, .bool true), (31, .slice A n cap), (32, .int .i64 ((s : Nat) : Int)), (33, .int .i64 ((j : Nat) : Int)), (34, .int .i64 ((s + j : Nat) : Int)), (35, .pointer (some p17)), (36, .int .u64 ((xs.getD (s + j) 0 : Nat) : Int)), (37, .slice D m cd), (38, .int .i64 ((j : Nat) : Int)), (39, .pointer (some p18)), (40, .int .u64 ((es.getD j 0 : Nat) : Int)), (41, .bool true)]) rfl rfl rfl rfl rfl (rd_idx rfl rfl un_u64 sz_u64 j rfl (by omega) p18 hp18) ?_
            refine dobs_val ((50, .pointer (some p18)) :: [(0, .slice A n cap), (1, .slice D m cd), (2, .int .i64 ((s : Nat) : Int)), (8, .int .i64 ((j : Nat) : Int)), (27, .int .i64 ((j : Nat) : Int)), (28, .bool true), (31, .slice A n cap), (32, .int .i64 ((s : Nat) : Int)), (33, .int .i64 ((j : Nat) : Int)), (34, .int .i64 ((s + j : Nat) : Int)), (35, .pointer (some p17)), (36, .int .u64 ((xs.getD (s + j) 0 : Nat) : Int)), (37, .slice D m cd), (38, .int .i64 ((j : Nat) : Int)), (39, .pointer (some p18)), (40, .int .u64 ((es.getD j 0 : Nat) : Int)), (41, .bool true)]) rfl rfl rfl rfl rfl (rd_load rfl (load_cell1 ag_u64 (e20.cell hc18))) ?_
            refine dobs_val ((47, .int .u64 ((xs.getD (s + j) 0 : Nat) : Int)) :: (51, .int .u64 ((es.getD j 0 : Nat) : Int)) :: [(0, .slice A n cap), (1, .slice D m cd), (2, .int .i64 ((s : Nat) : Int)), (8, .int .i64 ((j : Nat) : Int)), (27, .int .i64 ((j : Nat) : Int)), (28, .bool true), (31, .slice A n cap), (32, .int .i64 ((s : Nat) : Int)), (33, .int .i64 ((j : Nat) : Int)), (34, .int .i64 ((s + j : Nat) : Int)), (35, .pointer (some p17)), (36, .int .u64 ((xs.getD (s + j) 0 : Nat) : Int)), (37, .slice D m cd), (38, .int .i64 ((j : Nat) : Int)), (39, .pointer (some p18)), (40, .int .u64 ((es.getD j 0 : Nat) : Int)), (41, .bool true)]) rfl rfl rfl rfl rfl (rd_cmp rfl rfl true (cb_gt_t (a := xs.getD (s + j) 0) (b := es.getD j 0) rfl rfl (by omega))) ?_
            refine dobs_val ((52, .bool true) :: [(0, .slice A n cap), (1, .slice D m cd), (2, .int .i64 ((s : Nat) : Int)), (8, .int .i64 ((j : Nat) : Int)), (27, .int .i64 ((j : Nat) : Int)), (28, .bool true), (31, .slice A n cap), (32, .int .i64 ((s : Nat) : Int)), (33, .int .i64 ((j : Nat) : Int)), (34, .int .i64 ((s + j : Nat) : Int)), (35, .pointer (some p17)), (36, .int .u64 ((xs.getD (s + j) 0 : Nat) : Int)), (37, .slice D m cd), (38, .int .i64 ((j : Nat) : Int)), (39, .pointer (some p18)), (40, .int .u64 ((es.getD j 0 : Nat) : Int)), (41, .bool true)]) rfl rfl rfl rfl rfl (rd_assign rfl) ?_
            exact dobs_nil
          clear hv
          refine eo_keep [(0, .slice A n cap), (1, .slice D m cd), (2, .int .i64 ((s : Nat) : Int)), (8, .int .i64 ((j : Nat) : Int)), (27, .int .i64 ((j : Nat) : Int)), (28, .bool true), (31, .slice A n cap), (32, .int .i64 ((s : Nat) : Int)), (33, .int .i64 ((j : Nat) : Int)), (34, .int .i64 ((s + j : Nat) : Int)), (35, .pointer (some p17)), (36, .int .u64 ((xs.getD (s + j) 0 : Nat) : Int)), (37, .slice D m cd), (38, .int .i64 ((j : Nat) : Int)), (39, .pointer (some p18)), (40, .int .u64 ((es.getD j 0 : Nat) : Int)), (41, .bool true), (42, .slice A n cap), (43, .int .i64 ((s : Nat) : Int)), (44, .int .i64 ((j : Nat) : Int)), (45, .int .i64 ((s + j : Nat) : Int)), (46, .pointer (some p17)), (47, .int .u64 ((xs.getD (s + j) 0 : Nat) : Int)), (48, .slice D m cd), (49, .int .i64 ((j : Nat) : Int)), (50, .pointer (some p18)), (51, .int .u64 ((es.getD j 0 : Nat) : Int)), (52, .bool true), (6, .bool true)] ⟨rfl, rfl, rfl, rfl, rfl, rfl, rfl, rfl, rfl, rfl, rfl, rfl, rfl, rfl, rfl, rfl, rfl, rfl, rfl, rfl, rfl, rfl, rfl, rfl, rfl, rfl, rfl, rfl, rfl, trivial⟩ ?_
          refine eo_then ?_
          refine cw_ret ?_
          refine eo_block_ret ?_
          refine eo_thenR ?_
          refine eo_loopR ?_
          refine eo_block_ret ?_
          refine eo_thenR ?_
          refine eo_ret [.bool true] rfl ⟨rfl, trivial⟩ ?_
          exact ⟨_, rfl, (show Value.bool true = _ by rw [decide_eq_true (goes_gt hlen hle2 hs hwx hwe (by omega) hv hgt)]), hw3⟩
        ·
          refine cw_keep [(0, .slice A n cap), (1, .slice D m cd), (2, .int .i64 ((s : Nat) : Int)), (8, .int .i64 ((j : Nat) : Int)), (27, .int .i64 ((j : Nat) : Int)), (28, .bool true), (31, .slice A n cap), (32, .int .i64 ((s : Nat) : Int)), (33, .int .i64 ((j : Nat) : Int)), (34, .int .i64 ((s + j : Nat) : Int)), (35, .pointer (some p17)), (36, .int .u64 ((xs.getD (s + j) 0 : Nat) : Int)), (37, .slice D m cd), (38, .int .i64 ((j : Nat) : Int)), (39, .pointer (some p18)), (40, .int .u64 ((es.getD j 0 : Nat) : Int)), (41, .bool true)] ⟨rfl, rfl, rfl, rfl, rfl, rfl, rfl, rfl, rfl, rfl, rfl, rfl, rfl, rfl, rfl, rfl, rfl, trivial⟩ ?_
          obtain ⟨v21, hv, e22⟩ : ∃ v, v = v15.drew ∧ Ext v15 v := ⟨_, rfl, (Ext.refl _).drew⟩
          have hw3 : Ext w v21 := hw2.trans e22
          refine cw_det mix (w := v21) [.slice A n cap, .int .i64 ((s : Nat) : Int), .int .i64 ((j : Nat) : Int), .int .i64 ((s + j : Nat) : Int), .pointer (some p17), .int .u64 ((xs.getD (s + j) 0 : Nat) : Int), .slice D m cd, .int .i64 ((j : Nat) : Int), .pointer (some p18), .int .u64 ((es.getD j 0 : Nat) : Int), .bool false, .bool false] [v21] [] [[], [], [], [1, 2], [0, 3], [4], [], [], [6, 7], [8], [5, 9], [10]] [[], [], [], [1, 2], [0, 1, 2, 3], [0, 1, 2, 3, 4], [], [], [6, 7], [6, 7, 8], [0, 1, 2, 3, 4, 5, 6, 7, 8, 9], [0, 1, 2, 3, 4, 5, 6, 7, 8, 9, 10]] [(0, 0), (1, 0), (2, 0), (3, 0), (4, 0), (5, 0), (6, 0), (7, 0), (8, 0), (9, 0), (10, 0), (11, 0)] rfl hv ?_ ?_
          ·
            refine dobs_val ([(0, .slice A n cap), (1, .slice D m cd), (2, .int .i64 ((s : Nat) : Int)), (8, .int .i64 ((j : Nat) : Int)), (27, .int .i64 ((j : Nat) : Int)), (28, .bool true), (31, .slice A n cap), (32, .int .i64 ((s : Nat) : Int)), (33, .int .i64 ((j : Nat) : Int)), (34, .int .i64 ((s + j : Nat) : Int)), (35, .pointer (some p17)), (36, .int .u64 ((xs.getD (s + j) 0 : Nat) : Int)), (37, .slice D m cd), (38, .int .i64 ((j : Nat) : Int)), (39, .pointer (some p18)), (40, .int .u64 ((es.getD j 0 : Nat) : Int)), (41, .bool true)]) rfl rfl rfl rfl rfl (rd_move rfl) ?_
            refine dobs_val ([(0, .slice A n cap), (1, .slice D m cd), (2, .int .i64 ((s : Nat) : Int)), (8, .int .i64 ((j : Nat) : Int)), (27, .int .i64 ((j : Nat) : Int)), (28, .bool true), (31, .slice A n cap), (32, .int .i64 ((s : Nat) : Int)), (33, .int .i64 ((j : Nat) : Int)), (34, .int .i64 ((s + j : Nat) : Int)), (35, .pointer (some p17)), (36, .int .u64 ((xs.getD (s + j) 0 : Nat) : Int)), (37, .slice D m cd), (38, .int .i64 ((j : Nat) : Int)), (39, .pointer (some p18)), (40, .int .u64 ((es.getD j 0 : Nat) : Int)), (41, .bool true)]) rfl rfl rfl rfl rfl (rd_move rfl) ?_
            refine dobs_val ([(0, .slice A n cap), (1, .slice D m cd), (2, .int .i64 ((s : Nat) : Int)), (8, .int .i64 ((j : Nat) : Int)), (27, .int .i64 ((j : Nat) : Int)), (28, .bool true), (31, .slice A n cap), (32, .int .i64 ((s : Nat) : Int)), (33, .int .i64 ((j : Nat) : Int)), (34, .int .i64 ((s + j : Nat) : Int)), (35, .pointer (some p17)), (36, .int .u64 ((xs.getD (s + j) 0 : Nat) : Int)), (37, .slice D m cd), (38, .int .i64 ((j : Nat) : Int)), (39, .pointer (some p18)), (40, .int .u64 ((es.getD j 0 : Nat) : Int)), (41, .bool true)]) rfl rfl rfl rfl rfl (rd_move rfl) ?_
            refine dobs_val ((43, .int .i64 ((s : Nat) : Int)) :: (44, .int .i64 ((j : Nat) : Int)) :: [(0, .slice A n cap), (1, .slice D m cd), (2, .int .i64 ((s : Nat) : Int)), (8, .int .i64 ((j : Nat) : Int)), (27, .int .i64 ((j : Nat) : Int)), (28, .bool true), (31, .slice A n cap), (32, .int .i64 ((s : Nat) : Int)), (33, .int .i64 ((j : Nat) : Int)), (34, .int .i64 ((s + j : Nat) : Int)), (35, .pointer (some p17)), (36, .int .u64 ((xs.getD (s + j) 0 : Nat) : Int)), (37, .slice D m cd), (38, .int .i64 ((j : Nat) : Int)), (39, .pointer (some p18)), (40, .int .u64 ((es.getD j 0 : Nat) : Int)), (41, .bool true)]) rfl rfl rfl rfl rfl (rd_ar rfl rfl ((s + j : Nat) : Int) (ai_add (a := s) (b := j) rfl rfl (by omega))) ?_
            refine dobs_val ((42, .slice A n cap) :: (45, .int .i64 ((s + j : Nat) : Int)) :: [(0, .slice A n cap), (1, .slice D m cd), (2, .int .i64 ((s : Nat) : Int)), (8, .int .i64 ((j : Nat) : Int)), (27, .int .i64 ((j : Nat) : Int)), (28, .bool true), (31, .slice A n cap), (32, .int .i64 ((s : Nat) : Int)), (33, .int .i64 ((j : Nat) : Int)), (34, .int .i64 ((s + j : Nat) : Int)), (35, .pointer (some p17)), (36, .int .u64 ((xs.getD (s + j) 0 : Nat) : Int)), (37, .slice D m cd), (38, .int .i64 ((j : Nat) : Int)), (39, .pointer (some p18)), (40, .int .u64 ((es.getD j 0 : Nat) : Int)), (41, .bool true)]) rfl rfl rfl rfl rfl (rd_idx rfl rfl un_u64 sz_u64 (s + j) rfl (by omega) p17 hp17) ?_
            refine dobs_val ((46, .pointer (some p17)) :: [(0, .slice A n cap), (1, .slice D m cd), (2, .int .i64 ((s : Nat) : Int)), (8, .int .i64 ((j : Nat) : Int)), (27, .int .i64 ((j : Nat) : Int)), (28, .bool true), (31, .slice A n cap), (32, .int .i64 ((s : Nat) : Int)), (33, .int .i64 ((j : Nat) : Int)), (34, .int .i64 ((s + j : Nat) : Int)), (35, .pointer (some p17)), (36, .int .u64 ((xs.getD (s + j) 0 : Nat) : Int)), (37, .slice D m cd), (38, .int .i64 ((j : Nat) : Int)), (39, .pointer (some p18)), (40, .int .u64 ((es.getD j 0 : Nat) : Int)), (41, .bool true)]) rfl rfl rfl rfl rfl (rd_load rfl (load_cell1 ag_u64 (e22.cell hc17))) ?_
            refine dobs_val ([(0, .slice A n cap), (1, .slice D m cd), (2, .int .i64 ((s : Nat) : Int)), (8, .int .i64 ((j : Nat) : Int)), (27, .int .i64 ((j : Nat) : Int)), (28, .bool true), (31, .slice A n cap), (32, .int .i64 ((s : Nat) : Int)), (33, .int .i64 ((j : Nat) : Int)), (34, .int .i64 ((s + j : Nat) : Int)), (35, .pointer (some p17)), (36, .int .u64 ((xs.getD (s + j) 0 : Nat) : Int)), (37, .slice D m cd), (38, .int .i64 ((j : Nat) : Int)), (39, .pointer (some p18)), (40, .int .u64 ((es.getD j 0 : Nat) : Int)), (41, .bool true)]) rfl rfl rfl rfl rfl (rd_move rfl) ?_
            refine dobs_val ([(0, .slice A n cap), (1, .slice D m cd), (2, .int .i64 ((s : Nat) : Int)), (8, .int .i64 ((j : Nat) : Int)), (27, .int .i64 ((j : Nat) : Int)), (28, .bool true), (31, .slice A n cap), (32, .int .i64 ((s : Nat) : Int)), (33, .int .i64 ((j : Nat) : Int)), (34, .int .i64 ((s + j : Nat) : Int)), (35, .pointer (some p17)), (36, .int .u64 ((xs.getD (s + j) 0 : Nat) : Int)), (37, .slice D m cd), (38, .int .i64 ((j : Nat) : Int)), (39, .pointer (some p18)), (40, .int .u64 ((es.getD j 0 : Nat) : Int)), (41, .bool true)]) rfl rfl rfl rfl rfl (rd_move rfl) ?_
            refine dobs_val ((48, .slice D m cd) :: (49, .int .i64 ((j : Nat) : Int)) :: [(0, .slice A n cap), (1, .slice D m cd), (2, .int .i64 ((s : Nat) : Int)), (8, .int .i64 ((j : Nat) : Int)), (27, .int .i64 ((j : Nat) : Int)), (28, .bool true), (31, .slice A n cap), (32, .int .i64 ((s : Nat) : Int)), (33, .int .i64 ((j : Nat) : Int)), (34, .int .i64 ((s + j : Nat) : Int)), (35, .pointer (some p17)), (36, .int .u64 ((xs.getD (s + j) 0 : Nat) : Int)), (37, .slice D m cd), (38, .int .i64 ((j : Nat) : Int)), (39, .pointer (some p18)), (40, .int .u64 ((es.getD j 0 : Nat) : Int)), (41, .bool true)]) rfl rfl rfl rfl rfl (rd_idx rfl rfl un_u64 sz_u64 j rfl (by omega) p18 hp18) ?_
            refine dobs_val ((50, .pointer (some p18)) :: [(0, .slice A n cap), (1, .slice D m cd), (2, .int .i64 ((s : Nat) : Int)), (8, .int .i64 ((j : Nat) : Int)), (27, .int .i64 ((j : Nat) : Int)), (28, .bool true), (31, .slice A n cap), (32, .int .i64 ((s : Nat) : Int)), (33, .int .i64 ((j : Nat) : Int)), (34, .int .i64 ((s + j : Nat) : Int)), (35, .pointer (some p17)), (36, .int .u64 ((xs.getD (s + j) 0 : Nat) : Int)), (37, .slice D m cd), (38, .int .i64 ((j : Nat) : Int)), (39, .pointer (some p18)), (40, .int .u64 ((es.getD j 0 : Nat) : Int)), (41, .bool true)]) rfl rfl rfl rfl rfl (rd_load rfl (load_cell1 ag_u64 (e22.cell hc18))) ?_
            refine dobs_val ((47, .int .u64 ((xs.getD (s + j) 0 : Nat) : Int)) :: (51, .int .u64 ((es.getD j 0 : Nat) : Int)) :: [(0, .slice A n cap), (1, .slice D m cd), (2, .int .i64 ((s : Nat) : Int)), (8, .int .i64 ((j : Nat) : Int)), (27, .int .i64 ((j : Nat) : Int)), (28, .bool true), (31, .slice A n cap), (32, .int .i64 ((s : Nat) : Int)), (33, .int .i64 ((j : Nat) : Int)), (34, .int .i64 ((s + j : Nat) : Int)), (35, .pointer (some p17)), (36, .int .u64 ((xs.getD (s + j) 0 : Nat) : Int)), (37, .slice D m cd), (38, .int .i64 ((j : Nat) : Int)), (39, .pointer (some p18)), (40, .int .u64 ((es.getD j 0 : Nat) : Int)), (41, .bool true)]) rfl rfl rfl rfl rfl (rd_cmp rfl rfl false (cb_gt_f (a := xs.getD (s + j) 0) (b := es.getD j 0) rfl rfl (by omega))) ?_
            refine dobs_val ((52, .bool false) :: [(0, .slice A n cap), (1, .slice D m cd), (2, .int .i64 ((s : Nat) : Int)), (8, .int .i64 ((j : Nat) : Int)), (27, .int .i64 ((j : Nat) : Int)), (28, .bool true), (31, .slice A n cap), (32, .int .i64 ((s : Nat) : Int)), (33, .int .i64 ((j : Nat) : Int)), (34, .int .i64 ((s + j : Nat) : Int)), (35, .pointer (some p17)), (36, .int .u64 ((xs.getD (s + j) 0 : Nat) : Int)), (37, .slice D m cd), (38, .int .i64 ((j : Nat) : Int)), (39, .pointer (some p18)), (40, .int .u64 ((es.getD j 0 : Nat) : Int)), (41, .bool true)]) rfl rfl rfl rfl rfl (rd_assign rfl) ?_
            exact dobs_nil
          clear hv
          refine eo_keep [(0, .slice A n cap), (1, .slice D m cd), (2, .int .i64 ((s : Nat) : Int)), (8, .int .i64 ((j : Nat) : Int)), (27, .int .i64 ((j : Nat) : Int)), (28, .bool true), (31, .slice A n cap), (32, .int .i64 ((s : Nat) : Int)), (33, .int .i64 ((j : Nat) : Int)), (34, .int .i64 ((s + j : Nat) : Int)), (35, .pointer (some p17)), (36, .int .u64 ((xs.getD (s + j) 0 : Nat) : Int)), (37, .slice D m cd), (38, .int .i64 ((j : Nat) : Int)), (39, .pointer (some p18)), (40, .int .u64 ((es.getD j 0 : Nat) : Int)), (41, .bool true), (42, .slice A n cap), (43, .int .i64 ((s : Nat) : Int)), (44, .int .i64 ((j : Nat) : Int)), (45, .int .i64 ((s + j : Nat) : Int)), (46, .pointer (some p17)), (47, .int .u64 ((xs.getD (s + j) 0 : Nat) : Int)), (48, .slice D m cd), (49, .int .i64 ((j : Nat) : Int)), (50, .pointer (some p18)), (51, .int .u64 ((es.getD j 0 : Nat) : Int)), (52, .bool false), (6, .bool false)] ⟨rfl, rfl, rfl, rfl, rfl, rfl, rfl, rfl, rfl, rfl, rfl, rfl, rfl, rfl, rfl, rfl, rfl, rfl, rfl, rfl, rfl, rfl, rfl, rfl, rfl, rfl, rfl, rfl, rfl, trivial⟩ ?_
          refine eo_then ?_
          refine cw_ret ?_
          refine eo_block_ret ?_
          refine eo_thenR ?_
          refine eo_loopR ?_
          refine eo_block_ret ?_
          refine eo_thenR ?_
          refine eo_ret [.bool false] rfl ⟨rfl, trivial⟩ ?_
          exact ⟨_, rfl, (show Value.bool false = _ by rw [decide_eq_false (goes_lt hlen hle2 hs hwx hwe (by omega) hv (by omega))]), hw3⟩
      ·
        refine cw_keep [(0, .slice A n cap), (1, .slice D m cd), (2, .int .i64 ((s : Nat) : Int)), (8, .int .i64 ((j : Nat) : Int)), (27, .int .i64 ((j : Nat) : Int)), (28, .bool true)] ⟨rfl, rfl, rfl, rfl, rfl, rfl, trivial⟩ ?_
        obtain ⟨v23, hv, e24⟩ : ∃ v, v = wr.drew ∧ Ext wr v := ⟨_, rfl, (Ext.refl _).drew⟩
        have hw2 : Ext w v23 := hw1.trans e24
        obtain ⟨p25, hp25, hc25, hv25⟩ := ((rl0.ext e24)).at (i := s + j) (by omega)
        obtain ⟨p26, hp26, hc26, hv26⟩ := ((rl1.ext e24)).at (i := j) (by omega)
        refine cw_det mix (w := v23) [.slice A n cap, .int .i64 ((s : Nat) : Int), .int .i64 ((j : Nat) : Int), .int .i64 ((s + j : Nat) : Int), .pointer (some p25), .int .u64 ((xs.getD (s + j) 0 : Nat) : Int), .slice D m cd, .int .i64 ((j : Nat) : Int), .pointer (some p26), .int .u64 ((es.getD j 0 : Nat) : Int), .bool false] [v23] [] [[], [], [], [1, 2], [0, 3], [4], [], [], [6, 7], [8], [5, 9]] [[], [], [], [1, 2], [0, 1, 2, 3], [0, 1, 2, 3, 4], [], [], [6, 7], [6, 7, 8], [0, 1, 2, 3, 4, 5, 6, 7, 8, 9]] [(0, 0), (1, 0), (2, 0), (3, 0), (4, 0), (5, 0), (6, 0), (7, 0), (8, 0), (9, 0), (10, 0)] rfl hv ?_ ?_
        ·
          refine dobs_val ([(0, .slice A n cap), (1, .slice D m cd), (2, .int .i64 ((s : Nat) : Int)), (8, .int .i64 ((j : Nat) : Int)), (27, .int .i64 ((j : Nat) : Int)), (28, .bool true)]) rfl rfl rfl rfl rfl (rd_move rfl) ?_
          refine dobs_val ([(0, .slice A n cap), (1, .slice D m cd), (2, .int .i64 ((s : Nat) : Int)), (8, .int .i64 ((j : Nat) : Int)), (27, .int .i64 ((j : Nat) : Int)), (28, .bool true)]) rfl rfl rfl rfl rfl (rd_move rfl) ?_
          refine dobs_val ([(0, .slice A n cap), (1, .slice D m cd), (2, .int .i64 ((s : Nat) : Int)), (8, .int .i64 ((j : Nat) : Int)), (27, .int .i64 ((j : Nat) : Int)), (28, .bool true)]) rfl rfl rfl rfl rfl (rd_move rfl) ?_
          refine dobs_val ((32, .int .i64 ((s : Nat) : Int)) :: (33, .int .i64 ((j : Nat) : Int)) :: [(0, .slice A n cap), (1, .slice D m cd), (2, .int .i64 ((s : Nat) : Int)), (8, .int .i64 ((j : Nat) : Int)), (27, .int .i64 ((j : Nat) : Int)), (28, .bool true)]) rfl rfl rfl rfl rfl (rd_ar rfl rfl ((s + j : Nat) : Int) (ai_add (a := s) (b := j) rfl rfl (by omega))) ?_
          refine dobs_val ((31, .slice A n cap) :: (34, .int .i64 ((s + j : Nat) : Int)) :: [(0, .slice A n cap), (1, .slice D m cd), (2, .int .i64 ((s : Nat) : Int)), (8, .int .i64 ((j : Nat) : Int)), (27, .int .i64 ((j : Nat) : Int)), (28, .bool true)]) rfl rfl rfl rfl rfl (rd_idx rfl rfl un_u64 sz_u64 (s + j) rfl (by omega) p25 hp25) ?_
          refine dobs_val ((35, .pointer (some p25)) :: [(0, .slice A n cap), (1, .slice D m cd), (2, .int .i64 ((s : Nat) : Int)), (8, .int .i64 ((j : Nat) : Int)), (27, .int .i64 ((j : Nat) : Int)), (28, .bool true)]) rfl rfl rfl rfl rfl (rd_load rfl (load_cell1 ag_u64 hc25)) ?_
          refine dobs_val ([(0, .slice A n cap), (1, .slice D m cd), (2, .int .i64 ((s : Nat) : Int)), (8, .int .i64 ((j : Nat) : Int)), (27, .int .i64 ((j : Nat) : Int)), (28, .bool true)]) rfl rfl rfl rfl rfl (rd_move rfl) ?_
          refine dobs_val ([(0, .slice A n cap), (1, .slice D m cd), (2, .int .i64 ((s : Nat) : Int)), (8, .int .i64 ((j : Nat) : Int)), (27, .int .i64 ((j : Nat) : Int)), (28, .bool true)]) rfl rfl rfl rfl rfl (rd_move rfl) ?_
          refine dobs_val ((37, .slice D m cd) :: (38, .int .i64 ((j : Nat) : Int)) :: [(0, .slice A n cap), (1, .slice D m cd), (2, .int .i64 ((s : Nat) : Int)), (8, .int .i64 ((j : Nat) : Int)), (27, .int .i64 ((j : Nat) : Int)), (28, .bool true)]) rfl rfl rfl rfl rfl (rd_idx rfl rfl un_u64 sz_u64 j rfl (by omega) p26 hp26) ?_
          refine dobs_val ((39, .pointer (some p26)) :: [(0, .slice A n cap), (1, .slice D m cd), (2, .int .i64 ((s : Nat) : Int)), (8, .int .i64 ((j : Nat) : Int)), (27, .int .i64 ((j : Nat) : Int)), (28, .bool true)]) rfl rfl rfl rfl rfl (rd_load rfl (load_cell1 ag_u64 hc26)) ?_
          refine dobs_val ((36, .int .u64 ((xs.getD (s + j) 0 : Nat) : Int)) :: (40, .int .u64 ((es.getD j 0 : Nat) : Int)) :: [(0, .slice A n cap), (1, .slice D m cd), (2, .int .i64 ((s : Nat) : Int)), (8, .int .i64 ((j : Nat) : Int)), (27, .int .i64 ((j : Nat) : Int)), (28, .bool true)]) rfl rfl rfl rfl rfl (rd_cmp rfl rfl false (cb_ne_f (a := xs.getD (s + j) 0) (b := es.getD j 0) rfl rfl (by omega))) ?_
          exact dobs_nil
        clear hv
        refine eo_keep [(0, .slice A n cap), (1, .slice D m cd), (2, .int .i64 ((s : Nat) : Int)), (8, .int .i64 ((j : Nat) : Int)), (27, .int .i64 ((j : Nat) : Int)), (28, .bool true), (31, .slice A n cap), (32, .int .i64 ((s : Nat) : Int)), (33, .int .i64 ((j : Nat) : Int)), (34, .int .i64 ((s + j : Nat) : Int)), (35, .pointer (some p25)), (36, .int .u64 ((xs.getD (s + j) 0 : Nat) : Int)), (37, .slice D m cd), (38, .int .i64 ((j : Nat) : Int)), (39, .pointer (some p26)), (40, .int .u64 ((es.getD j 0 : Nat) : Int)), (41, .bool false)] ⟨rfl, rfl, rfl, rfl, rfl, rfl, rfl, rfl, rfl, rfl, rfl, rfl, rfl, rfl, rfl, rfl, rfl, trivial⟩ ?_
        refine eo_then ?_
        refine cw_false rfl ?_
        refine cw_skip ?_
        refine eo_block_normal ?_
        refine eo_then ?_
        refine cw_region ?_
        refine wl_move rfl rfl (by decide) ?_
        refine wl_ar rfl rfl rfl (((j : Nat) : Int) - 1) (ar_i64s rfl (by omega) (by omega)) (by decide) ?_
        refine wl_assign rfl rfl (by decide) ?_
        refine wl_nil ?_
        refine eo_round (⟨v23, j, _⟩ : World × Nat × Int) ⟨hw2, (by omega), rfl, goes_step hlen hle2 hs hwx hwe (by omega) hv (by omega), (rl0.ext e24), (rl1.ext e24)⟩ (show j < j + 1 by omega) rfl ⟨rfl, rfl, rfl, rfl, trivial⟩
    ·
      obtain rfl : k = 0 := by omega
      refine cw_region ?_
      refine wl_move rfl rfl (by decide) ?_
      refine wl_cmp rfl rfl rfl false (ge_f (by omega)) (by decide) ?_
      refine wl_nil ?_
      refine eo_then ?_
      refine cw_false rfl ?_
      refine cw_exit ?_
      refine eo_thenX ?_
      refine eo_loopX ?_
      refine eo_block_here ?_
      refine eo_then ?_
      refine cw_seq ?_
      refine cw_region ?_
      refine wl_assign rfl rfl (by decide) ?_
      refine wl_nil ?_
      refine eo_then ?_
      refine cw_ret ?_
      refine eo_ret [.bool true] rfl ⟨rfl, trivial⟩ ?_
      exact ⟨_, rfl, (show Value.bool true = _ by rw [decide_eq_true (goes_eq hlen hle2 hs hwx hwe hv)]), hw1⟩
end Go.Proofs.Ythggegdkpalgbaa

namespace Go.Proofs.Ythggegdkpalgbaa
open Go.RowKit
theorem nb_digit_le {b : Nat} {l : List Nat} {i : Nat} (hi : i < l.length) : l.getD i 0 * b ^ i ≤ nb b l := by
  rw [nb_split b l i (by omega), drop_getD3 hi, Nat.mul_add, Nat.mul_comm (l.getD i 0)]
  omega
theorem divmod_of3 {x y q r : Nat} (h : q * y + r = x) (hr : r < y) : q = x / y ∧ r = x % y := by
  subst h
  rw [Nat.mul_comm]
  constructor
  · rw [Nat.mul_add_div (by omega), Nat.div_eq_of_lt hr]; rfl
  · rw [Nat.mul_add_mod, Nat.mod_eq_of_lt hr]
theorem nb_ge_of_top {b m : Nat} {es : List Nat} (hb : 0 < b) (hm : 0 < m) (hl : es.length = m) (ht : es.getD (m - 1) 0 ≠ 0) : b ^ (m - 1) ≤ nb b es := by
  refine Nat.le_trans ?_ (nb_digit_le (b := b) (l := es) (i := m - 1) (by omega))
  exact Nat.le_mul_of_pos_left _ (by omega)
theorem nb_pos_of_top {b m : Nat} {es : List Nat} (hb : 0 < b) (hm : 0 < m) (hl : es.length = m) (ht : es.getD (m - 1) 0 ≠ 0) : 0 < nb b es := Nat.lt_of_lt_of_le (Nat.pow_pos hb) (nb_ge_of_top hb hm hl ht)
theorem small_of_top {n m : Nat} {xs es : List Nat} (hw : Wfb 4294967296 xs) (hn : xs.length = n) (hl : es.length = m) (h : n < m) (ht : es.getD (m - 1) 0 ≠ 0) : nb 4294967296 xs < nb 4294967296 es := by
  have h1 := nb_lt hw
  rw [hn] at h1
  have h2 := nb_ge_of_top (b := 4294967296) (by decide) (by omega) hl ht
  have h3 : 4294967296 ^ n ≤ 4294967296 ^ (m - 1) := Nat.pow_le_pow_right (by decide) (by omega)
  omega
theorem ref3_goes' {w : World} {A D : Option Addr} {n cap m cd s : Nat} {xs es : List Nat} {b : Bool} (hx : Rd w A n cap xs) (hln : n ≤ 1099511627776) (hy : Rd w D m cd es) (hwx : Wfb 4294967296 xs) (hwe : Wfb 4294967296 es) (hs : s + m ≤ n) (hbig : nb 4294967296 xs < 4294967296 ^ (s + m + 1)) (hb : decide (nb 4294967296 es * 4294967296 ^ s ≤ nb 4294967296 xs) = b) :
    Calls Try.prog 101 #[.slice A n cap, .slice D m cd, .int .i64 (s : Int)] w (Gv w (Is (.bool b))) := hb ▸ ref3_goes hx hln hy hwx hwe hs hbig
theorem nb_digit2_le {b : Nat} {l : List Nat} {i i' : Nat} (h : i + 1 = i') (hi : i' < l.length) : (l.getD i 0 + l.getD i' 0 * b) * b ^ i ≤ nb b l := by
  subst h
  rw [nb_split b l i (by omega), drop_getD3 (k := i) (by omega), drop_getD3 (k := i + 1) hi, Nat.mul_comm, Nat.mul_comm (l.getD (i + 1) 0)]
  refine Nat.le_trans (Nat.mul_le_mul_left _ ?_) (Nat.le_add_left _ _)
  rw [Nat.mul_add]
  omega
theorem dv_head {l : List Nat} {k : Nat} (hw : Wfb 4294967296 l) (hk : k ≤ l.length) (h0 : 0 < k) (hv : nb 4294967296 (l.take k) = nb 4294967296 l) : nb 4294967296 l < (l.getD (k - 1) 0 + 1) * 4294967296 ^ (k - 1) := by
  obtain ⟨j, rfl⟩ : ∃ j, k = j + 1 := ⟨k - 1, by omega⟩
  rw [← hv, nb_take_snoc 4294967296 l j (by omega), Nat.add_sub_cancel, Nat.add_mul, Nat.one_mul, Nat.mul_comm (l.getD j 0)]
  have := nb_take_lt (by decide) hw j
  omega
theorem dv_fit {D hd k t j R : Nat} (hD : D < hd * 4294967296 ^ (k - 1)) (hk : 0 < k) (ht : t * 4294967296 ^ (j + k - 1) ≤ R) : t / hd * D * 4294967296 ^ j ≤ R := by
  have h1 : t / hd * D ≤ t / hd * (hd * 4294967296 ^ (k - 1)) := Nat.mul_le_mul_left _ (Nat.le_of_lt hD)
  have h2 : t / hd * (hd * 4294967296 ^ (k - 1)) ≤ t * 4294967296 ^ (k - 1) := by
    rw [← Nat.mul_assoc]
    exact Nat.mul_le_mul_right _ (Nat.div_mul_le_self t hd)
  have h3 := Nat.mul_le_mul_right (4294967296 ^ j) (Nat.le_trans h1 h2)
  rw [Nat.mul_assoc t, ← Nat.pow_add, show k - 1 + j = j + k - 1 by omega] at h3
  exact Nat.le_trans h3 ht
theorem dv_lt {n D j R : Nat} (h : n * D * 4294967296 ^ j ≤ R) (hR : R < D * 4294967296 ^ (j + 1)) : n < 4294967296 := by
  refine Nat.lt_of_not_le fun hn => ?_
  have h1 : 4294967296 * D * 4294967296 ^ j ≤ n * D * 4294967296 ^ j := Nat.mul_le_mul_right _ (Nat.mul_le_mul_right _ hn)
  have h2 : 4294967296 * D * 4294967296 ^ j = D * 4294967296 ^ (j + 1) := by rw [Nat.pow_succ]; grind
  omega
/-- between the places -/
structure DO (Z D k : Nat) (lq lr : List Nat) : Prop where
  wq : Wfb 4294967296 lq
  wr : Wfb 4294967296 lr
  v : nb 4294967296 lq * D + nb 4294967296 lr = Z
  lt : nb 4294967296 lr < D * 4294967296 ^ k
  z : ∀ i, i < k → lq.getD i 0 = 0
/-- within place j -/
structure DI (Z D j : Nat) (lq lr : List Nat) : Prop where
  wq : Wfb 4294967296 lq
  wr : Wfb 4294967296 lr
  v : nb 4294967296 lq * D + nb 4294967296 lr = Z
  lt : lq.getD j 0 * (D * 4294967296 ^ j) + nb 4294967296 lr < D * 4294967296 ^ (j + 1)
  z : ∀ i, i < j → lq.getD i 0 = 0
theorem getD_zeros (k i : Nat) : (List.replicate k 0).getD i 0 = 0 := by
  rw [List.getD_eq_getElem?_getD]
  by_cases h : i < k
  · rw [List.getElem?_replicate_of_lt h]; rfl
  · rw [List.getElem?_eq_none (by rw [List.length_replicate]; omega)]; rfl
theorem DO.start {X Y f n m : Nat} {lr ld : List Nat} (hw : Wfb 4294967296 lr) (hr : nb 4294967296 lr = X * f) (hd : nb 4294967296 ld = Y * f) (hf : 1 ≤ f) (hX : X < 4294967296 ^ n) (hY : 4294967296 ^ (m - 1) ≤ Y) (hm : 0 < m) (hmn : m ≤ n) :
    DO (X * f) (nb 4294967296 ld) (n - m + 1) (List.replicate (n - m + 1) 0) lr := by
  refine ⟨Wfb_zeros (by decide) _, hw, by rw [nb_zeros, hr]; omega, ?_, fun i _ => getD_zeros _ i⟩
  rw [hr, hd]
  have h1 : 4294967296 ^ n = 4294967296 ^ (m - 1) * 4294967296 ^ (n - m + 1) := by rw [← Nat.pow_add]; congr 1; omega
  have h2 : 4294967296 ^ (m - 1) * 4294967296 ^ (n - m + 1) ≤ Y * 4294967296 ^ (n - m + 1) := Nat.mul_le_mul_right _ hY
  rw [Nat.mul_right_comm]
  exact Nat.mul_lt_mul_of_pos_right (by omega) hf
theorem DO.enter {Z D j : Nat} {lq lr : List Nat} (h : DO Z D (j + 1) lq lr) : DI Z D j lq lr := ⟨h.wq, h.wr, h.v, by rw [h.z j (by omega), Nat.zero_mul, Nat.zero_add]; exact h.lt, fun i hi => h.z i (by omega)⟩
theorem DI.leave {Z D j : Nat} {lq lr : List Nat} (h : DI Z D j lq lr) (hn : ¬ D * 4294967296 ^ j ≤ nb 4294967296 lr) : DO Z D j lq lr := ⟨h.wq, h.wr, h.v, by omega, h.z⟩
theorem DI.sum {Z D j n : Nat} {lq lr l' : List Nat} (h : DI Z D j lq lr) (hv : nb 4294967296 l' + n * D * 4294967296 ^ j = nb 4294967296 lr) : (lq.getD j 0 + n) * (D * 4294967296 ^ j) + nb 4294967296 l' < D * 4294967296 ^ (j + 1) := by
  have h1 := h.lt
  rw [Nat.add_mul, ← Nat.mul_assoc n]
  omega
theorem DI.digit {Z D j n : Nat} {lq lr l' : List Nat} (h : DI Z D j lq lr) (hv : nb 4294967296 l' + n * D * 4294967296 ^ j = nb 4294967296 lr) : lq.getD j 0 + n < 4294967296 := by
  have h1 := h.sum hv
  refine dv_lt (R := (lq.getD j 0 + n) * D * 4294967296 ^ j) (Nat.le_refl _) ?_
  rw [Nat.mul_assoc]; omega
theorem DI.step {Z D j n : Nat} {lq lr l' : List Nat} (h : DI Z D j lq lr) (hj : j < lq.length) (hw : Wfb 4294967296 l') (hv : nb 4294967296 l' + n * D * 4294967296 ^ j = nb 4294967296 lr) : DI Z D j (lq.set j (lq.getD j 0 + n)) l' := by
  refine ⟨Wfb_set h.wq _ (h.digit hv), hw, ?_, ?_, fun i hi => by rw [getD_set_ne (by omega), h.z i hi]⟩
  · have h1 := nb_set 4294967296 hj (lq.getD j 0 + n)
    rw [Nat.mul_add] at h1
    have h2 : nb 4294967296 (lq.set j (lq.getD j 0 + n)) = nb 4294967296 lq + 4294967296 ^ j * n := by omega
    have h3 := h.v
    have h4 : 4294967296 ^ j * n * D = n * D * 4294967296 ^ j := by grind
    rw [h2, Nat.add_mul, h4]
    omega
  · rw [getD_set_eq hj]; exact h.sum hv
theorem dv_less {D j n : Nat} {lr l' : List Nat} (hn : 1 ≤ n) (hD : 0 < D) (hv : nb 4294967296 l' + n * D * 4294967296 ^ j = nb 4294967296 lr) : nb 4294967296 l' < nb 4294967296 lr := by
  have : 0 < n * D * 4294967296 ^ j := Nat.mul_pos (Nat.mul_pos hn hD) (Nat.pow_pos (by decide))
  omega
theorem dv_big {Z D j k : Nat} {lq lr ld : List Nat} (h : DI Z D j lq lr) (hd : nb 4294967296 ld = D) (hw : Wfb 4294967296 ld) (hv : nb 4294967296 (ld.take k) = nb 4294967296 ld) : nb 4294967296 lr < 4294967296 ^ (j + k + 1) := by
  have h1 := nb_take_lt (by decide) hw k
  rw [hv, hd] at h1
  have h2 := h.lt
  have h3 : D * 4294967296 ^ (j + 1) ≤ 4294967296 ^ k * 4294967296 ^ (j + 1) := Nat.mul_le_mul_right _ (Nat.le_of_lt h1)
  rw [← Nat.pow_add, show k + (j + 1) = j + k + 1 by omega] at h3
  omega
/-- the division by f -/
structure DF (f : Nat) (l0 : List Nat) (k rest : Nat) (l : List Nat) : Prop where
  len : l.length = l0.length
  wf : Wfb 4294967296 l
  rf : rest < f
  v : nb 4294967296 (l0.drop k) = nb 4294967296 (l.drop k) * f + rest
  same : ∀ i, i < k → l.getD i 0 = l0.getD i 0
theorem DF.start {f n : Nat} {l0 : List Nat} (hw : Wfb 4294967296 l0) (hf : 1 ≤ f) (hl : l0.length = n) : DF f l0 n 0 l0 := ⟨rfl, hw, hf, by rw [List.drop_of_length_le (by omega), nb_nil, Nat.zero_mul], fun _ _ => rfl⟩
theorem DF.step {f j rest : Nat} {l0 l : List Nat} (h : DF f l0 (j + 1) rest l) (hj : j < l0.length) (hd : (rest * 4294967296 + l.getD j 0) / f < 4294967296) (hf : 1 ≤ f) : DF f l0 j ((rest * 4294967296 + l.getD j 0) % f) (l.set j ((rest * 4294967296 + l.getD j 0) / f)) := by
  refine ⟨by rw [List.length_set, h.len], Wfb_set h.wf _ hd, Nat.mod_lt _ hf, ?_, fun i hi => by rw [getD_set_ne (by omega), h.same i (by omega)]⟩
  rw [drop_getD3 hj, drop_getD3 (xs := l.set j _) (k := j) (by rw [List.length_set, h.len]; exact hj), getD_set_eq (by rw [h.len]; exact hj), h.v, ← h.same j (by omega), List.drop_set_of_lt (by omega)]
  have e := Nat.div_add_mod (rest * 4294967296 + l.getD j 0) f
  generalize (rest * 4294967296 + l.getD j 0) / f = Q at *
  generalize (rest * 4294967296 + l.getD j 0) % f = R at *
  have e2 : (Q + 4294967296 * nb 4294967296 (List.drop (j + 1) l)) * f = f * Q + 4294967296 * (nb 4294967296 (List.drop (j + 1) l) * f) := by grind
  rw [e2]
  omega
theorem DF.digit {f j rest : Nat} {l0 l : List Nat} (h : DF f l0 (j + 1) rest l) : (rest * 4294967296 + l.getD j 0) / f < 4294967296 := by
  have h1 := Wfb_getD (b := 4294967296) (by decide) h.wf j
  have h2 := h.rf
  rw [Nat.div_lt_iff_lt_mul (by omega)]
  have h3 : (rest + 1) * 4294967296 ≤ f * 4294967296 := Nat.mul_le_mul_right _ h2
  rw [Nat.mul_comm 4294967296 f]
  omega
theorem dv_done {X Y f rest : Nat} {lq lr ld l : List Nat} (h : DO (X * f) (nb 4294967296 ld) 0 lq lr) (hd : nb 4294967296 ld = Y * f) (hF : DF f lr 0 rest l) : nb 4294967296 lq = X / Y ∧ nb 4294967296 l = X % Y := by
  have h1 := h.v
  have h2 := h.lt
  have h3 := hF.v
  have h4 := hF.rf
  rw [List.drop_zero, List.drop_zero] at h3
  rw [hd, Nat.pow_zero, Nat.mul_one] at h2
  rw [hd] at h1
  have e : (nb 4294967296 lq * Y + nb 4294967296 l) * f + rest = X * f := by rw [Nat.add_mul, Nat.mul_assoc]; omega
  have h0 : rest = 0 := by
    have := congrArg (· % f) e
    simp only [Nat.mul_mod_left, Nat.add_comm _ rest, Nat.add_mul_mod_self_right] at this
    rwa [Nat.mod_eq_of_lt h4] at this
  rw [h0, Nat.add_zero] at e h3
  have e2 := Nat.eq_of_mul_eq_mul_right (by omega : 0 < f) e
  have h5 : nb 4294967296 l < Y := by
    rw [h3] at h2
    exact Nat.lt_of_mul_lt_mul_right h2
  have := divmod_of3 (x := X) (y := Y) e2 h5
  exact this
set_option maxHeartbeats 4000000 in
theorem ref3_divide {w : World} {A D : Option Addr} {n cap m cd : Nat} {xs es : List Nat} (hx : Rd w A n cap xs) (hln : n ≤ 274877906944) (hy : Rd w D m cd es) (hlm : m ≤ 274877906944) (hwx : Wfb 4294967296 xs) (hwe : Wfb 4294967296 es) (hxt : n = 0 ∨ xs.getD (n - 1) 0 ≠ 0) (hm0 : 0 < m) (htop : es.getD (m - 1) 0 ≠ 0) :
    Calls Try.prog 83 #[.slice A n cap, .slice D m cd] w (Gv w (T2 (WD (nb 4294967296 xs / nb 4294967296 es)) (WD (nb 4294967296 xs % nb 4294967296 es)))) := by
  have hlen := hx.len
  have hle := hx.rv.le
  have hlem := hy.len
  have hle2 := hy.rv.le
  refine sx_enter Try.func83 rfl (n := 143) rfl (Nat.le_of_ble_eq_true rfl) (args := [.slice A n cap, .slice D m cd]) ?_
  refine cw_keep [(0, .slice A n cap), (1, .slice D m cd)] ⟨rfl, rfl, trivial⟩ ?_
  refine cw_seq ?_
  refine cw_region ?_
  refine wl_assign rfl rfl (by decide) ?_
  refine wl_assign rfl rfl (by decide) ?_
  refine wl_nil ?_
  refine eo_then ?_
  refine cw_seq ?_
  refine cw_seq ?_
  by_cases hnm : n < m
  ·
    refine cw_region ?_
    refine wl_move rfl rfl (by decide) ?_
    refine wl_pure rfl rfl (v := .int .i64 ((n : Nat) : Int)) (by decide) (by kernel_rfl) ?_
    refine wl_move rfl rfl (by decide) ?_
    refine wl_pure rfl rfl (v := .int .i64 ((m : Nat) : Int)) (by decide) (by kernel_rfl) ?_
    refine wl_cmp rfl rfl rfl true (cb_lt_t (a := n) (b := m) rfl rfl (by omega)) (by decide) ?_
    refine wl_nil ?_
    refine eo_then ?_
    refine cw_true rfl ?_
    refine cw_seq ?_
    refine cw_region ?_
    refine wl_move rfl rfl (by decide) ?_
    refine wl_assign rfl rfl (by decide) ?_
    refine wl_assign rfl rfl (by decide) ?_
    refine wl_nil ?_
    refine eo_then ?_
    refine cw_ret ?_
    refine eo_thenR ?_
    refine eo_ret [.slice none 0 0, .slice A n cap] rfl ⟨rfl, rfl, trivial⟩ ?_
    have hlt := small_of_top hwx hlen hlem hnm htop
    refine ⟨_, rfl, ⟨_, _, rfl, ⟨_, _, _, rfl, ?_⟩, ⟨_, _, _, rfl, ?_⟩⟩, (Ext.refl w)⟩
    · rw [Nat.div_eq_of_lt hlt]; exact Rd.nil _
    · rw [Nat.mod_eq_of_lt hlt, db_of_top' b32 hwx (by rw [hlen]; exact hxt)]; exact hx
  ·
    refine cw_region ?_
    refine wl_move rfl rfl (by decide) ?_
    refine wl_pure rfl rfl (v := .int .i64 ((n : Nat) : Int)) (by decide) (by kernel_rfl) ?_
    refine wl_move rfl rfl (by decide) ?_
    refine wl_pure rfl rfl (v := .int .i64 ((m : Nat) : Int)) (by decide) (by kernel_rfl) ?_
    refine wl_cmp rfl rfl rfl false (cb_lt_f (a := n) (b := m) rfl rfl (by omega)) (by decide) ?_
    refine wl_nil ?_
    refine eo_then ?_
    refine cw_false rfl ?_
    refine cw_skip ?_
    refine eo_then ?_
    refine cw_seq ?_
    have htb := Wfb_getD (b := 4294967296) (by decide) hwe (m - 1)
    refine cw_region ?_
    refine wl_assign rfl rfl (by decide) ?_
    refine wl_nil ?_
    refine eo_then ?_
    refine cw_seq ?_
    refine cw_block ?_
    refine cw_loop (T := World × Nat)
      (fun ⟨wr, f⟩ => [(0, .slice A n cap), (1, .slice D m cd), (6, .int .u64 ((f : Nat) : Int))])
      (fun ⟨wr, f⟩ => wr)
      (fun ⟨wr, f⟩ => (Ext w wr) ∧ (1 ≤ f) ∧ (f ≤ 4294967295) ∧ (Rd wr A n cap xs) ∧ (Rd wr D m cd es))
      (fun ⟨wr, f⟩ => 4294967296 - f)
      (⟨w, 1⟩ : World × Nat) ⟨(Ext.refl w), (by decide), (by decide), hx, hy⟩ rfl ⟨rfl, rfl, rfl, trivial⟩ ?_
    rintro ⟨wr, f⟩ ⟨hw1, hf1, hf2, rl0, rl1⟩
    refine cw_re [(0, .slice A n cap), (1, .slice D m cd), (6, .int .u64 ((f : Nat) : Int))] wr rfl ⟨rfl, rfl, rfl, trivial⟩ ?_
    refine cw_seq ?_
    refine cw_seq ?_
    have hm : (es.getD (m - 1) 0) * f ≤ 4294967295 * 4294967295 := Nat.mul_le_mul (by omega) (by omega)
    by_cases hmul : (es.getD (m - 1) 0) * f < 2147483648
    ·
      have hm2 : 1 * f ≤ (es.getD (m - 1) 0) * f := Nat.mul_le_mul_right _ (by omega)
      refine cw_region ?_
      refine wl_move rfl rfl (by decide) ?_
      refine wl_move rfl rfl (by decide) ?_
      refine wl_pure rfl rfl (v := .int .i64 ((m : Nat) : Int)) (by decide) (by kernel_rfl) ?_
      refine wl_ar rfl rfl rfl ((m - 1 : Nat) : Int) (ai_sub (a := m) (b := 1) rfl rfl (by omega) (by omega)) (by decide) ?_
      obtain ⟨p1, hp1, hc1, hv1⟩ := (rl1).at (i := m - 1) (by omega)
      refine wl_idx rfl rfl rfl un_u64 sz_u64 (m - 1) rfl (by omega) p1 hp1 (by decide) ?_
      refine wl_load rfl rfl (load_cell1 ag_u64 hc1) (by decide) ?_
      refine wl_move rfl rfl (by decide) ?_
      refine wl_ar rfl rfl rfl (((es.getD (m - 1) 0) * f : Nat) : Int) (au_mul (a := es.getD (m - 1) 0) (b := f) rfl rfl (by omega)) (by decide) ?_
      refine wl_cmp rfl rfl rfl true (cb_lt_t (a := (es.getD (m - 1) 0) * f) (b := 2147483648) rfl rfl (by omega)) (by decide) ?_
      refine wl_nil ?_
      refine eo_then ?_
      refine cw_true rfl ?_
      refine cw_skip ?_
      refine eo_then ?_
      refine cw_block ?_
      refine cw_region ?_
      refine wl_move rfl rfl (by decide) ?_
      refine wl_ar rfl rfl rfl ((2 * f : Nat) : Int) (au_mul (a := 2) (b := f) rfl rfl (by omega)) (by decide) ?_
      refine wl_assign rfl rfl (by decide) ?_
      refine wl_nil ?_
      refine eo_block_normal ?_
      refine eo_round (⟨wr, 2 * f⟩ : World × Nat) ⟨hw1, (by omega), (by omega), rl0, rl1⟩ (show 4294967296 - 2 * f < 4294967296 - f by omega) rfl ⟨rfl, rfl, rfl, trivial⟩
    ·
      refine cw_region ?_
      refine wl_move rfl rfl (by decide) ?_
      refine wl_move rfl rfl (by decide) ?_
      refine wl_pure rfl rfl (v := .int .i64 ((m : Nat) : Int)) (by decide) (by kernel_rfl) ?_
      refine wl_ar rfl rfl rfl ((m - 1 : Nat) : Int) (ai_sub (a := m) (b := 1) rfl rfl (by omega) (by omega)) (by decide) ?_
      obtain ⟨p2, hp2, hc2, hv2⟩ := (rl1).at (i := m - 1) (by omega)
      refine wl_idx rfl rfl rfl un_u64 sz_u64 (m - 1) rfl (by omega) p2 hp2 (by decide) ?_
      refine wl_load rfl rfl (load_cell1 ag_u64 hc2) (by decide) ?_
      refine wl_move rfl rfl (by decide) ?_
      refine wl_ar rfl rfl rfl (((es.getD (m - 1) 0) * f : Nat) : Int) (au_mul (a := es.getD (m - 1) 0) (b := f) rfl rfl (by omega)) (by decide) ?_
      refine wl_cmp rfl rfl rfl false (cb_lt_f (a := (es.getD (m - 1) 0) * f) (b := 2147483648) rfl rfl (by omega)) (by decide) ?_
      refine wl_nil ?_
      refine eo_then ?_
      refine cw_false rfl ?_
      refine cw_exit ?_
      refine eo_thenX ?_
      refine eo_loopX ?_
      refine eo_block_here ?_
      refine eo_then ?_
      refine cw_seq ?_
      refine cw_region ?_
      refine wl_move rfl rfl (by decide) ?_
      refine wl_move rfl rfl (by decide) ?_
      refine wl_call rfl rfl (vs := [.slice A n cap, .int .u64 ((f : Nat) : Int)]) (by kernel_rfl) (by decide) (ref3_scaled rl0 (by omega) hwx hf2) ?_
      rintro _ v3 ⟨xr5, rfl, r5, e4⟩
      refine ret_intro ?_
      have hw2 : Ext w v3 := hw1.trans e4
      obtain ⟨g6, l6, rfl, gb6, hb6, hl6, hwf6, hnv6⟩ := r5
      have ge7 : w.heap.size ≤ g6 := Nat.le_trans hw1.size gb6
      have ne8 : 0 < cap → ∀ a, A = some a → a.block ≠ g6 := fun hc a ha => by have := (rl0).rv.blk a ha hc; omega
      have ne9 : 0 < cd → ∀ a, D = some a → a.block ≠ g6 := fun hc a ha => by have := (rl1).rv.blk a ha hc; omega
      refine wl_assign rfl rfl (by decide) ?_
      refine wl_nil ?_
      refine eo_then ?_
      refine cw_seq ?_
      refine cw_region ?_
      refine wl_move rfl rfl (by decide) ?_
      refine wl_move rfl rfl (by decide) ?_
      refine wl_call rfl rfl (vs := [.slice D m cd, .int .u64 ((f : Nat) : Int)]) (by kernel_rfl) (by decide) (ref3_scaled (rl1.ext e4) (by omega) hwe hf2) ?_
      rintro _ v10 ⟨xr12, rfl, r12, e11⟩
      refine ret_intro ?_
      have hw3 : Ext w v10 := hw2.trans e11
      obtain ⟨g13, l13, rfl, gb13, hb13, hl13, hwf13, hnv13⟩ := r12
      have ge14 : w.heap.size ≤ g13 := Nat.le_trans hw2.size gb13
      have q15 : g6 < g13 := Nat.lt_of_lt_of_le hb6.lt gb13
      have ne16 : 0 < cap → ∀ a, A = some a → a.block ≠ g13 := fun hc a ha => by have := ((rl0.ext e4)).rv.blk a ha hc; omega
      have ne17 : 0 < cd → ∀ a, D = some a → a.block ≠ g13 := fun hc a ha => by have := ((rl1.ext e4)).rv.blk a ha hc; omega
      refine wl_assign rfl rfl (by decide) ?_
      refine wl_nil ?_
      refine eo_then ?_
      refine cw_seq ?_
      refine cw_region ?_
      refine wl_move rfl rfl (by decide) ?_
      refine wl_call rfl rfl (vs := [.slice (some ⟨g13, 0, none⟩) (m + 1) (m + 1)]) (by kernel_rfl) (by decide) (ref3_Trim (hb13.rd0 hwf13.wf hl13 (by omega)) (by omega)) ?_
      rintro _ v18 ⟨xr20, rfl, r20, e19⟩
      refine ret_intro ?_
      have hw4 : Ext w v18 := hw3.trans e19
      obtain ⟨k21, rfl, hk21, ht21, hv21⟩ := r20
      refine wl_assign rfl rfl (by decide) ?_
      refine wl_nil ?_
      refine eo_then ?_
      refine cw_seq ?_
      have hD := hnv13
      have hvd := hv21 4294967296
      have hY0 := nb_pos_of_top (b := 4294967296) (by decide) (by omega) hlem htop
      have hDp : 0 < nb 4294967296 l13 := by rw [hD]; exact Nat.mul_pos hY0 hf1
      have hkp : 0 < k21 := by refine Nat.pos_of_ne_zero fun e => ?_; rw [e] at hvd; simp only [List.take_zero, nb_nil] at hvd; omega
      have hhd := dv_head hwf13 (by omega) hkp hvd
      have htopd := Wfb_getD (b := 4294967296) (by decide) hwf13 (k21 - 1)
      refine cw_region ?_
      refine wl_move rfl rfl (by decide) ?_
      refine wl_pure rfl rfl (v := .int .i64 ((n : Nat) : Int)) (by decide) (by kernel_rfl) ?_
      refine wl_move rfl rfl (by decide) ?_
      refine wl_pure rfl rfl (v := .int .i64 ((m : Nat) : Int)) (by decide) (by kernel_rfl) ?_
      refine wl_ar rfl rfl rfl ((n - m : Nat) : Int) (ai_sub (a := n) (b := m) rfl rfl (by omega) (by omega)) (by decide) ?_
      refine wl_ar rfl rfl rfl (((n - m) + 1 : Nat) : Int) (ai_add (a := n - m) (b := 1) rfl rfl (by omega)) (by decide) ?_
      refine wl_make rfl (k := (n - m) + 1) rfl rfl rfl un_u64 info64 rfl (by decide) (by omega) (by decide) fun g22 v23 hg24 hb25 e26 => ?_
      rw [replicate_W64] at hb25
      have ge27 : w.heap.size ≤ g22 := by rw [← hg24]; exact hw4.size
      have q29 : g6 < g22 := by rw [← hg24]; exact (hb6.ext (e11.trans e19)).lt
      have q30 : g13 < g22 := by rw [← hg24]; exact (hb13.ext e19).lt
      have ne31 : 0 < cap → ∀ a, A = some a → a.block ≠ g22 := fun hc a ha => by have := ((rl0.ext (e4.trans (e11.trans e19)))).rv.blk a ha hc; omega
      have ne32 : 0 < cd → ∀ a, D = some a → a.block ≠ g22 := fun hc a ha => by have := ((rl1.ext (e4.trans (e11.trans e19)))).rv.blk a ha hc; omega
      clear hg24
      have hw5 : Ext w v23 := hw4.trans e26
      refine wl_assign rfl rfl (by decide) ?_
      refine wl_nil ?_
      refine eo_then ?_
      refine cw_seq ?_
      refine cw_region ?_
      refine wl_move rfl rfl (by decide) ?_
      refine wl_move rfl rfl (by decide) ?_
      refine wl_pure rfl rfl (v := .int .i64 ((k21 : Nat) : Int)) (by decide) (by kernel_rfl) ?_
      refine wl_ar rfl rfl rfl ((k21 - 1 : Nat) : Int) (ai_sub (a := k21) (b := 1) rfl rfl (by omega) (by omega)) (by decide) ?_
      refine wl_idx rfl rfl rfl un_u64 sz_u64 (k21 - 1) rfl (by omega) ⟨g13, k21 - 1, none⟩ (arr_at _ _) (by decide) ?_
      refine wl_load rfl rfl (load_word ag_u64 (hb13.ext (e19.trans e26)) (by rw [hl13]; omega)) (by decide) ?_
      refine wl_ar rfl rfl rfl (((l13.getD (k21 - 1) 0) + 1 : Nat) : Int) (au_add (a := l13.getD (k21 - 1) 0) (b := 1) rfl rfl (by omega)) (by decide) ?_
      refine wl_assign rfl rfl (by decide) ?_
      refine wl_nil ?_
      refine eo_then ?_
      refine cw_seq ?_
      refine cw_seq ?_
      refine cw_region ?_
      refine wl_move rfl rfl (by decide) ?_
      refine wl_pure rfl rfl (v := .int .i64 ((n : Nat) : Int)) (by decide) (by kernel_rfl) ?_
      refine wl_move rfl rfl (by decide) ?_
      refine wl_pure rfl rfl (v := .int .i64 ((m : Nat) : Int)) (by decide) (by kernel_rfl) ?_
      refine wl_ar rfl rfl rfl ((n - m : Nat) : Int) (ai_sub (a := n) (b := m) rfl rfl (by omega) (by omega)) (by decide) ?_
      refine wl_assign rfl rfl (by decide) ?_
      refine wl_nil ?_
      refine eo_then ?_
      refine cw_block ?_
      refine cw_loop (T := World × Nat × Int × List Nat × List Nat)
        (fun ⟨wr, k, ii, lq, lr⟩ => [(6, .int .u64 ((f : Nat) : Int)), (7, .slice (some ⟨g6, 0, none⟩) (n + 1) (n + 1)), (8, .slice (some ⟨g13, 0, none⟩) k21 (m + 1)), (9, .slice (some ⟨g22, 0, none⟩) ((n - m) + 1) ((n - m) + 1)), (10, .int .u64 (((l13.getD (k21 - 1) 0) + 1 : Nat) : Int)), (11, .int .i64 ii)])
        (fun ⟨wr, k, ii, lq, lr⟩ => wr)
        (fun ⟨wr, k, ii, lq, lr⟩ => (Ext w wr) ∧ (k ≤ n - m + 1) ∧ (ii = (k : Int) - 1) ∧ (Bk wr g6 23 (lr.map W64)) ∧ (lr.length = n + 1) ∧ (Bk wr g13 23 (l13.map W64)) ∧ (Bk wr g22 23 (lq.map W64)) ∧ (lq.length = n - m + 1) ∧ (DO (nb 4294967296 xs * f) (nb 4294967296 l13) k lq lr))
        (fun ⟨wr, k, ii, lq, lr⟩ => k)
        (⟨v23, n - m + 1, _, _, _⟩ : World × Nat × Int × List Nat × List Nat) ⟨hw5, Nat.le_refl _, (by omega), (hb6.ext (e11.trans (e19.trans e26))), hl6, (hb13.ext (e19.trans e26)), hb25, (List.length_replicate (n := (n - m) + 1) (a := 0)), DO.start hwf6 hnv6 hD hf1 (by have := nb_lt hwx; rwa [hlen] at this) (nb_ge_of_top (by decide) (by omega) hlem htop) (by omega) (by omega)⟩ rfl ⟨rfl, rfl, rfl, rfl, rfl, rfl, trivial⟩ ?_
      rintro ⟨wr, k, ii, lq, lr⟩ ⟨hw1, hk, hii, hbr, hlr, hbd, hbq, hlq, hO⟩
      refine cw_re [(6, .int .u64 ((f : Nat) : Int)), (7, .slice (some ⟨g6, 0, none⟩) (n + 1) (n + 1)), (8, .slice (some ⟨g13, 0, none⟩) k21 (m + 1)), (9, .slice (some ⟨g22, 0, none⟩) ((n - m) + 1) ((n - m) + 1)), (10, .int .u64 (((l13.getD (k21 - 1) 0) + 1 : Nat) : Int)), (11, .int .i64 ii)] wr rfl ⟨rfl, rfl, rfl, rfl, rfl, rfl, trivial⟩ ?_
      refine cw_seq ?_
      refine cw_seq ?_
      by_cases hk0 : 0 < k
      ·
        obtain ⟨j, rfl⟩ : ∃ j, k = j + 1 := ⟨k - 1, by omega⟩
        obtain rfl : ii = (j : Int) := by omega
        refine cw_region ?_
        refine wl_move rfl rfl (by decide) ?_
        refine wl_cmp rfl rfl rfl true (cb_ge_t (a := j) (b := 0) rfl rfl (by omega)) (by decide) ?_
        refine wl_nil ?_
        refine eo_then ?_
        refine cw_true rfl ?_
        refine cw_skip ?_
        refine eo_then ?_
        refine cw_seq ?_
        refine cw_block ?_
        refine cw_block ?_
        have hE := hO.enter
        clear hO
        refine cw_loop (T := World × List Nat × List Nat)
          (fun ⟨wr, lq, lr⟩ => [(6, .int .u64 ((f : Nat) : Int)), (7, .slice (some ⟨g6, 0, none⟩) (n + 1) (n + 1)), (8, .slice (some ⟨g13, 0, none⟩) k21 (m + 1)), (9, .slice (some ⟨g22, 0, none⟩) ((n - m) + 1) ((n - m) + 1)), (10, .int .u64 (((l13.getD (k21 - 1) 0) + 1 : Nat) : Int)), (11, .int .i64 ((j : Nat) : Int))])
          (fun ⟨wr, lq, lr⟩ => wr)
          (fun ⟨wr, lq, lr⟩ => (Ext w wr) ∧ (Bk wr g6 23 (lr.map W64)) ∧ (lr.length = n + 1) ∧ (Bk wr g13 23 (l13.map W64)) ∧ (Bk wr g22 23 (lq.map W64)) ∧ (lq.length = n - m + 1) ∧ (DI (nb 4294967296 xs * f) (nb 4294967296 l13) j lq lr))
          (fun ⟨wr, lq, lr⟩ => nb 4294967296 lr)
          (⟨wr, _, _⟩ : World × List Nat × List Nat) ⟨hw1, hbr, hlr, hbd, hbq, hlq, hE⟩ rfl ⟨rfl, rfl, rfl, rfl, rfl, rfl, trivial⟩ ?_
        rintro ⟨wr, lq, lr⟩ ⟨hw1, hbr, hlr, hbd, hbq, hlq, hI⟩
        refine cw_re [(6, .int .u64 ((f : Nat) : Int)), (7, .slice (some ⟨g6, 0, none⟩) (n + 1) (n + 1)), (8, .slice (some ⟨g13, 0, none⟩) k21 (m + 1)), (9, .slice (some ⟨g22, 0, none⟩) ((n - m) + 1) ((n - m) + 1)), (10, .int .u64 (((l13.getD (k21 - 1) 0) + 1 : Nat) : Int)), (11, .int .i64 ((j : Nat) : Int))] wr rfl ⟨rfl, rfl, rfl, rfl, rfl, rfl, trivial⟩ ?_
        refine cw_block ?_
        refine cw_seq ?_
        have hwr := hI.wr
        have hb1 := Wfb_getD (b := 4294967296) (by decide) hwr ((j + k21) - 1)
        have hb2 := Wfb_getD (b := 4294967296) (by decide) hwr (j + k21)
        by_cases hjk : j + k21 < n + 1
        ·
          have hT := nb_digit2_le (b := 4294967296) (l := lr) (i := (j + k21) - 1) (i' := j + k21) (by omega) (by omega)
          refine cw_region ?_
          refine wl_move rfl rfl (by decide) ?_
          refine wl_move rfl rfl (by decide) ?_
          refine wl_move rfl rfl (by decide) ?_
          refine wl_pure rfl rfl (v := .int .i64 ((k21 : Nat) : Int)) (by decide) (by kernel_rfl) ?_
          refine wl_ar rfl rfl rfl ((j + k21 : Nat) : Int) (ai_add (a := j) (b := k21) rfl rfl (by omega)) (by decide) ?_
          refine wl_ar rfl rfl rfl (((j + k21) - 1 : Nat) : Int) (ai_sub (a := j + k21) (b := 1) rfl rfl (by omega) (by omega)) (by decide) ?_
          refine wl_idx rfl rfl rfl un_u64 sz_u64 ((j + k21) - 1) rfl (by omega) ⟨g6, (j + k21) - 1, none⟩ (arr_at _ _) (by decide) ?_
          refine wl_load rfl rfl (load_word ag_u64 hbr (by rw [hlr]; omega)) (by decide) ?_
          refine wl_assign rfl rfl (by decide) ?_
          refine wl_nil ?_
          refine eo_then ?_
          refine cw_seq ?_
          refine cw_seq ?_
          refine cw_region ?_
          refine wl_move rfl rfl (by decide) ?_
          refine wl_move rfl rfl (by decide) ?_
          refine wl_pure rfl rfl (v := .int .i64 ((k21 : Nat) : Int)) (by decide) (by kernel_rfl) ?_
          refine wl_ar rfl rfl rfl ((j + k21 : Nat) : Int) (ai_add (a := j) (b := k21) rfl rfl (by omega)) (by decide) ?_
          refine wl_move rfl rfl (by decide) ?_
          refine wl_pure rfl rfl (v := .int .i64 (((n + 1) : Nat) : Int)) (by decide) (by kernel_rfl) ?_
          refine wl_cmp rfl rfl rfl true (cb_lt_t (a := j + k21) (b := n + 1) rfl rfl (by omega)) (by decide) ?_
          refine wl_nil ?_
          refine eo_then ?_
          refine cw_true rfl ?_
          refine cw_region ?_
          refine wl_move rfl rfl (by decide) ?_
          refine wl_move rfl rfl (by decide) ?_
          refine wl_move rfl rfl (by decide) ?_
          refine wl_move rfl rfl (by decide) ?_
          refine wl_pure rfl rfl (v := .int .i64 ((k21 : Nat) : Int)) (by decide) (by kernel_rfl) ?_
          refine wl_ar rfl rfl rfl ((j + k21 : Nat) : Int) (ai_add (a := j) (b := k21) rfl rfl (by omega)) (by decide) ?_
          refine wl_idx rfl rfl rfl un_u64 sz_u64 (j + k21) rfl (by omega) ⟨g6, j + k21, none⟩ (arr_at _ _) (by decide) ?_
          refine wl_load rfl rfl (load_word ag_u64 hbr (by rw [hlr]; omega)) (by decide) ?_
          refine wl_ar rfl rfl rfl (((lr.getD (j + k21) 0) * 4294967296 : Nat) : Int) (au_mul (a := lr.getD (j + k21) 0) (b := 4294967296) rfl rfl (by omega)) (by decide) ?_
          refine wl_ar rfl rfl rfl (((lr.getD ((j + k21) - 1) 0) + ((lr.getD (j + k21) 0) * 4294967296) : Nat) : Int) (au_add (a := lr.getD ((j + k21) - 1) 0) (b := (lr.getD (j + k21) 0) * 4294967296) rfl rfl (by omega)) (by decide) ?_
          refine wl_assign rfl rfl (by decide) ?_
          refine wl_nil ?_
          refine eo_then ?_
          refine cw_seq ?_
          have hfit := dv_fit hhd hkp hT
          have hRlt : nb 4294967296 lr < nb 4294967296 l13 * 4294967296 ^ (j + 1) := Nat.lt_of_le_of_lt (Nat.le_add_left _ _) hI.lt
          by_cases hn0 : ((lr.getD ((j + k21) - 1) 0) + ((lr.getD (j + k21) 0) * 4294967296)) / ((l13.getD (k21 - 1) 0) + 1) = 0
          ·
            by_cases hgo : nb 4294967296 l13 * 4294967296 ^ j ≤ nb 4294967296 lr
            ·
              have hgo1 : 1 * nb 4294967296 l13 * 4294967296 ^ j ≤ nb 4294967296 lr := by rw [Nat.one_mul]; exact hgo
              refine cw_region ?_
              refine wl_move rfl rfl (by decide) ?_
              refine wl_move rfl rfl (by decide) ?_
              refine wl_ar rfl rfl rfl ((((lr.getD ((j + k21) - 1) 0) + ((lr.getD (j + k21) 0) * 4294967296)) / ((l13.getD (k21 - 1) 0) + 1) : Nat) : Int) (au_quo (a := (lr.getD ((j + k21) - 1) 0) + ((lr.getD (j + k21) 0) * 4294967296)) (b := (l13.getD (k21 - 1) 0) + 1) rfl rfl (by omega) (by omega)) (by decide) ?_
              refine wl_assign rfl rfl (by decide) ?_
              refine wl_nil ?_
              refine eo_then ?_
              refine cw_seq ?_
              refine cw_seq ?_
              refine cw_region ?_
              refine wl_move rfl rfl (by decide) ?_
              refine wl_cmp rfl rfl rfl true (cb_eq_t (a := ((lr.getD ((j + k21) - 1) 0) + ((lr.getD (j + k21) 0) * 4294967296)) / ((l13.getD (k21 - 1) 0) + 1)) (b := 0) rfl rfl (by omega)) (by decide) ?_
              refine wl_nil ?_
              refine eo_then ?_
              refine cw_true rfl ?_
              refine cw_seq ?_
              refine cw_region ?_
              refine wl_move rfl rfl (by decide) ?_
              refine wl_move rfl rfl (by decide) ?_
              refine wl_move rfl rfl (by decide) ?_
              refine wl_call rfl rfl (vs := [.slice (some ⟨g6, 0, none⟩) (n + 1) (n + 1), .slice (some ⟨g13, 0, none⟩) k21 (m + 1), .int .i64 ((j : Nat) : Int)]) (by kernel_rfl) (by decide) (ref3_goes' (b := true) (hbr.rd0 hwr.wf hlr (by omega)) (by omega) ((hbd.rd0 hwf13.wf hl13 (by omega)).take (k := k21) (by omega) (by omega) (Nat.le_refl _)) hwr (Wfb_take hwf13 _) (by omega) (dv_big hI rfl hwf13 hvd) (by rw [hvd, decide_eq_true hgo])) ?_
              rintro _ v33 ⟨xr35, rfl, r35, e34⟩
              refine ret_intro ?_
              have hw2 : Ext w v33 := hw1.trans e34
              obtain rfl := r35
              refine wl_assign rfl rfl (by decide) ?_
              refine wl_nil ?_
              refine eo_then ?_
              refine cw_seq ?_
              refine cw_seq ?_
              refine cw_region ?_
              refine wl_move rfl rfl (by decide) ?_
              refine wl_pure rfl rfl (v := .bool false) (by decide) (by kernel_rfl) ?_
              refine wl_nil ?_
              refine eo_then ?_
              refine cw_false rfl ?_
              refine cw_skip ?_
              refine eo_then ?_
              refine cw_region ?_
              refine wl_assign rfl rfl (by decide) ?_
              refine wl_nil ?_
              refine eo_then ?_
              refine cw_seq ?_
              refine cw_region ?_
              refine wl_move rfl rfl (by decide) ?_
              refine wl_move rfl rfl (by decide) ?_
              refine wl_move rfl rfl (by decide) ?_
              refine wl_move rfl rfl (by decide) ?_
              have hqlt := dv_lt hgo1 hRlt
              refine wl_call rfl rfl (vs := [.slice (some ⟨g6, 0, none⟩) (n + 1) (n + 1), .slice (some ⟨g13, 0, none⟩) k21 (m + 1), .int .u64 1, .int .i64 ((j : Nat) : Int)]) (by kernel_rfl) (by decide) (ref3_takeOff (q := 1) (s := j) (hbr.ext e34) hlr (by omega) hwr (((hbd.ext e34).rd0 hwf13.wf hl13 (by omega)).take (k := k21) (by omega) (by omega) (Nat.le_refl _)) (Wfb_take hwf13 _) (fun _ a ha => by cases ha; show g13 ≠ g6; omega) hqlt (by omega) (by rw [hvd]; exact hgo1)) ?_
              rintro _ v36 ⟨rfl, u37, l3, hb38, hl39, hwl3, hv3⟩
              rw [hvd] at hv3
              refine ret_intro ?_
              have hdg := hI.digit hv3
              have hw3 : Ext w v36 := u37.ext hw2 ge7
              refine wl_nil ?_
              refine eo_then ?_
              refine cw_region ?_
              refine wl_move rfl rfl (by decide) ?_
              refine wl_move rfl rfl (by decide) ?_
              refine wl_move rfl rfl (by decide) ?_
              refine wl_move rfl rfl (by decide) ?_
              refine wl_idx rfl rfl rfl un_u64 sz_u64 j rfl (by omega) ⟨g22, j, none⟩ (arr_at _ _) (by decide) ?_
              refine wl_load rfl rfl (load_word ag_u64 ((hbq.ext e34).updN u37 (by omega)) (by rw [hlq]; omega)) (by decide) ?_
              refine wl_move rfl rfl (by decide) ?_
              refine wl_ar rfl rfl rfl (((lq.getD j 0) + 1 : Nat) : Int) (au_add (a := lq.getD j 0) (b := 1) rfl rfl (by omega)) (by decide) ?_
              refine wl_idx rfl rfl rfl un_u64 sz_u64 j rfl (by omega) ⟨g22, j, none⟩ (arr_at _ _) (by decide) ?_
              have hb41 := ((hbq.ext e34).updN u37 (by omega))
              refine wl_stored1 rfl rfl rfl sz_u64 rfl hb41 (len_map (by rw [hlq]; omega)) rfl ((lq.set j ((lq.getD j 0) + 1)).map W64) (map_W64_set _ _ _) fun v40 hb42 u43 hs44 => ?_
              have hw4 : Ext w v40 := u43.ext hw3 ge27
              refine wl_nil ?_
              refine eo_block_normal ?_
              refine eo_round (⟨v40, _, _⟩ : World × List Nat × List Nat) ⟨hw4, (hb38.updN u43 (by omega)), hl39, (((hbd.ext e34).updN u37 (by omega)).updN u43 (by omega)), hb42, (len_set (l := lq) (hlq)), hI.step (by omega) hwl3 hv3⟩ (dv_less (Nat.le_refl 1) hDp hv3) rfl ⟨rfl, rfl, rfl, rfl, rfl, rfl, trivial⟩
            ·
              refine cw_region ?_
              refine wl_move rfl rfl (by decide) ?_
              refine wl_move rfl rfl (by decide) ?_
              refine wl_ar rfl rfl rfl ((((lr.getD ((j + k21) - 1) 0) + ((lr.getD (j + k21) 0) * 4294967296)) / ((l13.getD (k21 - 1) 0) + 1) : Nat) : Int) (au_quo (a := (lr.getD ((j + k21) - 1) 0) + ((lr.getD (j + k21) 0) * 4294967296)) (b := (l13.getD (k21 - 1) 0) + 1) rfl rfl (by omega) (by omega)) (by decide) ?_
              refine wl_assign rfl rfl (by decide) ?_
              refine wl_nil ?_
              refine eo_then ?_
              refine cw_seq ?_
              refine cw_seq ?_
              refine cw_region ?_
              refine wl_move rfl rfl (by decide) ?_
              refine wl_cmp rfl rfl rfl true (cb_eq_t (a := ((lr.getD ((j + k21) - 1) 0) + ((lr.getD (j + k21) 0) * 4294967296)) / ((l13.getD (k21 - 1) 0) + 1)) (b := 0) rfl rfl (by omega)) (by decide) ?_
              refine wl_nil ?_
              refine eo_then ?_
              refine cw_true rfl ?_
              refine cw_seq ?_
              refine cw_region ?_
              refine wl_move rfl rfl (by decide) ?_
              refine wl_move rfl rfl (by decide) ?_
              refine wl_move rfl rfl (by decide) ?_
              refine wl_call rfl rfl (vs := [.slice (some ⟨g6, 0, none⟩) (n + 1) (n + 1), .slice (some ⟨g13, 0, none⟩) k21 (m + 1), .int .i64 ((j : Nat) : Int)]) (by kernel_rfl) (by decide) (ref3_goes' (b := false) (hbr.rd0 hwr.wf hlr (by omega)) (by omega) ((hbd.rd0 hwf13.wf hl13 (by omega)).take (k := k21) (by omega) (by omega) (Nat.le_refl _)) hwr (Wfb_take hwf13 _) (by omega) (dv_big hI rfl hwf13 hvd) (by rw [hvd, decide_eq_false hgo])) ?_
              rintro _ v45 ⟨xr47, rfl, r47, e46⟩
              refine ret_intro ?_
              have hw2 : Ext w v45 := hw1.trans e46
              obtain rfl := r47
              refine wl_assign rfl rfl (by decide) ?_
              refine wl_nil ?_
              refine eo_then ?_
              refine cw_seq ?_
              refine cw_seq ?_
              refine cw_region ?_
              refine wl_move rfl rfl (by decide) ?_
              refine wl_pure rfl rfl (v := .bool true) (by decide) (by kernel_rfl) ?_
              refine wl_nil ?_
              refine eo_then ?_
              refine cw_true rfl ?_
              refine cw_exit ?_
              refine eo_thenX ?_
              refine eo_thenX ?_
              refine eo_block_far (by decide) ?_
              refine eo_loopX ?_
              refine eo_block_here ?_
              refine eo_block_normal ?_
              refine eo_then ?_
              refine cw_region ?_
              refine wl_move rfl rfl (by decide) ?_
              refine wl_ar rfl rfl rfl (((j : Nat) : Int) - 1) (ar_i64s rfl (by omega) (by omega)) (by decide) ?_
              refine wl_assign rfl rfl (by decide) ?_
              refine wl_nil ?_
              refine eo_round (⟨v45, j, _, _, _⟩ : World × Nat × Int × List Nat × List Nat) ⟨hw2, (by omega), (by omega), (hbr.ext e46), hlr, (hbd.ext e46), (hbq.ext e46), hlq, hI.leave hgo⟩ (show j < j + 1 by omega) rfl ⟨rfl, rfl, rfl, rfl, rfl, rfl, trivial⟩
          ·
            refine cw_region ?_
            refine wl_move rfl rfl (by decide) ?_
            refine wl_move rfl rfl (by decide) ?_
            refine wl_ar rfl rfl rfl ((((lr.getD ((j + k21) - 1) 0) + ((lr.getD (j + k21) 0) * 4294967296)) / ((l13.getD (k21 - 1) 0) + 1) : Nat) : Int) (au_quo (a := (lr.getD ((j + k21) - 1) 0) + ((lr.getD (j + k21) 0) * 4294967296)) (b := (l13.getD (k21 - 1) 0) + 1) rfl rfl (by omega) (by omega)) (by decide) ?_
            refine wl_assign rfl rfl (by decide) ?_
            refine wl_nil ?_
            refine eo_then ?_
            refine cw_seq ?_
            refine cw_seq ?_
            refine cw_region ?_
            refine wl_move rfl rfl (by decide) ?_
            refine wl_cmp rfl rfl rfl false (cb_eq_f (a := ((lr.getD ((j + k21) - 1) 0) + ((lr.getD (j + k21) 0) * 4294967296)) / ((l13.getD (k21 - 1) 0) + 1)) (b := 0) rfl rfl (by omega)) (by decide) ?_
            refine wl_nil ?_
            refine eo_then ?_
            refine cw_false rfl ?_
            refine cw_skip ?_
            refine eo_then ?_
            refine cw_seq ?_
            refine cw_region ?_
            refine wl_move rfl rfl (by decide) ?_
            refine wl_move rfl rfl (by decide) ?_
            refine wl_move rfl rfl (by decide) ?_
            refine wl_move rfl rfl (by decide) ?_
            have hqlt := dv_lt hfit hRlt
            refine wl_call rfl rfl (vs := [.slice (some ⟨g6, 0, none⟩) (n + 1) (n + 1), .slice (some ⟨g13, 0, none⟩) k21 (m + 1), .int .u64 ((((lr.getD ((j + k21) - 1) 0) + ((lr.getD (j + k21) 0) * 4294967296)) / ((l13.getD (k21 - 1) 0) + 1) : Nat) : Int), .int .i64 ((j : Nat) : Int)]) (by kernel_rfl) (by decide) (ref3_takeOff (q := ((lr.getD ((j + k21) - 1) 0) + ((lr.getD (j + k21) 0) * 4294967296)) / ((l13.getD (k21 - 1) 0) + 1)) (s := j) hbr hlr (by omega) hwr ((hbd.rd0 hwf13.wf hl13 (by omega)).take (k := k21) (by omega) (by omega) (Nat.le_refl _)) (Wfb_take hwf13 _) (fun _ a ha => by cases ha; show g13 ≠ g6; omega) hqlt (by omega) (by rw [hvd]; exact hfit)) ?_
            rintro _ v48 ⟨rfl, u49, l3, hb50, hl51, hwl3, hv3⟩
            rw [hvd] at hv3
            refine ret_intro ?_
            have hdg := hI.digit hv3
            have hw2 : Ext w v48 := u49.ext hw1 ge7
            refine wl_nil ?_
            refine eo_then ?_
            refine cw_region ?_
            refine wl_move rfl rfl (by decide) ?_
            refine wl_move rfl rfl (by decide) ?_
            refine wl_move rfl rfl (by decide) ?_
            refine wl_move rfl rfl (by decide) ?_
            refine wl_idx rfl rfl rfl un_u64 sz_u64 j rfl (by omega) ⟨g22, j, none⟩ (arr_at _ _) (by decide) ?_
            refine wl_load rfl rfl (load_word ag_u64 (hbq.updN u49 (by omega)) (by rw [hlq]; omega)) (by decide) ?_
            refine wl_move rfl rfl (by decide) ?_
            refine wl_ar rfl rfl rfl (((lq.getD j 0) + (((lr.getD ((j + k21) - 1) 0) + ((lr.getD (j + k21) 0) * 4294967296)) / ((l13.getD (k21 - 1) 0) + 1)) : Nat) : Int) (au_add (a := lq.getD j 0) (b := ((lr.getD ((j + k21) - 1) 0) + ((lr.getD (j + k21) 0) * 4294967296)) / ((l13.getD (k21 - 1) 0) + 1)) rfl rfl (by omega)) (by decide) ?_
            refine wl_idx rfl rfl rfl un_u64 sz_u64 j rfl (by omega) ⟨g22, j, none⟩ (arr_at _ _) (by decide) ?_
            have hb53 := (hbq.updN u49 (by omega))
            refine wl_stored1 rfl rfl rfl sz_u64 rfl hb53 (len_map (by rw [hlq]; omega)) rfl ((lq.set j ((lq.getD j 0) + (((lr.getD ((j + k21) - 1) 0) + ((lr.getD (j + k21) 0) * 4294967296)) / ((l13.getD (k21 - 1) 0) + 1)))).map W64) (map_W64_set _ _ _) fun v52 hb54 u55 hs56 => ?_
            have hw3 : Ext w v52 := u55.ext hw2 ge27
            refine wl_nil ?_
            refine eo_block_normal ?_
            refine eo_round (⟨v52, _, _⟩ : World × List Nat × List Nat) ⟨hw3, (hb50.updN u55 (by omega)), hl51, ((hbd.updN u49 (by omega)).updN u55 (by omega)), hb54, (len_set (l := lq) (hlq)), hI.step (by omega) hwl3 hv3⟩ (dv_less (Nat.pos_of_ne_zero hn0) hDp hv3) rfl ⟨rfl, rfl, rfl, rfl, rfl, rfl, trivial⟩
        ·
          have hT := nb_digit_le (b := 4294967296) (l := lr) (i := (j + k21) - 1) (by omega)
          refine cw_region ?_
          refine wl_move rfl rfl (by decide) ?_
          refine wl_move rfl rfl (by decide) ?_
          refine wl_move rfl rfl (by decide) ?_
          refine wl_pure rfl rfl (v := .int .i64 ((k21 : Nat) : Int)) (by decide) (by kernel_rfl) ?_
          refine wl_ar rfl rfl rfl ((j + k21 : Nat) : Int) (ai_add (a := j) (b := k21) rfl rfl (by omega)) (by decide) ?_
          refine wl_ar rfl rfl rfl (((j + k21) - 1 : Nat) : Int) (ai_sub (a := j + k21) (b := 1) rfl rfl (by omega) (by omega)) (by decide) ?_
          refine wl_idx rfl rfl rfl un_u64 sz_u64 ((j + k21) - 1) rfl (by omega) ⟨g6, (j + k21) - 1, none⟩ (arr_at _ _) (by decide) ?_
          refine wl_load rfl rfl (load_word ag_u64 hbr (by rw [hlr]; omega)) (by decide) ?_
          refine wl_assign rfl rfl (by decide) ?_
          refine wl_nil ?_
          refine eo_then ?_
          refine cw_seq ?_
          refine cw_seq ?_
          refine cw_region ?_
          refine wl_move rfl rfl (by decide) ?_
          refine wl_move rfl rfl (by decide) ?_
          refine wl_pure rfl rfl (v := .int .i64 ((k21 : Nat) : Int)) (by decide) (by kernel_rfl) ?_
          refine wl_ar rfl rfl rfl ((j + k21 : Nat) : Int) (ai_add (a := j) (b := k21) rfl rfl (by omega)) (by decide) ?_
          refine wl_move rfl rfl (by decide) ?_
          refine wl_pure rfl rfl (v := .int .i64 (((n + 1) : Nat) : Int)) (by decide) (by kernel_rfl) ?_
          refine wl_cmp rfl rfl rfl false (cb_lt_f (a := j + k21) (b := n + 1) rfl rfl (by omega)) (by decide) ?_
          refine wl_nil ?_
          refine eo_then ?_
          refine cw_false rfl ?_
          refine cw_skip ?_
          refine eo_then ?_
          refine cw_seq ?_
          have hfit := dv_fit hhd hkp hT
          have hRlt : nb 4294967296 lr < nb 4294967296 l13 * 4294967296 ^ (j + 1) := Nat.lt_of_le_of_lt (Nat.le_add_left _ _) hI.lt
          by_cases hn0 : (lr.getD ((j + k21) - 1) 0) / ((l13.getD (k21 - 1) 0) + 1) = 0
          ·
            by_cases hgo : nb 4294967296 l13 * 4294967296 ^ j ≤ nb 4294967296 lr
            ·
              have hgo1 : 1 * nb 4294967296 l13 * 4294967296 ^ j ≤ nb 4294967296 lr := by rw [Nat.one_mul]; exact hgo
              refine cw_region ?_
              refine wl_move rfl rfl (by decide) ?_
              refine wl_move rfl rfl (by decide) ?_
              refine wl_ar rfl rfl rfl (((lr.getD ((j + k21) - 1) 0) / ((l13.getD (k21 - 1) 0) + 1) : Nat) : Int) (au_quo (a := lr.getD ((j + k21) - 1) 0) (b := (l13.getD (k21 - 1) 0) + 1) rfl rfl (by omega) (by omega)) (by decide) ?_
              refine wl_assign rfl rfl (by decide) ?_
              refine wl_nil ?_
              refine eo_then ?_
              refine cw_seq ?_
              refine cw_seq ?_
              refine cw_region ?_
              refine wl_move rfl rfl (by decide) ?_
              refine wl_cmp rfl rfl rfl true (cb_eq_t (a := (lr.getD ((j + k21) - 1) 0) / ((l13.getD (k21 - 1) 0) + 1)) (b := 0) rfl rfl (by omega)) (by decide) ?_
              refine wl_nil ?_
              refine eo_then ?_
              refine cw_true rfl ?_
              refine cw_seq ?_
              refine cw_region ?_
              refine wl_move rfl rfl (by decide) ?_
              refine wl_move rfl rfl (by decide) ?_
              refine wl_move rfl rfl (by decide) ?_
              refine wl_call rfl rfl (vs := [.slice (some ⟨g6, 0, none⟩) (n + 1) (n + 1), .slice (some ⟨g13, 0, none⟩) k21 (m + 1), .int .i64 ((j : Nat) : Int)]) (by kernel_rfl) (by decide) (ref3_goes' (b := true) (hbr.rd0 hwr.wf hlr (by omega)) (by omega) ((hbd.rd0 hwf13.wf hl13 (by omega)).take (k := k21) (by omega) (by omega) (Nat.le_refl _)) hwr (Wfb_take hwf13 _) (by omega) (dv_big hI rfl hwf13 hvd) (by rw [hvd, decide_eq_true hgo])) ?_
              rintro _ v57 ⟨xr59, rfl, r59, e58⟩
              refine ret_intro ?_
              have hw2 : Ext w v57 := hw1.trans e58
              obtain rfl := r59
              refine wl_assign rfl rfl (by decide) ?_
              refine wl_nil ?_
              refine eo_then ?_
              refine cw_seq ?_
              refine cw_seq ?_
              refine cw_region ?_
              refine wl_move rfl rfl (by decide) ?_
              refine wl_pure rfl rfl (v := .bool false) (by decide) (by kernel_rfl) ?_
              refine wl_nil ?_
              refine eo_then ?_
              refine cw_false rfl ?_
              refine cw_skip ?_
              refine eo_then ?_
              refine cw_region ?_
              refine wl_assign rfl rfl (by decide) ?_
              refine wl_nil ?_
              refine eo_then ?_
              refine cw_seq ?_
              refine cw_region ?_
              refine wl_move rfl rfl (by decide) ?_
              refine wl_move rfl rfl (by decide) ?_
              refine wl_move rfl rfl (by decide) ?_
              refine wl_move rfl rfl (by decide) ?_
              have hqlt := dv_lt hgo1 hRlt
              refine wl_call rfl rfl (vs := [.slice (some ⟨g6, 0, none⟩) (n + 1) (n + 1), .slice (some ⟨g13, 0, none⟩) k21 (m + 1), .int .u64 1, .int .i64 ((j : Nat) : Int)]) (by kernel_rfl) (by decide) (ref3_takeOff (q := 1) (s := j) (hbr.ext e58) hlr (by omega) hwr (((hbd.ext e58).rd0 hwf13.wf hl13 (by omega)).take (k := k21) (by omega) (by omega) (Nat.le_refl _)) (Wfb_take hwf13 _) (fun _ a ha => by cases ha; show g13 ≠ g6; omega) hqlt (by omega) (by rw [hvd]; exact hgo1)) ?_
              rintro _ v60 ⟨rfl, u61, l3, hb62, hl63, hwl3, hv3⟩
              rw [hvd] at hv3
              refine ret_intro ?_
              have hdg := hI.digit hv3
              have hw3 : Ext w v60 := u61.ext hw2 ge7
              refine wl_nil ?_
              refine eo_then ?_
              refine cw_region ?_
              refine wl_move rfl rfl (by decide) ?_
              refine wl_move rfl rfl (by decide) ?_
              refine wl_move rfl rfl (by decide) ?_
              refine wl_move rfl rfl (by decide) ?_
              refine wl_idx rfl rfl rfl un_u64 sz_u64 j rfl (by omega) ⟨g22, j, none⟩ (arr_at _ _) (by decide) ?_
              refine wl_load rfl rfl (load_word ag_u64 ((hbq.ext e58).updN u61 (by omega)) (by rw [hlq]; omega)) (by decide) ?_
              refine wl_move rfl rfl (by decide) ?_
              refine wl_ar rfl rfl rfl (((lq.getD j 0) + 1 : Nat) : Int) (au_add (a := lq.getD j 0) (b := 1) rfl rfl (by omega)) (by decide) ?_
              refine wl_idx rfl rfl rfl un_u64 sz_u64 j rfl (by omega) ⟨g22, j, none⟩ (arr_at _ _) (by decide) ?_
              have hb65 := ((hbq.ext e58).updN u61 (by omega))
              refine wl_stored1 rfl rfl rfl sz_u64 rfl hb65 (len_map (by rw [hlq]; omega)) rfl ((lq.set j ((lq.getD j 0) + 1)).map W64) (map_W64_set _ _ _) fun v64 hb66 u67 hs68 => ?_
              have hw4 : Ext w v64 := u67.ext hw3 ge27
              refine wl_nil ?_
              refine eo_block_normal ?_
              refine eo_round (⟨v64, _, _⟩ : World × List Nat × List Nat) ⟨hw4, (hb62.updN u67 (by omega)), hl63, (((hbd.ext e58).updN u61 (by omega)).updN u67 (by omega)), hb66, (len_set (l := lq) (hlq)), hI.step (by omega) hwl3 hv3⟩ (dv_less (Nat.le_refl 1) hDp hv3) rfl ⟨rfl, rfl, rfl, rfl, rfl, rfl, trivial⟩
            ·
              refine cw_region ?_
              refine wl_move rfl rfl (by decide) ?_
              refine wl_move rfl rfl (by decide) ?_
              refine wl_ar rfl rfl rfl (((lr.getD ((j + k21) - 1) 0) / ((l13.getD (k21 - 1) 0) + 1) : Nat) : Int) (au_quo (a := lr.getD ((j + k21) - 1) 0) (b := (l13.getD (k21 - 1) 0) + 1) rfl rfl (by omega) (by omega)) (by decide) ?_
              refine wl_assign rfl rfl (by decide) ?_
              refine wl_nil ?_
              refine eo_then ?_
              refine cw_seq ?_
              refine cw_seq ?_
              refine cw_region ?_
              refine wl_move rfl rfl (by decide) ?_
              refine wl_cmp rfl rfl rfl true (cb_eq_t (a := (lr.getD ((j + k21) - 1) 0) / ((l13.getD (k21 - 1) 0) + 1)) (b := 0) rfl rfl (by omega)) (by decide) ?_
              refine wl_nil ?_
              refine eo_then ?_
              refine cw_true rfl ?_
              refine cw_seq ?_
              refine cw_region ?_
              refine wl_move rfl rfl (by decide) ?_
              refine wl_move rfl rfl (by decide) ?_
              refine wl_move rfl rfl (by decide) ?_
              refine wl_call rfl rfl (vs := [.slice (some ⟨g6, 0, none⟩) (n + 1) (n + 1), .slice (some ⟨g13, 0, none⟩) k21 (m + 1), .int .i64 ((j : Nat) : Int)]) (by kernel_rfl) (by decide) (ref3_goes' (b := false) (hbr.rd0 hwr.wf hlr (by omega)) (by omega) ((hbd.rd0 hwf13.wf hl13 (by omega)).take (k := k21) (by omega) (by omega) (Nat.le_refl _)) hwr (Wfb_take hwf13 _) (by omega) (dv_big hI rfl hwf13 hvd) (by rw [hvd, decide_eq_false hgo])) ?_
              rintro _ v69 ⟨xr71, rfl, r71, e70⟩
              refine ret_intro ?_
              have hw2 : Ext w v69 := hw1.trans e70
              obtain rfl := r71
              refine wl_assign rfl rfl (by decide) ?_
              refine wl_nil ?_
              refine eo_then ?_
              refine cw_seq ?_
              refine cw_seq ?_
              refine cw_region ?_
              refine wl_move rfl rfl (by decide) ?_
              refine wl_pure rfl rfl (v := .bool true) (by decide) (by kernel_rfl) ?_
              refine wl_nil ?_
              refine eo_then ?_
              refine cw_true rfl ?_
              refine cw_exit ?_
              refine eo_thenX ?_
              refine eo_thenX ?_
              refine eo_block_far (by decide) ?_
              refine eo_loopX ?_
              refine eo_block_here ?_
              refine eo_block_normal ?_
              refine eo_then ?_
              refine cw_region ?_
              refine wl_move rfl rfl (by decide) ?_
              refine wl_ar rfl rfl rfl (((j : Nat) : Int) - 1) (ar_i64s rfl (by omega) (by omega)) (by decide) ?_
              refine wl_assign rfl rfl (by decide) ?_
              refine wl_nil ?_
              refine eo_round (⟨v69, j, _, _, _⟩ : World × Nat × Int × List Nat × List Nat) ⟨hw2, (by omega), (by omega), (hbr.ext e70), hlr, (hbd.ext e70), (hbq.ext e70), hlq, hI.leave hgo⟩ (show j < j + 1 by omega) rfl ⟨rfl, rfl, rfl, rfl, rfl, rfl, trivial⟩
          ·
            refine cw_region ?_
            refine wl_move rfl rfl (by decide) ?_
            refine wl_move rfl rfl (by decide) ?_
            refine wl_ar rfl rfl rfl (((lr.getD ((j + k21) - 1) 0) / ((l13.getD (k21 - 1) 0) + 1) : Nat) : Int) (au_quo (a := lr.getD ((j + k21) - 1) 0) (b := (l13.getD (k21 - 1) 0) + 1) rfl rfl (by omega) (by omega)) (by decide) ?_
            refine wl_assign rfl rfl (by decide) ?_
            refine wl_nil ?_
            refine eo_then ?_
            refine cw_seq ?_
            refine cw_seq ?_
            refine cw_region ?_
            refine wl_move rfl rfl (by decide) ?_
            refine wl_cmp rfl rfl rfl false (cb_eq_f (a := (lr.getD ((j + k21) - 1) 0) / ((l13.getD (k21 - 1) 0) + 1)) (b := 0) rfl rfl (by omega)) (by decide) ?_
            refine wl_nil ?_
            refine eo_then ?_
            refine cw_false rfl ?_
            refine cw_skip ?_
            refine eo_then ?_
            refine cw_seq ?_
            refine cw_region ?_
            refine wl_move rfl rfl (by decide) ?_
            refine wl_move rfl rfl (by decide) ?_
            refine wl_move rfl rfl (by decide) ?_
            refine wl_move rfl rfl (by decide) ?_
            have hqlt := dv_lt hfit hRlt
            refine wl_call rfl rfl (vs := [.slice (some ⟨g6, 0, none⟩) (n + 1) (n + 1), .slice (some ⟨g13, 0, none⟩) k21 (m + 1), .int .u64 (((lr.getD ((j + k21) - 1) 0) / ((l13.getD (k21 - 1) 0) + 1) : Nat) : Int), .int .i64 ((j : Nat) : Int)]) (by kernel_rfl) (by decide) (ref3_takeOff (q := (lr.getD ((j + k21) - 1) 0) / ((l13.getD (k21 - 1) 0) + 1)) (s := j) hbr hlr (by omega) hwr ((hbd.rd0 hwf13.wf hl13 (by omega)).take (k := k21) (by omega) (by omega) (Nat.le_refl _)) (Wfb_take hwf13 _) (fun _ a ha => by cases ha; show g13 ≠ g6; omega) hqlt (by omega) (by rw [hvd]; exact hfit)) ?_
            rintro _ v72 ⟨rfl, u73, l3, hb74, hl75, hwl3, hv3⟩
            rw [hvd] at hv3
            refine ret_intro ?_
            have hdg := hI.digit hv3
            have hw2 : Ext w v72 := u73.ext hw1 ge7
            refine wl_nil ?_
            refine eo_then ?_
            refine cw_region ?_
            refine wl_move rfl rfl (by decide) ?_
            refine wl_move rfl rfl (by decide) ?_
            refine wl_move rfl rfl (by decide) ?_
            refine wl_move rfl rfl (by decide) ?_
            refine wl_idx rfl rfl rfl un_u64 sz_u64 j rfl (by omega) ⟨g22, j, none⟩ (arr_at _ _) (by decide) ?_
            refine wl_load rfl rfl (load_word ag_u64 (hbq.updN u73 (by omega)) (by rw [hlq]; omega)) (by decide) ?_
            refine wl_move rfl rfl (by decide) ?_
            refine wl_ar rfl rfl rfl (((lq.getD j 0) + ((lr.getD ((j + k21) - 1) 0) / ((l13.getD (k21 - 1) 0) + 1)) : Nat) : Int) (au_add (a := lq.getD j 0) (b := (lr.getD ((j + k21) - 1) 0) / ((l13.getD (k21 - 1) 0) + 1)) rfl rfl (by omega)) (by decide) ?_
            refine wl_idx rfl rfl rfl un_u64 sz_u64 j rfl (by omega) ⟨g22, j, none⟩ (arr_at _ _) (by decide) ?_
            have hb77 := (hbq.updN u73 (by omega))
            refine wl_stored1 rfl rfl rfl sz_u64 rfl hb77 (len_map (by rw [hlq]; omega)) rfl ((lq.set j ((lq.getD j 0) + ((lr.getD ((j + k21) - 1) 0) / ((l13.getD (k21 - 1) 0) + 1)))).map W64) (map_W64_set _ _ _) fun v76 hb78 u79 hs80 => ?_
            have hw3 : Ext w v76 := u79.ext hw2 ge27
            refine wl_nil ?_
            refine eo_block_normal ?_
            refine eo_round (⟨v76, _, _⟩ : World × List Nat × List Nat) ⟨hw3, (hb74.updN u79 (by omega)), hl75, ((hbd.updN u73 (by omega)).updN u79 (by omega)), hb78, (len_set (l := lq) (hlq)), hI.step (by omega) hwl3 hv3⟩ (dv_less (Nat.pos_of_ne_zero hn0) hDp hv3) rfl ⟨rfl, rfl, rfl, rfl, rfl, rfl, trivial⟩
      ·
        obtain rfl : k = 0 := by omega
        refine cw_region ?_
        refine wl_move rfl rfl (by decide) ?_
        refine wl_cmp rfl rfl rfl false (ge_f (by omega)) (by decide) ?_
        refine wl_nil ?_
        refine eo_then ?_
        refine cw_false rfl ?_
        refine cw_exit ?_
        refine eo_thenX ?_
        refine eo_loopX ?_
        refine eo_block_here ?_
        refine eo_then ?_
        refine cw_seq ?_
        refine cw_region ?_
        refine wl_assign rfl rfl (by decide) ?_
        refine wl_nil ?_
        refine eo_then ?_
        refine cw_seq ?_
        refine cw_seq ?_
        refine cw_region ?_
        refine wl_move rfl rfl (by decide) ?_
        refine wl_pure rfl rfl (v := .int .i64 (((n + 1) : Nat) : Int)) (by decide) (by kernel_rfl) ?_
        refine wl_ar rfl rfl rfl (((n + 1) - 1 : Nat) : Int) (ai_sub (a := n + 1) (b := 1) rfl rfl (by omega) (by omega)) (by decide) ?_
        refine wl_assign rfl rfl (by decide) ?_
        refine wl_nil ?_
        refine eo_then ?_
        refine cw_block ?_
        refine cw_loop (T := World × Nat × Int × Nat × List Nat)
          (fun ⟨wr, k, ii, rest, l⟩ => [(6, .int .u64 ((f : Nat) : Int)), (7, .slice (some ⟨g6, 0, none⟩) (n + 1) (n + 1)), (9, .slice (some ⟨g22, 0, none⟩) ((n - m) + 1) ((n - m) + 1)), (15, .int .u64 ((rest : Nat) : Int)), (16, .int .i64 ii)])
          (fun ⟨wr, k, ii, rest, l⟩ => wr)
          (fun ⟨wr, k, ii, rest, l⟩ => (Ext w wr) ∧ (k ≤ n + 1) ∧ (ii = (k : Int) - 1) ∧ (Bk wr g6 23 (l.map W64)) ∧ (Bk wr g22 23 (lq.map W64)) ∧ (DF f lr k rest l))
          (fun ⟨wr, k, ii, rest, l⟩ => k)
          (⟨wr, n + 1, _, 0, lr⟩ : World × Nat × Int × Nat × List Nat) ⟨hw1, Nat.le_refl _, (by omega), hbr, hbq, DF.start hO.wr hf1 hlr⟩ rfl ⟨rfl, rfl, rfl, rfl, rfl, trivial⟩ ?_
        rintro ⟨wr, k, ii, rest, l⟩ ⟨hw1, hk, hii, hbr, hbq, hF⟩
        refine cw_re [(6, .int .u64 ((f : Nat) : Int)), (7, .slice (some ⟨g6, 0, none⟩) (n + 1) (n + 1)), (9, .slice (some ⟨g22, 0, none⟩) ((n - m) + 1) ((n - m) + 1)), (15, .int .u64 ((rest : Nat) : Int)), (16, .int .i64 ii)] wr rfl ⟨rfl, rfl, rfl, rfl, rfl, trivial⟩ ?_
        have hll := hF.len
        rw [hlr] at hll
        refine cw_seq ?_
        refine cw_seq ?_
        by_cases hk0 : 0 < k
        ·
          obtain ⟨j, rfl⟩ : ∃ j, k = j + 1 := ⟨k - 1, by omega⟩
          obtain rfl : ii = (j : Int) := by omega
          refine cw_region ?_
          refine wl_move rfl rfl (by decide) ?_
          refine wl_cmp rfl rfl rfl true (cb_ge_t (a := j) (b := 0) rfl rfl (by omega)) (by decide) ?_
          refine wl_nil ?_
          refine eo_then ?_
          refine cw_true rfl ?_
          refine cw_skip ?_
          refine eo_then ?_
          refine cw_seq ?_
          refine cw_block ?_
          refine cw_seq ?_
          have hdig := hF.digit
          have hb1 := Wfb_getD (b := 4294967296) (by decide) hF.wf j
          have hrf := hF.rf
          refine cw_region ?_
          refine wl_move rfl rfl (by decide) ?_
          refine wl_ar rfl rfl rfl ((rest * 4294967296 : Nat) : Int) (au_mul (a := rest) (b := 4294967296) rfl rfl (by omega)) (by decide) ?_
          refine wl_move rfl rfl (by decide) ?_
          refine wl_move rfl rfl (by decide) ?_
          refine wl_idx rfl rfl rfl un_u64 sz_u64 j rfl (by omega) ⟨g6, j, none⟩ (arr_at _ _) (by decide) ?_
          refine wl_load rfl rfl (load_word ag_u64 hbr (by rw [hll]; omega)) (by decide) ?_
          refine wl_ar rfl rfl rfl (((rest * 4294967296) + (l.getD j 0) : Nat) : Int) (au_add (a := rest * 4294967296) (b := l.getD j 0) rfl rfl (by omega)) (by decide) ?_
          refine wl_assign rfl rfl (by decide) ?_
          refine wl_nil ?_
          refine eo_then ?_
          refine cw_seq ?_
          refine cw_region ?_
          refine wl_move rfl rfl (by decide) ?_
          refine wl_move rfl rfl (by decide) ?_
          refine wl_move rfl rfl (by decide) ?_
          refine wl_move rfl rfl (by decide) ?_
          refine wl_ar rfl rfl rfl ((((rest * 4294967296) + (l.getD j 0)) / f : Nat) : Int) (au_quo (a := (rest * 4294967296) + (l.getD j 0)) (b := f) rfl rfl (by omega) (by omega)) (by decide) ?_
          refine wl_idx rfl rfl rfl un_u64 sz_u64 j rfl (by omega) ⟨g6, j, none⟩ (arr_at _ _) (by decide) ?_
          have hb82 := hbr
          refine wl_stored1 rfl rfl rfl sz_u64 rfl hb82 (len_map (by rw [hll]; omega)) rfl ((l.set j (((rest * 4294967296) + (l.getD j 0)) / f)).map W64) (map_W64_set _ _ _) fun v81 hb83 u84 hs85 => ?_
          have hw2 : Ext w v81 := u84.ext hw1 ge7
          refine wl_nil ?_
          refine eo_then ?_
          refine cw_region ?_
          refine wl_move rfl rfl (by decide) ?_
          refine wl_move rfl rfl (by decide) ?_
          refine wl_ar rfl rfl rfl ((((rest * 4294967296) + (l.getD j 0)) % f : Nat) : Int) (au_rem (a := (rest * 4294967296) + (l.getD j 0)) (b := f) rfl rfl (by omega)) (by decide) ?_
          refine wl_assign rfl rfl (by decide) ?_
          refine wl_nil ?_
          refine eo_block_normal ?_
          refine eo_then ?_
          refine cw_region ?_
          refine wl_move rfl rfl (by decide) ?_
          refine wl_ar rfl rfl rfl (((j : Nat) : Int) - 1) (ar_i64s rfl (by omega) (by omega)) (by decide) ?_
          refine wl_assign rfl rfl (by decide) ?_
          refine wl_nil ?_
          refine eo_round (⟨v81, j, _, _, _⟩ : World × Nat × Int × Nat × List Nat) ⟨hw2, (by omega), rfl, hb83, (hbq.updN u84 (by omega)), hF.step (by omega) hdig hf1⟩ (show j < j + 1 by omega) rfl ⟨rfl, rfl, rfl, rfl, rfl, trivial⟩
        ·
          obtain rfl : k = 0 := by omega
          refine cw_region ?_
          refine wl_move rfl rfl (by decide) ?_
          refine wl_cmp rfl rfl rfl false (ge_f (by omega)) (by decide) ?_
          refine wl_nil ?_
          refine eo_then ?_
          refine cw_false rfl ?_
          refine cw_exit ?_
          refine eo_thenX ?_
          refine eo_loopX ?_
          refine eo_block_here ?_
          refine eo_then ?_
          refine cw_seq ?_
          refine cw_region ?_
          refine wl_move rfl rfl (by decide) ?_
          refine wl_call rfl rfl (vs := [.slice (some ⟨g22, 0, none⟩) ((n - m) + 1) ((n - m) + 1)]) (by kernel_rfl) (by decide) (ref3_Trim (hbq.rd0 hO.wq.wf hlq (by omega)) (by omega)) ?_
          rintro _ v86 ⟨xr88, rfl, r88, e87⟩
          refine ret_intro ?_
          have hw2 : Ext w v86 := hw1.trans e87
          obtain ⟨k89, rfl, hk89, ht89, hv89⟩ := r88
          refine wl_move rfl rfl (by decide) ?_
          refine wl_call rfl rfl (vs := [.slice (some ⟨g6, 0, none⟩) (n + 1) (n + 1)]) (by kernel_rfl) (by decide) (ref3_Trim ((hbr.ext e87).rd0 hF.wf.wf hll (by omega)) (by omega)) ?_
          rintro _ v90 ⟨xr92, rfl, r92, e91⟩
          refine ret_intro ?_
          have hw3 : Ext w v90 := hw2.trans e91
          obtain ⟨k93, rfl, hk93, ht93, hv93⟩ := r92
          refine wl_assign rfl rfl (by decide) ?_
          refine wl_assign rfl rfl (by decide) ?_
          refine wl_nil ?_
          refine eo_then ?_
          refine cw_ret ?_
          refine eo_ret [.slice (some ⟨g22, 0, none⟩) k89 ((n - m) + 1), .slice (some ⟨g6, 0, none⟩) k93 (n + 1)] rfl ⟨rfl, rfl, trivial⟩ ?_
          obtain ⟨e1, e2⟩ := dv_done hO hD hF
          refine ⟨_, rfl, ⟨_, _, rfl, ⟨_, _, _, rfl, ?_⟩, ⟨_, _, _, rfl, ?_⟩⟩, hw3⟩
          · rw [← e1]; exact ((hbq.ext (e87.trans e91)).rd0 hO.wq.wf hlq (by omega)).trim hO.wq hk89 ht89 hv89
          · rw [← e2]; exact ((hbr.ext (e87.trans e91)).rd0 hF.wf.wf hll (by omega)).trim hF.wf hk93 ht93 hv93
end Go.Proofs.Ythggegdkpalgbaa

namespace Go.Proofs.Ythggegdkpalgbaa
open Go.RowKit
theorem ref3_words_ {w : World} {b : Nat} (hb : b ≤ w.heap.size) {A : Option Addr} {n cap m : Nat} (hx : Rd w A n cap (db 4294967296 m)) (hln : n ≤ 1099511627776) :
    Calls Try.prog 84 #[.slice A n cap] w (Gv w (WR b m)) := by
  have h := ref3_words hx hln (Wfb_db b32 _)
  rw [nb_db b32] at h
  exact h.mono (Gv.imp (WR.imp hb))
theorem ref3_divide_ {w : World} {A D : Option Addr} {n cap m cd X Y : Nat} (hx : Rd w A n cap (db 4294967296 X)) (hln : n ≤ 274877906944) (hy : Rd w D m cd (db 4294967296 Y)) (hlm : m ≤ 274877906944) (hY : Y ≠ 0) :
    Calls Try.prog 83 #[.slice A n cap, .slice D m cd] w (Gv w (T2 (WD (X / Y)) (WD (X % Y)))) := by
  have hl := hx.len
  have hl2 := hy.len
  have h1 := db_top b32 X
  have h2 := db_top b32 Y
  rw [hl] at h1
  rw [hl2] at h2
  have hm : 0 < m := by
    refine Nat.pos_of_ne_zero fun e => hY ?_
    rw [← len_db_zero b32 (n := Y), hl2, e]
  have h := ref3_divide hx hln hy hlm (Wfb_db b32 _) (Wfb_db b32 _) h1 hm (by omega)
  rw [nb_db b32, nb_db b32] at h
  exact h
theorem len_db32 {xs : List Nat} (h : Wf xs) : (db 4294967296 (nv xs)).length ≤ 2 * xs.length := by
  refine len_db_le b32 ?_
  have := nv_lt h
  rwa [WB_32, ← Nat.pow_mul] at this
theorem Rd.hl {w : World} {A : Option Addr} {c k : Nat} {xs : List Nat} {m : Nat} {w0 : World} {A0 : Option Addr} {n0 c0 : Nat} (h : Rd w A k c (db 4294967296 m)) (hx : Rd w0 A0 n0 c0 xs) (hm : m ≤ nv xs) : k ≤ 2 * n0 := by
  have h1 := h.len
  have h2 := len_db32 hx.wf
  rw [hx.len] at h2
  have h3 := len_db_mono b32 hm
  omega
set_option maxHeartbeats 4000000 in
theorem ref3_DivMod_ok {w : World} {A D : Option Addr} {n cap m cd : Nat} {xs ys : List Nat} (hx : Rd w A n cap xs) (hln : n ≤ 137438953472) (hy : Rd w D m cd ys) (hlm : m ≤ 137438953472) (hy0 : nv ys ≠ 0) :
    Calls Try.prog 57 #[.slice A n cap, .slice D m cd] w (Gv w (T3 (WR w.heap.size (nv xs / nv ys)) (WR w.heap.size (nv xs % nv ys)) (Is (.int .i64 0)))) := by
  refine sx_enter Try.func57 rfl (n := 28) rfl (Nat.le_of_ble_eq_true rfl) (args := [.slice A n cap, .slice D m cd]) ?_
  refine cw_keep [(0, .slice A n cap), (1, .slice D m cd)] ⟨rfl, rfl, trivial⟩ ?_
  refine cw_seq ?_
  refine cw_region ?_
  refine wl_assign rfl rfl (by decide) ?_
  refine wl_assign rfl rfl (by decide) ?_
  refine wl_assign rfl rfl (by decide) ?_
  refine wl_nil ?_
  refine eo_then ?_
  refine cw_seq ?_
  refine cw_region ?_
  refine wl_move rfl rfl (by decide) ?_
  refine wl_call rfl rfl (vs := [.slice D m cd]) (by kernel_rfl) (by decide) (ref3_halves hy (by omega)) ?_
  rintro _ v1 ⟨xr3, rfl, r3, e2⟩
  refine ret_intro ?_
  have hw1 : Ext w v1 := (Ext.refl w).trans e2
  obtain ⟨A4, n4, c4, rfl, rd4⟩ := r3
  refine wl_assign rfl rfl (by decide) ?_
  refine wl_nil ?_
  refine eo_then ?_
  refine cw_seq ?_
  refine cw_seq ?_
  have hdl := rd4.hl hy (Nat.le_refl _)
  have hlz := rd4.len
  have hlp : n4 ≠ 0 := fun e => hy0 (by rw [← len_db_zero b32 (n := nv ys), hlz, e])
  refine cw_region ?_
  refine wl_move rfl rfl (by decide) ?_
  refine wl_pure rfl rfl (v := .int .i64 ((n4 : Nat) : Int)) (by decide) (by kernel_rfl) ?_
  refine wl_cmp rfl rfl rfl false (cb_eq_f (a := n4) (b := 0) rfl rfl (by omega)) (by decide) ?_
  refine wl_nil ?_
  refine eo_then ?_
  refine cw_false rfl ?_
  refine cw_skip ?_
  refine eo_then ?_
  refine cw_seq ?_
  refine cw_region ?_
  refine wl_move rfl rfl (by decide) ?_
  refine wl_call rfl rfl (vs := [.slice A n cap]) (by kernel_rfl) (by decide) (ref3_halves (hx.ext e2) (by omega)) ?_
  rintro _ v5 ⟨xr7, rfl, r7, e6⟩
  refine ret_intro ?_
  have hw2 : Ext w v5 := hw1.trans e6
  obtain ⟨A8, n8, c8, rfl, rd8⟩ := r7
  refine wl_assign rfl rfl (by decide) ?_
  refine wl_nil ?_
  refine eo_then ?_
  refine cw_seq ?_
  have hdl2 := rd8.hl hx (Nat.le_refl _)
  refine cw_region ?_
  refine wl_move rfl rfl (by decide) ?_
  refine wl_move rfl rfl (by decide) ?_
  refine wl_call rfl rfl (vs := [.slice A8 n8 c8, .slice A4 n4 c4]) (by kernel_rfl) (by decide) (ref3_divide_ rd8 (by omega) (rd4.ext e6) (by omega) hy0) ?_
  rintro _ v9 ⟨xr11, rfl, r11, e10⟩
  refine ret_intro ?_
  have hw3 : Ext w v9 := hw2.trans e10
  obtain ⟨a12_0, a12_1, rfl, r12_0, r12_1⟩ := r11
  obtain ⟨A13, n13, c13, rfl, rd13⟩ := r12_0
  obtain ⟨A14, n14, c14, rfl, rd14⟩ := r12_1
  refine wl_move rfl rfl (by decide) ?_
  refine wl_pure rfl rfl (v := .slice A13 n13 c13) (by decide) (by kernel_rfl) ?_
  refine wl_pure rfl rfl (v := .slice A14 n14 c14) (by decide) (by kernel_rfl) ?_
  refine wl_assign rfl rfl (by decide) ?_
  refine wl_assign rfl rfl (by decide) ?_
  refine wl_nil ?_
  refine eo_then ?_
  refine cw_seq ?_
  have hdl3 := rd13.hl hx (Nat.div_le_self _ _)
  have hdl4 := rd14.hl hx (Nat.mod_le _ _)
  refine cw_region ?_
  refine wl_move rfl rfl (by decide) ?_
  refine wl_call rfl rfl (vs := [.slice A13 n13 c13]) (by kernel_rfl) (by decide) (ref3_words_ hw3.size rd13 (by omega)) ?_
  rintro _ v15 ⟨xr17, rfl, r17, e16⟩
  refine ret_intro ?_
  have hw4 : Ext w v15 := hw3.trans e16
  obtain ⟨A18, n18, c18, rfl, j18, o18⟩ := r17
  refine wl_move rfl rfl (by decide) ?_
  refine wl_call rfl rfl (vs := [.slice A14 n14 c14]) (by kernel_rfl) (by decide) (ref3_words_ hw4.size (rd14.ext e16) (by omega)) ?_
  rintro _ v19 ⟨xr21, rfl, r21, e20⟩
  refine ret_intro ?_
  have hw5 : Ext w v19 := hw4.trans e20
  obtain ⟨A22, n22, c22, rfl, j22, o22⟩ := r21
  refine wl_assign rfl rfl (by decide) ?_
  refine wl_assign rfl rfl (by decide) ?_
  refine wl_assign rfl rfl (by decide) ?_
  refine wl_nil ?_
  refine eo_then ?_
  refine cw_ret ?_
  refine eo_ret [.slice A18 n18 c18, .slice A22 n22 c22, .int .i64 0] rfl ⟨rfl, rfl, rfl, trivial⟩ ?_
  exact ⟨_, rfl, ⟨_, _, _, rfl, ⟨_, _, _, rfl, j18, (o18.ext e20)⟩, ⟨_, _, _, rfl, j22, o22⟩, rfl⟩, hw5⟩
set_option maxHeartbeats 4000000 in
theorem ref3_DivMod_bad {w : World} {A D : Option Addr} {n cap m cd : Nat} {xs ys : List Nat} (hy : Rd w D m cd ys) (hlm : m ≤ 137438953472) (hy0 : nv ys = 0) :
    Calls Try.prog 57 #[.slice A n cap, .slice D m cd] w (Gv w (Is (.tuple #[.slice none 0 0, .slice none 0 0, .int .i64 4]))) := by
  refine sx_enter Try.func57 rfl (n := 28) rfl (Nat.le_of_ble_eq_true rfl) (args := [.slice A n cap, .slice D m cd]) ?_
  refine cw_keep [(0, .slice A n cap), (1, .slice D m cd)] ⟨rfl, rfl, trivial⟩ ?_
  refine cw_seq ?_
  refine cw_region ?_
  refine wl_assign rfl rfl (by decide) ?_
  refine wl_assign rfl rfl (by decide) ?_
  refine wl_assign rfl rfl (by decide) ?_
  refine wl_nil ?_
  refine eo_then ?_
  refine cw_seq ?_
  refine cw_region ?_
  refine wl_move rfl rfl (by decide) ?_
  refine wl_call rfl rfl (vs := [.slice D m cd]) (by kernel_rfl) (by decide) (ref3_halves hy (by omega)) ?_
  rintro _ v1 ⟨xr3, rfl, r3, e2⟩
  refine ret_intro ?_
  have hw1 : Ext w v1 := (Ext.refl w).trans e2
  obtain ⟨A4, n4, c4, rfl, rd4⟩ := r3
  refine wl_assign rfl rfl (by decide) ?_
  refine wl_nil ?_
  refine eo_then ?_
  refine cw_seq ?_
  refine cw_seq ?_
  have hdl := rd4.hl hy (Nat.le_refl _)
  have hlz := rd4.len
  rw [hy0, db_zero] at hlz
  simp only [List.length_nil] at hlz
  refine cw_region ?_
  refine wl_move rfl rfl (by decide) ?_
  refine wl_pure rfl rfl (v := .int .i64 ((n4 : Nat) : Int)) (by decide) (by kernel_rfl) ?_
  refine wl_cmp rfl rfl rfl true (cb_eq_t (a := n4) (b := 0) rfl rfl (by omega)) (by decide) ?_
  refine wl_nil ?_
  refine eo_then ?_
  refine cw_true rfl ?_
  refine cw_seq ?_
  refine cw_region ?_
  refine wl_assign rfl rfl (by decide) ?_
  refine wl_assign rfl rfl (by decide) ?_
  refine wl_assign rfl rfl (by decide) ?_
  refine wl_nil ?_
  refine eo_then ?_
  refine cw_ret ?_
  refine eo_thenR ?_
  refine eo_ret [.slice none 0 0, .slice none 0 0, .int .i64 4] rfl ⟨rfl, rfl, rfl, trivial⟩ ?_
  exact ⟨_, rfl, rfl, hw1⟩
end Go.Proofs.Ythggegdkpalgbaa

namespace Go.Proofs.Ythggegdkpalgbaa
open Go.RowKit
section
variable {P : Program} {Q : Exit → Act → World → Prop} {n : Nat} {l : Fr} {w : World} {ops : Array Oper} {rest : List Oper} {d : Nat} {op : Op} {ty : TypeId} {pos : String} {af : Array Edge} {gd : Option (Nat × Bool)}
theorem wl_bslice (hw : guardB ops l gd = some true) (hk : known l op = true) (hn : d < n) {k : Nat} {e : TypeId} (cells : List Value)
    (hr : ∀ w, (execOp (rho l) ⟨some d, op, ty, pos, af, gd⟩).run P w = .ok (.value (.slice (some ⟨w.heap.size, 0, none⟩) k k)) (w.alloc (.cells cells.toArray e)))
    (h : ∀ g w', NewBk w w' g e cells → wl P ops Q n rest ((d, .slice (some ⟨g, 0, none⟩) k k) :: l) w') : wl P ops Q n (⟨some d, op, ty, pos, af, gd⟩ :: rest) l w :=
  wl_val hw hn (fun a ha => by rw [exec_known hk ha]; exact hr w) (h _ _ (NewBk.mk' w e cells))
end
/-- a word alone, of its own -/
def O1 (b x : Nat) (v : Value) (w : World) : Prop := ∃ A, v = .slice A 1 1 ∧ Own w b 23 1 A 1 1 [W64 x]
theorem O1.mk_ {w w' : World} {g b x : Nat} (h : NewBk w w' g 23 [W64 x]) (hb : b ≤ w.heap.size) : Own w' b 23 1 (some ⟨g, 0, none⟩) 1 1 [W64 x] :=
  Own.mk_ (by rw [← h.at_]; exact hb) h.bk (Nat.le_refl _) (by rw [len_maxLen]; omega) rfl rfl
theorem own1_wi {w : World} {b x : Nat} {A : Option Addr} (h : Own w b 23 1 A 1 1 [W64 x]) (hx : x ≤ 18446744073709551615) : Wi w A 1 1 x :=
  ⟨[x], h.rd (Wf_one (by rw [WB_def]; omega)), nv_one x⟩
theorem own1_wd {w : World} {b x : Nat} {A : Option Addr} (h : Own w b 23 1 A 1 1 [W64 x]) (hx : x ≤ 18446744073709551615) (h0 : x ≠ 0) : Own w b 23 1 A 1 1 ((wd x).map W64) := by
  rw [wd_small (by rw [WB_def]; omega) h0]; exact h
theorem len1 {x : Nat} (hx : x ≤ 18446744073709551615) (h0 : x ≠ 0) : 1 = (wd x).length := by rw [wd_small (by rw [WB_def]; omega) h0]; rfl
end Go.Proofs.Ythggegdkpalgbaa

namespace Go.Proofs.Ythggegdkpalgbaa
open Go.RowKit
/-- what a division answers: rest, error; Exact's -/
def rm3 (X Y : Nat) : Nat := if Y = 0 then 0 else X % Y
def er3 (Y : Nat) : Int := if Y = 0 then 4 else 0
def xt3 (X Y : Nat) : Nat := if X % Y = 0 then X / Y else 0
def xe3 (X Y : Nat) : Int := if Y = 0 then 4 else if X % Y = 0 then 0 else 8
theorem rm3_le {X Y : Nat} : rm3 X Y ≤ X := by
  unfold rm3
  split
  · omega
  · exact Nat.mod_le _ _
theorem xt3_le {X Y : Nat} : xt3 X Y ≤ X := by
  unfold xt3
  split
  · exact Nat.div_le_self _ _
  · omega
theorem len_rm3 {X Y N : Nat} (h : (wd X).length ≤ N) : (wd (rm3 X Y)).length ≤ N := Nat.le_trans (len_wd_mono rm3_le) h
theorem len_d3 {X Y N : Nat} (h : (wd X).length ≤ N) : (wd (X / Y)).length ≤ N := Nat.le_trans (len_wd_mono (Nat.div_le_self _ _)) h
theorem len_xt3 {X Y N : Nat} (h : (wd X).length ≤ N) : (wd (xt3 X Y)).length ≤ N := Nat.le_trans (len_wd_mono xt3_le) h
theorem rm3_64 {X v : Nat} (hv : v ≤ 18446744073709551615) : rm3 X v ≤ 18446744073709551615 := by
  unfold rm3
  split
  · omega
  · have := Nat.mod_lt X (show v > 0 by omega); omega
theorem wr_nil3 {b : Nat} {w : World} : WR b 0 (.slice none 0 0) w := ⟨none, 0, 0, rfl, rfl, Own.nil _ _ _ _⟩
section
variable {w : World} {A B : Option Addr} {n cap n' cap' X Y b : Nat} (hb : b ≤ w.heap.size)
include hb
theorem j3_rDivMod (hx : Wi w A n cap X) (hl : n ≤ 68719476735) (hy : Wi w B n' cap' Y) (hl' : n' ≤ 68719476735) : Calls Try.prog 57 #[.slice A n cap, .slice B n' cap'] w (Gv w (T3 (WR b (X / Y)) (WR b (rm3 X Y)) (Is (.int .i64 (er3 Y))))) := by
  obtain ⟨xs, h1, rfl⟩ := hx
  obtain ⟨ys, h2, rfl⟩ := hy
  by_cases h0 : nv ys = 0
  · refine (ref3_DivMod_bad (xs := xs) (A := A) (n := n) (cap := cap) h2 (by omega) h0).mono ?_
    rintro e w' ⟨v, rfl, rfl, hx⟩
    refine ⟨_, rfl, ⟨_, _, _, rfl, ?_, ?_, ?_⟩, hx⟩
    · rw [h0, Nat.div_zero]; exact wr_nil3
    · unfold rm3; rw [if_pos h0]; exact wr_nil3
    · unfold er3; rw [if_pos h0]; rfl
  · refine (ref3_DivMod_ok h1 (by omega) h2 (by omega) h0).mono (Gv.imp ?_)
    unfold rm3 er3
    rw [if_neg h0, if_neg h0]
    exact T3.imp (WR.imp hb) (WR.imp hb) Is.imp
theorem j3_DivMod (hx : Wi w A n cap X) (hl : n ≤ 68719476735) (hy : Wi w B n' cap' Y) (hl' : n' ≤ 68719476735) : Calls Try.prog 63 #[.slice A n cap, .slice B n' cap'] w (Gv w (T3 (WR b (X / Y)) (WR b (rm3 X Y)) (Is (.int .i64 (er3 Y))))) := by
  obtain ⟨xs, h1, rfl⟩ := hx
  obtain ⟨ys, h2, rfl⟩ := hy
  by_cases h0 : nv ys = 0
  · refine (divnat_DivMod_bad (A := A) (n := n) (cap := cap) h2 (by omega) h0).mono ?_
    rintro e w' ⟨rfl, hx⟩
    refine ⟨_, rfl, ⟨_, _, _, rfl, ?_, ?_, ?_⟩, hx⟩
    · rw [h0, Nat.div_zero]; exact wr_nil3
    · unfold rm3; rw [if_pos h0]; exact wr_nil3
    · unfold er3; rw [if_pos h0]; rfl
  · refine (divnat_DivMod h1 (by omega) h2 (by omega) h0).mono ?_
    rintro e w' ⟨A, n, c, B, m, d, rfl, h1, _, h3, h4, _, h6, hx⟩
    refine ⟨_, rfl, ⟨_, _, _, rfl, ⟨_, _, _, rfl, h1.out, h3.mono hb⟩, ?_, ?_⟩, hx⟩
    · unfold rm3; rw [if_neg h0]; exact ⟨_, _, _, rfl, h4.out, h6.mono hb⟩
    · unfold er3; rw [if_neg h0]; rfl
theorem j3_Word {v : Nat} (hx : Wi w A n cap X) (hl : n ≤ 68719476735) (hv : v ≤ 18446744073709551615) : Calls Try.prog 30 #[.slice A n cap, .int .u64 ((v : Nat) : Int)] w (Gv w (T3 (WR b (X / v)) (Is (.int .u64 ((rm3 X v : Nat) : Int))) (Is (.int .i64 (er3 v))))) := by
  obtain ⟨xs, h1, rfl⟩ := hx
  by_cases h0 : v = 0
  · subst h0
    refine (divnat_Word_bad (A := A) (n := n) (cap := cap)).mono ?_
    rintro e w' ⟨rfl, rfl⟩
    refine ⟨_, rfl, ⟨_, _, _, rfl, ?_, rfl, rfl⟩, Ext.refl _⟩
    rw [Nat.div_zero]; exact wr_nil3
  · refine (divnat_Word h1 (by omega) h0 hv).mono ?_
    rintro e w' ⟨A, n, c, r', rfl, h1, _, h3, _, h5, hx⟩
    refine ⟨_, rfl, ⟨_, _, _, rfl, ⟨_, _, _, rfl, h3.out, h5.mono hb⟩, ?_, ?_⟩, hx⟩
    · unfold rm3; rw [if_neg h0, h1.out]; rfl
    · unfold er3; rw [if_neg h0]; rfl
theorem j3_Exact (hx : Wi w A n cap X) (hl : n ≤ 68719476735) (hy : Wi w B n' cap' Y) (hl' : n' ≤ 68719476735) : Calls Try.prog 64 #[.slice A n cap, .slice B n' cap'] w (Gv w (T2 (WR b (xt3 X Y)) (Is (.int .i64 (xe3 X Y))))) := by
  by_cases h0 : Y = 0
  · refine (g_divnat_Exact_bad (i := X) (A := A) (n := n) (cap := cap) hy (by omega) h0).mono ?_
    rintro e w' ⟨v, rfl, rfl, hx⟩
    refine ⟨_, rfl, ⟨_, _, rfl, ?_, ?_⟩, hx⟩
    · unfold xt3; rw [h0, Nat.div_zero]; split <;> exact wr_nil3
    · unfold xe3; rw [if_pos h0]; rfl
  · by_cases h1 : X % Y = 0
    · refine (g_divnat_Exact hb hx (by omega) hy (by omega) h0 h1).mono (Gv.imp ?_)
      unfold xt3 xe3
      rw [if_pos h1, if_neg h0, if_pos h1]
      exact T2.imp (WR.imp (Nat.le_refl _)) Is.imp
    · refine (g_divnat_Exact_not hx (by omega) hy (by omega) h0 h1).mono ?_
      rintro e w' ⟨v, rfl, rfl, hx⟩
      refine ⟨_, rfl, ⟨_, _, rfl, ?_, ?_⟩, hx⟩
      · unfold xt3; rw [if_neg h1]; exact wr_nil3
      · unfold xe3; rw [if_neg h0, if_neg h1]; rfl
end
set_option maxHeartbeats 4000000 in
theorem j3_rWord {w : World} {b : Nat} (hb : b ≤ w.heap.size) {A : Option Addr} {n cap X : Nat} (hx : Wi w A n cap X) (hl : n ≤ 68719476735) {v : Nat} (hv : v ≤ 18446744073709551615) :
    Calls Try.prog 56 #[.slice A n cap, .int .u64 ((v : Nat) : Int)] w (Gv w (T3 (WR b (X / v)) (Is (.int .u64 ((rm3 X v : Nat) : Int))) (Is (.int .i64 (er3 v))))) := by
  refine sx_enter Try.func56 rfl (n := 28) rfl (Nat.le_of_ble_eq_true rfl) (args := [.slice A n cap, .int .u64 ((v : Nat) : Int)]) ?_
  refine cw_keep [(0, .slice A n cap), (1, .int .u64 ((v : Nat) : Int))] ⟨rfl, rfl, trivial⟩ ?_
  refine cw_seq ?_
  refine cw_region ?_
  refine wl_assign rfl rfl (by decide) ?_
  refine wl_assign rfl rfl (by decide) ?_
  refine wl_assign rfl rfl (by decide) ?_
  refine wl_nil ?_
  refine eo_then ?_
  refine cw_seq ?_
  refine cw_region ?_
  refine wl_move rfl rfl (by decide) ?_
  refine wl_move rfl rfl (by decide) ?_
  refine wl_bslice rfl rfl (by decide) (k := 1) (e := 23) [.int .u64 ((v : Nat) : Int)] (fun _ => by kernel_rfl) fun g1 v2 nb3 => ?_
  have o4 := O1.mk_ (x := v) (b := w.heap.size) nb3 (Ext.refl w).size
  have e5 := nb3.ext
  have hw1 : Ext w v2 := (Ext.refl w).trans e5
  refine wl_call rfl rfl (vs := [.slice A n cap, .slice (some ⟨g1, 0, none⟩) 1 1]) (by kernel_rfl) (by decide) (j3_rDivMod hw1.size (hx.ext hw1) (Nat.le_trans hl (by decide)) (own1_wi o4 hv) (by decide)) ?_
  rintro _ v8 ⟨xr10, rfl, r10, e9⟩
  refine ret_intro ?_
  have hw2 : Ext w v8 := hw1.trans e9
  obtain ⟨a11_0, a11_1, a11_2, rfl, r11_0, r11_1, r11_2⟩ := r10
  obtain ⟨A12, n12, c12, rfl, j12, o12⟩ := r11_0
  obtain ⟨A13, n13, c13, rfl, j13, o13⟩ := r11_1
  obtain rfl := r11_2
  refine wl_move rfl rfl (by decide) ?_
  refine wl_pure rfl rfl (v := .slice A12 n12 c12) (by decide) (by kernel_rfl) ?_
  refine wl_pure rfl rfl (v := .slice A13 n13 c13) (by decide) (by kernel_rfl) ?_
  refine wl_pure rfl rfl (v := .int .i64 (er3 v)) (by decide) (by kernel_rfl) ?_
  refine wl_assign rfl rfl (by decide) ?_
  refine wl_assign rfl rfl (by decide) ?_
  refine wl_assign rfl rfl (by decide) ?_
  refine wl_nil ?_
  refine eo_then ?_
  refine cw_seq ?_
  refine cw_seq ?_
  by_cases hz : n13 = 0
  ·
    have hr0 : rm3 X v = 0 := len_wd_zero.1 (by rw [← j13, hz])
    refine cw_region ?_
    refine wl_move rfl rfl (by decide) ?_
    refine wl_pure rfl rfl (v := .int .i64 ((n13 : Nat) : Int)) (by decide) (by kernel_rfl) ?_
    refine wl_cmp rfl rfl rfl true (cb_eq_t (a := n13) (b := 0) rfl rfl (by omega)) (by decide) ?_
    refine wl_nil ?_
    refine eo_then ?_
    refine cw_true rfl ?_
    refine cw_seq ?_
    refine cw_region ?_
    refine wl_move rfl rfl (by decide) ?_
    refine wl_move rfl rfl (by decide) ?_
    refine wl_assign rfl rfl (by decide) ?_
    refine wl_assign rfl rfl (by decide) ?_
    refine wl_assign rfl rfl (by decide) ?_
    refine wl_nil ?_
    refine eo_then ?_
    refine cw_ret ?_
    refine eo_thenR ?_
    refine eo_ret [.slice A12 n12 c12, .int .u64 0, .int .i64 (er3 v)] rfl ⟨rfl, rfl, rfl, trivial⟩ ?_
    exact ⟨_, rfl, ⟨_, _, _, rfl, ⟨_, _, _, rfl, j12, o12.mono hb⟩, (by rw [hr0]; rfl), rfl⟩, hw2⟩
  ·
    have hrn : rm3 X v ≠ 0 := fun e => hz (by rw [j13, e]; rfl)
    have hv0 : v ≠ 0 := fun e => hrn (by unfold rm3; rw [if_pos e])
    have hwd : wd (rm3 X v) = [rm3 X v] := wd_small (by have := rm3_64 (X := X) hv; rw [WB_def]; omega) hrn
    have hrd := (o13).rd (Wf_wd _)
    have hg : (wd (rm3 X v)).getD 0 0 = rm3 X v := by rw [hwd]; rfl
    refine cw_region ?_
    refine wl_move rfl rfl (by decide) ?_
    refine wl_pure rfl rfl (v := .int .i64 ((n13 : Nat) : Int)) (by decide) (by kernel_rfl) ?_
    refine wl_cmp rfl rfl rfl false (cb_eq_f (a := n13) (b := 0) rfl rfl (by omega)) (by decide) ?_
    refine wl_nil ?_
    refine eo_then ?_
    refine cw_false rfl ?_
    refine cw_skip ?_
    refine eo_then ?_
    refine cw_seq ?_
    refine cw_keep [(7, .slice A12 n12 c12), (8, .slice A13 n13 c13), (9, .int .i64 (er3 v))] ⟨rfl, rfl, rfl, trivial⟩ ?_
    obtain ⟨v14, hv, e15⟩ : ∃ v, v = v8.drew ∧ Ext v8 v := ⟨_, rfl, (Ext.refl _).drew⟩
    have hw3 : Ext w v14 := hw2.trans e15
    obtain ⟨p16, hp16, hc16, hv16⟩ := ((hrd.ext e15)).at (i := 0) (by omega)
    refine cw_det mix (w := v14) [.slice A12 n12 c12, .slice A13 n13 c13, .pointer (some p16), .int .u64 (((wd (rm3 X v)).getD 0 0 : Nat) : Int), .int .i64 (er3 v), .slice A12 n12 c12, .int .u64 (((wd (rm3 X v)).getD 0 0 : Nat) : Int), .int .i64 (er3 v)] [v14] [] [[], [], [1], [2], [], [0], [3], [4]] [[], [], [1], [1, 2], [], [0], [0, 1, 2, 3, 5], [0, 1, 2, 3, 4, 5, 6]] [(0, 0), (1, 0), (2, 0), (3, 0), (4, 0), (5, 0), (6, 0), (7, 0)] rfl hv ?_ ?_
    ·
      refine dobs_val _ rfl rfl rfl rfl rfl (rd_move rfl) ?_
      refine dobs_val _ rfl rfl rfl rfl rfl (rd_move rfl) ?_
      refine dobs_val _ rfl rfl rfl rfl rfl (rd_idx rfl rfl un_u64 sz_u64 0 rfl (by omega) p16 hp16) ?_
      refine dobs_val _ rfl rfl rfl rfl rfl (rd_load rfl (load_cell1 ag_u64 hc16)) ?_
      refine dobs_val _ rfl rfl rfl rfl rfl (rd_move rfl) ?_
      refine dobs_val _ rfl rfl rfl rfl rfl (rd_assign rfl) ?_
      refine dobs_val _ rfl rfl rfl rfl rfl (rd_assign rfl) ?_
      refine dobs_val _ rfl rfl rfl rfl rfl (rd_assign rfl) ?_
      exact dobs_nil
    clear hv
    refine eo_keep [(4, .slice A12 n12 c12), (5, .int .u64 (((wd (rm3 X v)).getD 0 0 : Nat) : Int)), (6, .int .i64 (er3 v))] ⟨rfl, rfl, rfl, trivial⟩ ?_
    refine eo_then ?_
    refine cw_ret ?_
    refine eo_ret [.slice A12 n12 c12, .int .u64 (((wd (rm3 X v)).getD 0 0 : Nat) : Int), .int .i64 (er3 v)] rfl ⟨rfl, rfl, rfl, trivial⟩ ?_
    exact ⟨_, rfl, ⟨_, _, _, rfl, ⟨_, _, _, rfl, j12, (o12.ext e15).mono hb⟩, (by rw [hg]; rfl), rfl⟩, hw3⟩
set_option maxHeartbeats 4000000 in
theorem j3_rExact {w : World} {b : Nat} (hb : b ≤ w.heap.size) {A : Option Addr} {n cap X : Nat} (hx : Wi w A n cap X) (hl : n ≤ 68719476735) {B : Option Addr} {n' cap' Y : Nat} (hy : Wi w B n' cap' Y) (hl' : n' ≤ 68719476735) :
    Calls Try.prog 58 #[.slice A n cap, .slice B n' cap'] w (Gv w (T2 (WR b (xt3 X Y)) (Is (.int .i64 (xe3 X Y))))) := by
  refine sx_enter Try.func58 rfl (n := 23) rfl (Nat.le_of_ble_eq_true rfl) (args := [.slice A n cap, .slice B n' cap']) ?_
  refine cw_keep [(0, .slice A n cap), (1, .slice B n' cap')] ⟨rfl, rfl, trivial⟩ ?_
  refine cw_seq ?_
  refine cw_region ?_
  refine wl_assign rfl rfl (by decide) ?_
  refine wl_assign rfl rfl (by decide) ?_
  refine wl_nil ?_
  refine eo_then ?_
  refine cw_seq ?_
  refine cw_region ?_
  refine wl_move rfl rfl (by decide) ?_
  refine wl_move rfl rfl (by decide) ?_
  refine wl_call rfl rfl (vs := [.slice A n cap, .slice B n' cap']) (by kernel_rfl) (by decide) (j3_rDivMod (Ext.refl w).size hx (Nat.le_trans hl (by decide)) hy (Nat.le_trans hl' (by decide))) ?_
  rintro _ v1 ⟨xr3, rfl, r3, e2⟩
  refine ret_intro ?_
  have hw1 : Ext w v1 := (Ext.refl w).trans e2
  obtain ⟨a4_0, a4_1, a4_2, rfl, r4_0, r4_1, r4_2⟩ := r3
  obtain ⟨A5, n5, c5, rfl, j5, o5⟩ := r4_0
  obtain ⟨A6, n6, c6, rfl, j6, o6⟩ := r4_1
  obtain rfl := r4_2
  refine wl_move rfl rfl (by decide) ?_
  refine wl_pure rfl rfl (v := .slice A5 n5 c5) (by decide) (by kernel_rfl) ?_
  refine wl_pure rfl rfl (v := .slice A6 n6 c6) (by decide) (by kernel_rfl) ?_
  refine wl_pure rfl rfl (v := .int .i64 (er3 Y)) (by decide) (by kernel_rfl) ?_
  refine wl_assign rfl rfl (by decide) ?_
  refine wl_assign rfl rfl (by decide) ?_
  refine wl_assign rfl rfl (by decide) ?_
  refine wl_nil ?_
  refine eo_then ?_
  refine cw_seq ?_
  refine cw_seq ?_
  by_cases h0 : Y = 0
  ·
    refine cw_region ?_
    refine wl_move rfl rfl (by decide) ?_
    refine wl_cmp rfl rfl rfl true (ne_t (by unfold er3; rw [if_pos h0]; decide)) (by decide) ?_
    refine wl_nil ?_
    refine eo_then ?_
    refine cw_true rfl ?_
    refine cw_seq ?_
    refine cw_region ?_
    refine wl_move rfl rfl (by decide) ?_
    refine wl_assign rfl rfl (by decide) ?_
    refine wl_assign rfl rfl (by decide) ?_
    refine wl_nil ?_
    refine eo_then ?_
    refine cw_ret ?_
    refine eo_thenR ?_
    refine eo_ret [.slice none 0 0, .int .i64 (er3 Y)] rfl ⟨rfl, rfl, trivial⟩ ?_
    exact ⟨_, rfl, ⟨_, _, rfl, (by unfold xt3; rw [h0, Nat.div_zero]; split <;> exact wr_nil3), (by unfold xe3 er3; rw [if_pos h0, if_pos h0]; rfl)⟩, hw1⟩
  ·
    have he : rm3 X Y = X % Y := by unfold rm3; rw [if_neg h0]
    by_cases h1 : X % Y = 0
    ·
      have hz : n6 = 0 := by rw [j6, he, h1]; rfl
      refine cw_region ?_
      refine wl_move rfl rfl (by decide) ?_
      refine wl_cmp rfl rfl rfl false (ne_f (by unfold er3; rw [if_neg h0])) (by decide) ?_
      refine wl_nil ?_
      refine eo_then ?_
      refine cw_false rfl ?_
      refine cw_skip ?_
      refine eo_then ?_
      refine cw_seq ?_
      refine cw_seq ?_
      refine cw_region ?_
      refine wl_move rfl rfl (by decide) ?_
      refine wl_pure rfl rfl (v := .int .i64 ((n6 : Nat) : Int)) (by decide) (by kernel_rfl) ?_
      refine wl_cmp rfl rfl rfl false (cb_gt_f (a := n6) (b := 0) rfl rfl (by omega)) (by decide) ?_
      refine wl_nil ?_
      refine eo_then ?_
      refine cw_false rfl ?_
      refine cw_skip ?_
      refine eo_then ?_
      refine cw_seq ?_
      refine cw_region ?_
      refine wl_move rfl rfl (by decide) ?_
      refine wl_assign rfl rfl (by decide) ?_
      refine wl_assign rfl rfl (by decide) ?_
      refine wl_nil ?_
      refine eo_then ?_
      refine cw_ret ?_
      refine eo_ret [.slice A5 n5 c5, .int .i64 0] rfl ⟨rfl, rfl, trivial⟩ ?_
      exact ⟨_, rfl, ⟨_, _, rfl, (by unfold xt3; rw [if_pos h1]; exact ⟨_, _, _, rfl, j5, o5.mono hb⟩), (by unfold xe3; rw [if_neg h0, if_pos h1]; rfl)⟩, hw1⟩
    ·
      have hz : n6 ≠ 0 := fun e => h1 (by rw [← he]; exact len_wd_zero.1 (by rw [← j6, e]))
      refine cw_region ?_
      refine wl_move rfl rfl (by decide) ?_
      refine wl_cmp rfl rfl rfl false (ne_f (by unfold er3; rw [if_neg h0])) (by decide) ?_
      refine wl_nil ?_
      refine eo_then ?_
      refine cw_false rfl ?_
      refine cw_skip ?_
      refine eo_then ?_
      refine cw_seq ?_
      refine cw_seq ?_
      refine cw_region ?_
      refine wl_move rfl rfl (by decide) ?_
      refine wl_pure rfl rfl (v := .int .i64 ((n6 : Nat) : Int)) (by decide) (by kernel_rfl) ?_
      refine wl_cmp rfl rfl rfl true (cb_gt_t (a := n6) (b := 0) rfl rfl (by omega)) (by decide) ?_
      refine wl_nil ?_
      refine eo_then ?_
      refine cw_true rfl ?_
      refine cw_seq ?_
      refine cw_region ?_
      refine wl_assign rfl rfl (by decide) ?_
      refine wl_assign rfl rfl (by decide) ?_
      refine wl_nil ?_
      refine eo_then ?_
      refine cw_ret ?_
      refine eo_thenR ?_
      refine eo_ret [.slice none 0 0, .int .i64 8] rfl ⟨rfl, rfl, trivial⟩ ?_
      exact ⟨_, rfl, ⟨_, _, rfl, (by unfold xt3; rw [if_neg h1]; exact wr_nil3), (by unfold xe3; rw [if_neg h0, if_neg h1]; rfl)⟩, hw1⟩
end Go.Proofs.Ythggegdkpalgbaa

namespace Go.Proofs.Ythggegdkpalgbaa
open Go.RowKit
abbrev I6 (x : Nat) : Value := .int .i64 (x : Int)
/-- a slice of digits, each below b, as ints -/
structure Ri (b : Nat) (w : World) (A : Option Addr) (n cap : Nat) (ds : List Nat) : Prop where
  rv : Rv w 1 A n cap (ds.map I6)
  wf : Wfb b ds
theorem Ri.ext {b : Nat} {w w' : World} {A : Option Addr} {n cap : Nat} {xs : List Nat} (h : Ri b w A n cap xs) (e : Ext w w') : Ri b w' A n cap xs := ⟨h.rv.ext e, h.wf⟩
theorem Ri.len {b : Nat} {w : World} {A : Option Addr} {n cap : Nat} {xs : List Nat} (h : Ri b w A n cap xs) : xs.length = n := by simpa using h.rv.len
theorem Ri.get {b : Nat} (hb : 0 < b) {w : World} {A : Option Addr} {n cap : Nat} {xs : List Nat} (h : Ri b w A n cap xs) {i : Nat} (hi : i < n) :
    ∃ a x, A = some a ∧ Hid (xs.getD i 0 = x) ∧ x < b ∧ w.cell? (a.add i) = some (.int .i64 (x : Int)) := by
  obtain ⟨a, ha, hc⟩ := h.rv.get i (by omega)
  have hl : i < xs.length := by rw [h.len]; exact hi
  refine ⟨a, _, ha, rfl, Wfb_getD hb h.wf i, ?_⟩
  rw [hc]
  simp [List.getD_eq_getElem?_getD, List.getElem?_map, List.getElem?_eq_getElem hl]
theorem Bk.digit {b : Nat} (hb : 0 < b) {w : World} {g : Nat} {t : TypeId} {xs : List Nat} (h : Bk w g t (xs.map I6)) (hw : Wfb b xs) {i : Nat} (hi : i < xs.length) :
    ∃ x, Hid (xs.getD i 0 = x) ∧ x < b ∧ w.cell? ⟨g, i, none⟩ = some (.int .i64 (x : Int)) := by
  refine ⟨_, rfl, Wfb_getD hb hw i, ?_⟩
  rw [h.cell (by simpa using hi)]
  simp [List.getD_eq_getElem?_getD, List.getElem?_map, List.getElem?_eq_getElem hi]
theorem Rv.take {w : World} {s : Nat} {A : Option Addr} {n cap : Nat} {vs : List Value} (h : Rv w s A n cap vs) {k m : Nat} (hk : k ≤ n) (hm : k ≤ m) (hc : m ≤ cap) : Rv w s A k m (vs.take (k * s)) := by
  have := h.cut (l := 0) (Nat.zero_le _) hk hm hc
  simp only [Nat.sub_zero, Nat.zero_mul, List.drop_zero] at this
  have e : (if m = 0 then A else A.map (·.add 0)) = A := by
    have h0 : ∀ a : Addr, a.add 0 = a := fun a => by simp [Addr.add]
    split
    · rfl
    · cases A <;> simp [h0]
  rwa [e] at this
theorem Own.take {w : World} {base : Nat} {t : TypeId} {s : Nat} {A : Option Addr} {n cap : Nat} {vs : List Value} (h : Own w base t s A n cap vs) {k : Nat} (hk : k ≤ n) : Own w base t s A k cap (vs.take (k * s)) := by
  rcases h with ⟨rfl, rfl, rfl, rfl⟩ | ⟨g, cs, rfl, hb, hbk, hn, hm, hl, rfl⟩
  · exact Or.inl ⟨rfl, by omega, rfl, by simp⟩
  · refine Or.inr ⟨g, cs, rfl, hb, hbk, by omega, hm, hl, ?_⟩
    rw [List.take_take, Nat.min_eq_left (Nat.mul_le_mul_right s hk)]
end Go.Proofs.Ythggegdkpalgbaa

namespace Go.Proofs.Ythggegdkpalgbaa
open Go.RowKit
theorem bl_lt {n j : Nat} {xs es : List Nat} (hx : xs.length = n) (he : es.length = n) (hwx : Wfb 4294967296 xs) (hwe : Wfb 4294967296 es) (hj : j < n) (h : nb 4294967296 (xs.drop (j + 1)) = nb 4294967296 (es.drop (j + 1))) (hd : xs.getD j 0 < es.getD j 0) : nb 4294967296 xs < nb 4294967296 es := by
  have := goes_lt (s := 0) hx he (by omega) hwx hwe hj (by rw [Nat.zero_add]; exact h) (by rw [Nat.zero_add]; exact hd)
  rw [Nat.pow_zero, Nat.mul_one] at this
  omega
theorem bl_gt {n j : Nat} {xs es : List Nat} (hx : xs.length = n) (he : es.length = n) (hwx : Wfb 4294967296 xs) (hwe : Wfb 4294967296 es) (hj : j < n) (h : nb 4294967296 (xs.drop (j + 1)) = nb 4294967296 (es.drop (j + 1))) (hd : ¬ xs.getD j 0 < es.getD j 0) (hne : xs.getD j 0 ≠ es.getD j 0) : ¬ nb 4294967296 xs < nb 4294967296 es := by
  have := goes_gt (s := 0) hx he (by omega) hwx hwe hj (by rw [Nat.zero_add]; exact h) (by rw [Nat.zero_add]; omega)
  rw [Nat.pow_zero, Nat.mul_one] at this
  omega
theorem bl_step {n j : Nat} {xs es : List Nat} (hx : xs.length = n) (he : es.length = n) (hj : j < n) (h : nb 4294967296 (xs.drop (j + 1)) = nb 4294967296 (es.drop (j + 1))) (hd : xs.getD j 0 = es.getD j 0) : nb 4294967296 (xs.drop j) = nb 4294967296 (es.drop j) := by
  rw [drop_getD3 (xs := xs) (k := j) (by omega), drop_getD3 (xs := es) (k := j) (by omega), h, hd]
theorem bl_len {X Y : Nat} (h : (db 4294967296 X).length < (db 4294967296 Y).length) : X < Y := by
  refine Nat.lt_of_not_le fun e => ?_
  have := len_db_mono b32 e
  omega
theorem blen_half3 {q : Nat} (h : q ≠ 0) : blen q = blen (q / 2) + 1 := by
  refine blen_unique ?_ (Or.inr ?_)
  · have := lt_blen (q / 2)
    rw [Nat.pow_succ]; omega
  · rw [Nat.add_sub_cancel]
    by_cases h0 : q / 2 = 0
    · rw [h0, blen_zero]; omega
    · have h1 := blen_le_self h0
      have h2 : blen (q / 2) ≠ 0 := fun e => h0 (blen_eq_zero.1 e)
      have h3 : 2 ^ blen (q / 2) = 2 * 2 ^ (blen (q / 2) - 1) := by
        conv => lhs; rw [show blen (q / 2) = (blen (q / 2) - 1) + 1 from by omega]
        rw [Nat.pow_succ, Nat.mul_comm]
      omega
theorem blen_db3 {b k : Nat} (hb : 2 ≤ b) (hbk : b = 2 ^ k) {v m x : Nat} (hm : m = (db b v).length) (h0 : 0 < m) (hx : (db b v).getD (m - 1) 0 = x) : x ≠ 0 ∧ k * (m - 1) + blen x = blen v := by
  have hw := Wfb_db hb v
  have ht := db_top hb v
  rw [← hm, hx] at ht
  have hx0 : x ≠ 0 := by rcases ht with h | h
                         · omega
                         · exact h
  have e2 : v = nb b ((db b v).take (m - 1)) + b ^ (m - 1) * x := by
    have := nb_take_snoc b (db b v) (m - 1) (by omega)
    rw [Nat.sub_add_cancel h0, List.take_of_length_le (by omega), nb_db hb, hx] at this
    exact this
  have hlt := nb_take_lt (by omega) hw (m - 1)
  generalize nb b ((db b v).take (m - 1)) = lo at *
  refine ⟨hx0, (blen_unique ?_ (Or.inr ?_)).symm⟩
  · have h1 := lt_blen x
    rw [Nat.pow_add, Nat.pow_mul, ← hbk]
    have h2 : b ^ (m - 1) * x + b ^ (m - 1) ≤ b ^ (m - 1) * 2 ^ blen x := by
      have := Nat.mul_le_mul_left (b ^ (m - 1)) (Nat.succ_le_of_lt h1)
      rwa [Nat.mul_succ] at this
    omega
  · have h1 := blen_le_self hx0
    have hb' : blen x ≠ 0 := fun h => hx0 (blen_eq_zero.1 h)
    rw [Nat.add_sub_assoc (by omega), Nat.pow_add, Nat.pow_mul, ← hbk]
    have := Nat.mul_le_mul_left (b ^ (m - 1)) h1
    omega
set_option maxHeartbeats 4000000 in
theorem ref3_below {w : World} {A D : Option Addr} {n cap m cd X Y : Nat} (hx : Rd w A n cap (db 4294967296 X)) (hln : n ≤ 274877906944) (hy : Rd w D m cd (db 4294967296 Y)) (hlm : m ≤ 274877906944) :
    Calls Try.prog 86 #[.slice A n cap, .slice D m cd] w (Gv w (Is (.bool (decide (X < Y))))) := by
  have hlen := hx.len
  have hle2 := hy.len
  have hwx := Wfb_db b32 X
  have hwe := Wfb_db b32 Y
  refine sx_enter Try.func86 rfl (n := 41) rfl (Nat.le_of_ble_eq_true rfl) (args := [.slice A n cap, .slice D m cd]) ?_
  refine cw_keep [(0, .slice A n cap), (1, .slice D m cd)] ⟨rfl, rfl, trivial⟩ ?_
  refine cw_seq ?_
  refine cw_region ?_
  refine wl_assign rfl rfl (by decide) ?_
  refine wl_nil ?_
  refine eo_then ?_
  refine cw_seq ?_
  refine cw_seq ?_
  by_cases hne : n ≠ m
  ·
    by_cases hnm : n < m
    ·
      refine cw_region ?_
      refine wl_move rfl rfl (by decide) ?_
      refine wl_pure rfl rfl (v := .int .i64 ((n : Nat) : Int)) (by decide) (by kernel_rfl) ?_
      refine wl_move rfl rfl (by decide) ?_
      refine wl_pure rfl rfl (v := .int .i64 ((m : Nat) : Int)) (by decide) (by kernel_rfl) ?_
      refine wl_cmp rfl rfl rfl true (cb_ne_t (a := n) (b := m) rfl rfl (by omega)) (by decide) ?_
      refine wl_nil ?_
      refine eo_then ?_
      refine cw_true rfl ?_
      refine cw_seq ?_
      refine cw_region ?_
      refine wl_move rfl rfl (by decide) ?_
      refine wl_pure rfl rfl (v := .int .i64 ((n : Nat) : Int)) (by decide) (by kernel_rfl) ?_
      refine wl_move rfl rfl (by decide) ?_
      refine wl_pure rfl rfl (v := .int .i64 ((m : Nat) : Int)) (by decide) (by kernel_rfl) ?_
      refine wl_cmp rfl rfl rfl true (cb_lt_t (a := n) (b := m) rfl rfl (by omega)) (by decide) ?_
      refine wl_assign rfl rfl (by decide) ?_
      refine wl_nil ?_
      refine eo_then ?_
      refine cw_ret ?_
      refine eo_thenR ?_
      refine eo_ret [.bool true] rfl ⟨rfl, trivial⟩ ?_
      have hR : X < Y := bl_len (by omega)
      exact ⟨_, rfl, (by rw [decide_eq_true hR]; rfl), (Ext.refl w)⟩
    ·
      refine cw_region ?_
      refine wl_move rfl rfl (by decide) ?_
      refine wl_pure rfl rfl (v := .int .i64 ((n : Nat) : Int)) (by decide) (by kernel_rfl) ?_
      refine wl_move rfl rfl (by decide) ?_
      refine wl_pure rfl rfl (v := .int .i64 ((m : Nat) : Int)) (by decide) (by kernel_rfl) ?_
      refine wl_cmp rfl rfl rfl true (cb_ne_t (a := n) (b := m) rfl rfl (by omega)) (by decide) ?_
      refine wl_nil ?_
      refine eo_then ?_
      refine cw_true rfl ?_
      refine cw_seq ?_
      refine cw_region ?_
      refine wl_move rfl rfl (by decide) ?_
      refine wl_pure rfl rfl (v := .int .i64 ((n : Nat) : Int)) (by decide) (by kernel_rfl) ?_
      refine wl_move rfl rfl (by decide) ?_
      refine wl_pure rfl rfl (v := .int .i64 ((m : Nat) : Int)) (by decide) (by kernel_rfl) ?_
      refine wl_cmp rfl rfl rfl false (cb_lt_f (a := n) (b := m) rfl rfl (by omega)) (by decide) ?_
      refine wl_assign rfl rfl (by decide) ?_
      refine wl_nil ?_
      refine eo_then ?_
      refine cw_ret ?_
      refine eo_thenR ?_
      refine eo_ret [.bool false] rfl ⟨rfl, trivial⟩ ?_
      have hR : ¬ X < Y := fun e => by have := len_db_mono b32 (Nat.le_of_lt e); omega
      exact ⟨_, rfl, (by rw [decide_eq_false hR]; rfl), (Ext.refl w)⟩
  ·
    obtain rfl : n = m := by omega
    refine cw_region ?_
    refine wl_move rfl rfl (by decide) ?_
    refine wl_pure rfl rfl (v := .int .i64 ((n : Nat) : Int)) (by decide) (by kernel_rfl) ?_
    refine wl_move rfl rfl (by decide) ?_
    refine wl_pure rfl rfl (v := .int .i64 ((n : Nat) : Int)) (by decide) (by kernel_rfl) ?_
    refine wl_cmp rfl rfl rfl false (cb_ne_f (a := n) (b := n) rfl rfl (by omega)) (by decide) ?_
    refine wl_nil ?_
    refine eo_then ?_
    refine cw_false rfl ?_
    refine cw_skip ?_
    refine eo_then ?_
    refine cw_seq ?_
    refine cw_seq ?_
    refine cw_region ?_
    refine wl_move rfl rfl (by decide) ?_
    refine wl_pure rfl rfl (v := .int .i64 ((n : Nat) : Int)) (by decide) (by kernel_rfl) ?_
    refine wl_ar rfl rfl rfl (((n : Nat) : Int) - 1) (ar_i64s rfl (by omega) (by omega)) (by decide) ?_
    refine wl_assign rfl rfl (by decide) ?_
    refine wl_nil ?_
    refine eo_then ?_
    refine cw_block ?_
    refine cw_loop (T := World × Nat × Int)
      (fun ⟨wr, k, ii⟩ => [(0, .slice A n cap), (1, .slice D n cd), (5, .int .i64 ii)])
      (fun ⟨wr, k, ii⟩ => wr)
      (fun ⟨wr, k, ii⟩ => (Ext w wr) ∧ (k ≤ n) ∧ (ii = (k : Int) - 1) ∧ (nb 4294967296 ((db 4294967296 X).drop k) = nb 4294967296 ((db 4294967296 Y).drop k)) ∧ (Rd wr A n cap (db 4294967296 (X))) ∧ (Rd wr D n cd (db 4294967296 (Y))))
      (fun ⟨wr, k, ii⟩ => k)
      (⟨w, n, _⟩ : World × Nat × Int) ⟨(Ext.refl w), Nat.le_refl _, rfl, (by rw [List.drop_of_length_le (by omega), List.drop_of_length_le (by omega)]), hx, hy⟩ rfl ⟨rfl, rfl, rfl, trivial⟩ ?_
    rintro ⟨wr, k, ii⟩ ⟨hw1, hk, hii, hv, rl0, rl1⟩
    refine cw_re [(0, .slice A n cap), (1, .slice D n cd), (5, .int .i64 ii)] wr rfl ⟨rfl, rfl, rfl, trivial⟩ ?_
    refine cw_seq ?_
    refine cw_seq ?_
    by_cases hk0 : 0 < k
    ·
      obtain ⟨j, rfl⟩ : ∃ j, k = j + 1 := ⟨k - 1, by omega⟩
      obtain rfl : ii = (j : Int) := by omega
      refine cw_region ?_
      refine wl_move rfl rfl (by decide) ?_
      refine wl_cmp rfl rfl rfl true (cb_ge_t (a := j) (b := 0) rfl rfl (by omega)) (by decide) ?_
      refine wl_nil ?_
      refine eo_then ?_
      refine cw_true rfl ?_
      refine cw_skip ?_
      refine eo_then ?_
      refine cw_seq ?_
      refine cw_block ?_
      refine cw_seq ?_
      by_cases hdd : (db 4294967296 (X)).getD j 0 ≠ (db 4294967296 (Y)).getD j 0
      ·
        by_cases hlt : (db 4294967296 (X)).getD j 0 < (db 4294967296 (Y)).getD j 0
        ·
          refine cw_keep [(0, .slice A n cap), (1, .slice D n cd), (5, .int .i64 ((j : Nat) : Int)), (19, .int .i64 ((j : Nat) : Int)), (20, .bool true)] ⟨rfl, rfl, rfl, rfl, rfl, trivial⟩ ?_
          obtain ⟨v1, hv, e2⟩ : ∃ v, v = wr.drew ∧ Ext wr v := ⟨_, rfl, (Ext.refl _).drew⟩
          have hw2 : Ext w v1 := hw1.trans e2
          obtain ⟨p3, hp3, hc3, hv3⟩ := ((rl0.ext e2)).at (i := j) (by omega)
          obtain ⟨p4, hp4, hc4, hv4⟩ := ((rl1.ext e2)).at (i := j) (by omega)
          refine cw_det mix (w := v1) [.slice A n cap, .int .i64 ((j : Nat) : Int), .pointer (some p3), .int .u64 (((db 4294967296 (X)).getD j 0 : Nat) : Int), .slice D n cd, .int .i64 ((j : Nat) : Int), .pointer (some p4), .int .u64 (((db 4294967296 (Y)).getD j 0 : Nat) : Int), .bool true] [v1] [] [[], [], [0, 1], [2], [], [], [4, 5], [6], [3, 7]] [[], [], [0, 1], [0, 1, 2], [], [], [4, 5], [4, 5, 6], [0, 1, 2, 3, 4, 5, 6, 7]] [(0, 0), (1, 0), (2, 0), (3, 0), (4, 0), (5, 0), (6, 0), (7, 0), (8, 0)] rfl hv ?_ ?_
          ·
            refine dobs_val _ rfl rfl rfl rfl rfl (rd_move rfl) ?_
            refine dobs_val _ rfl rfl rfl rfl rfl (rd_move rfl) ?_
            refine dobs_val _ rfl rfl rfl rfl rfl (rd_idx rfl rfl un_u64 sz_u64 j rfl (by omega) p3 hp3) ?_
            refine dobs_val _ rfl rfl rfl rfl rfl (rd_load rfl (load_cell1 ag_u64 hc3)) ?_
            refine dobs_val _ rfl rfl rfl rfl rfl (rd_move rfl) ?_
            refine dobs_val _ rfl rfl rfl rfl rfl (rd_move rfl) ?_
            refine dobs_val _ rfl rfl rfl rfl rfl (rd_idx rfl rfl un_u64 sz_u64 j rfl (by omega) p4 hp4) ?_
            refine dobs_val _ rfl rfl rfl rfl rfl (rd_load rfl (load_cell1 ag_u64 hc4)) ?_
            refine dobs_val _ rfl rfl rfl rfl rfl (rd_cmp rfl rfl true (cb_ne_t (a := (db 4294967296 (X)).getD j 0) (b := (db 4294967296 (Y)).getD j 0) rfl rfl (by omega))) ?_
            exact dobs_nil
          clear hv
          refine eo_keep [(0, .slice A n cap), (1, .slice D n cd), (5, .int .i64 ((j : Nat) : Int)), (19, .int .i64 ((j : Nat) : Int)), (20, .bool true), (23, .slice A n cap), (24, .int .i64 ((j : Nat) : Int)), (25, .pointer (some p3)), (26, .int .u64 (((db 4294967296 (X)).getD j 0 : Nat) : Int)), (27, .slice D n cd), (28, .int .i64 ((j : Nat) : Int)), (29, .pointer (some p4)), (30, .int .u64 (((db 4294967296 (Y)).getD j 0 : Nat) : Int)), (31, .bool true)] ⟨rfl, rfl, rfl, rfl, rfl, rfl, rfl, rfl, rfl, rfl, rfl, rfl, rfl, rfl, trivial⟩ ?_
          refine eo_then ?_
          refine cw_true rfl ?_
          refine cw_seq ?_
          refine cw_keep [(0, .slice A n cap), (1, .slice D n cd), (5, .int .i64 ((j : Nat) : Int)), (19, .int .i64 ((j : Nat) : Int)), (20, .bool true), (23, .slice A n cap), (24, .int .i64 ((j : Nat) : Int)), (25, .pointer (some p3)), (26, .int .u64 (((db 4294967296 (X)).getD j 0 : Nat) : Int)), (27, .slice D n cd), (28, .int .i64 ((j : Nat) : Int)), (29, .pointer (some p4)), (30, .int .u64 (((db 4294967296 (Y)).getD j 0 : Nat) : Int)), (31, .bool true)] ⟨rfl, rfl, rfl, rfl, rfl, rfl, rfl, rfl, rfl, rfl, rfl, rfl, rfl, rfl, trivial⟩ ?_
          obtain ⟨v5, hv, e6⟩ : ∃ v, v = v1.drew ∧ Ext v1 v := ⟨_, rfl, (Ext.refl _).drew⟩
          have hw3 : Ext w v5 := hw2.trans e6
          refine cw_det mix (w := v5) [.slice A n cap, .int .i64 ((j : Nat) : Int), .pointer (some p3), .int .u64 (((db 4294967296 (X)).getD j 0 : Nat) : Int), .slice D n cd, .int .i64 ((j : Nat) : Int), .pointer (some p4), .int .u64 (((db 4294967296 (Y)).getD j 0 : Nat) : Int), .bool true, .bool true] [v5] [] [[], [], [0, 1], [2], [], [], [4, 5], [6], [3, 7], [8]] [[], [], [0, 1], [0, 1, 2], [], [], [4, 5], [4, 5, 6], [0, 1, 2, 3, 4, 5, 6, 7], [0, 1, 2, 3, 4, 5, 6, 7, 8]] [(0, 0), (1, 0), (2, 0), (3, 0), (4, 0), (5, 0), (6, 0), (7, 0), (8, 0), (9, 0)] rfl hv ?_ ?_
          ·
            refine dobs_val _ rfl rfl rfl rfl rfl (rd_move rfl) ?_
            refine dobs_val _ rfl rfl rfl rfl rfl (rd_move rfl) ?_
            refine dobs_val _ rfl rfl rfl rfl rfl (rd_idx rfl rfl un_u64 sz_u64 j rfl (by omega) p3 hp3) ?_
            refine dobs_val _ rfl rfl rfl rfl rfl (rd_load rfl (load_cell1 ag_u64 (e6.cell hc3))) ?_
            refine dobs_val _ rfl rfl rfl rfl rfl (rd_move rfl) ?_
            refine dobs_val _ rfl rfl rfl rfl rfl (rd_move rfl) ?_
            refine dobs_val _ rfl rfl rfl rfl rfl (rd_idx rfl rfl un_u64 sz_u64 j rfl (by omega) p4 hp4) ?_
            refine dobs_val _ rfl rfl rfl rfl rfl (rd_load rfl (load_cell1 ag_u64 (e6.cell hc4))) ?_
            refine dobs_val _ rfl rfl rfl rfl rfl (rd_cmp rfl rfl true (cb_lt_t (a := (db 4294967296 (X)).getD j 0) (b := (db 4294967296 (Y)).getD j 0) rfl rfl (by omega))) ?_
            refine dobs_val _ rfl rfl rfl rfl rfl (rd_assign rfl) ?_
            exact dobs_nil
          clear hv
          refine eo_keep [(0, .slice A n cap), (1, .slice D n cd), (5, .int .i64 ((j : Nat) : Int)), (19, .int .i64 ((j : Nat) : Int)), (20, .bool true), (23, .slice A n cap), (24, .int .i64 ((j : Nat) : Int)), (25, .pointer (some p3)), (26, .int .u64 (((db 4294967296 (X)).getD j 0 : Nat) : Int)), (27, .slice D n cd), (28, .int .i64 ((j : Nat) : Int)), (29, .pointer (some p4)), (30, .int .u64 (((db 4294967296 (Y)).getD j 0 : Nat) : Int)), (31, .bool true), (32, .slice A n cap), (33, .int .i64 ((j : Nat) : Int)), (34, .pointer (some p3)), (35, .int .u64 (((db 4294967296 (X)).getD j 0 : Nat) : Int)), (36, .slice D n cd), (37, .int .i64 ((j : Nat) : Int)), (38, .pointer (some p4)), (39, .int .u64 (((db 4294967296 (Y)).getD j 0 : Nat) : Int)), (40, .bool true), (4, .bool true)] ⟨rfl, rfl, rfl, rfl, rfl, rfl, rfl, rfl, rfl, rfl, rfl, rfl, rfl, rfl, rfl, rfl, rfl, rfl, rfl, rfl, rfl, rfl, rfl, rfl, trivial⟩ ?_
          refine eo_then ?_
          refine cw_ret ?_
          refine eo_block_ret ?_
          refine eo_thenR ?_
          refine eo_loopR ?_
          refine eo_block_ret ?_
          refine eo_thenR ?_
          refine eo_ret [.bool true] rfl ⟨rfl, trivial⟩ ?_
          have hR : X < Y := bl_lt hlen hle2 hwx hwe (by omega) hv hlt |> fun h => by rwa [nb_db b32, nb_db b32] at h
          exact ⟨_, rfl, (by rw [decide_eq_true hR]; rfl), hw3⟩
        ·
          refine cw_keep [(0, .slice A n cap), (1, .slice D n cd), (5, .int .i64 ((j : Nat) : Int)), (19, .int .i64 ((j : Nat) : Int)), (20, .bool true)] ⟨rfl, rfl, rfl, rfl, rfl, trivial⟩ ?_
          obtain ⟨v7, hv, e8⟩ : ∃ v, v = wr.drew ∧ Ext wr v := ⟨_, rfl, (Ext.refl _).drew⟩
          have hw2 : Ext w v7 := hw1.trans e8
          obtain ⟨p9, hp9, hc9, hv9⟩ := ((rl0.ext e8)).at (i := j) (by omega)
          obtain ⟨p10, hp10, hc10, hv10⟩ := ((rl1.ext e8)).at (i := j) (by omega)
          refine cw_det mix (w := v7) [.slice A n cap, .int .i64 ((j : Nat) : Int), .pointer (some p9), .int .u64 (((db 4294967296 (X)).getD j 0 : Nat) : Int), .slice D n cd, .int .i64 ((j : Nat) : Int), .pointer (some p10), .int .u64 (((db 4294967296 (Y)).getD j 0 : Nat) : Int), .bool true] [v7] [] [[], [], [0, 1], [2], [], [], [4, 5], [6], [3, 7]] [[], [], [0, 1], [0, 1, 2], [], [], [4, 5], [4, 5, 6], [0, 1, 2, 3, 4, 5, 6, 7]] [(0, 0), (1, 0), (2, 0), (3, 0), (4, 0), (5, 0), (6, 0), (7, 0), (8, 0)] rfl hv ?_ ?_
          ·
            refine dobs_val _ rfl rfl rfl rfl rfl (rd_move rfl) ?_
            refine dobs_val _ rfl rfl rfl rfl rfl (rd_move rfl) ?_
            refine dobs_val _ rfl rfl rfl rfl rfl (rd_idx rfl rfl un_u64 sz_u64 j rfl (by omega) p9 hp9) ?_
            refine dobs_val _ rfl rfl rfl rfl rfl (rd_load rfl (load_cell1 ag_u64 hc9)) ?_
            refine dobs_val _ rfl rfl rfl rfl rfl (rd_move rfl) ?_
            refine dobs_val _ rfl rfl rfl rfl rfl (rd_move rfl) ?_
            refine dobs_val _ rfl rfl rfl rfl rfl (rd_idx rfl rfl un_u64 sz_u64 j rfl (by omega) p10 hp10) ?_
            refine dobs_val _ rfl rfl rfl rfl rfl (rd_load rfl (load_cell1 ag_u64 hc10)) ?_
            refine dobs_val _ rfl rfl rfl rfl rfl (rd_cmp rfl rfl true (cb_ne_t (a := (db 4294967296 (X)).getD j 0) (b := (db 4294967296 (Y)).getD j 0) rfl rfl (by omega))) ?_
            exact dobs_nil
          clear hv
          refine eo_keep [(0, .slice A n cap), (1, .slice D n cd), (5, .int .i64 ((j : Nat) : Int)), (19, .int .i64 ((j : Nat) : Int)), (20, .bool true), (23, .slice A n cap), (24, .int .i64 ((j : Nat) : Int)), (25, .pointer (some p9)), (26, .int .u64 (((db 4294967296 (X)).getD j 0 : Nat) : Int)), (27, .slice D n cd), (28, .int .i64 ((j : Nat) : Int)), (29, .pointer (some p10)), (30, .int .u64 (((db 4294967296 (Y)).getD j 0 : Nat) : Int)), (31, .bool true)] ⟨rfl, rfl, rfl, rfl, rfl, rfl, rfl, rfl, rfl, rfl, rfl, rfl, rfl, rfl, trivial⟩ ?_
          refine eo_then ?_
          refine cw_true rfl ?_
          refine cw_seq ?_
          refine cw_keep [(0, .slice A n cap), (1, .slice D n cd), (5, .int .i64 ((j : Nat) : Int)), (19, .int .i64 ((j : Nat) : Int)), (20, .bool true), (23, .slice A n cap), (24, .int .i64 ((j : Nat) : Int)), (25, .pointer (some p9)), (26, .int .u64 (((db 4294967296 (X)).getD j 0 : Nat) : Int)), (27, .slice D n cd), (28, .int .i64 ((j : Nat) : Int)), (29, .pointer (some p10)), (30, .int .u64 (((db 4294967296 (Y)).getD j 0 : Nat) : Int)), (31, .bool true)] ⟨rfl, rfl, rfl, rfl, rfl, rfl, rfl, rfl, rfl, rfl, rfl, rfl, rfl, rfl, trivial⟩ ?_
          obtain ⟨v11, hv, e12⟩ : ∃ v, v = v7.drew ∧ Ext v7 v := ⟨_, rfl, (Ext.refl _).drew⟩
          have hw3 : Ext w v11 := hw2.trans e12
          refine cw_det mix (w := v11) [.slice A n cap, .int .i64 ((j : Nat) : Int), .pointer (some p9), .int .u64 (((db 4294967296 (X)).getD j 0 : Nat) : Int), .slice D n cd, .int .i64 ((j : Nat) : Int), .pointer (some p10), .int .u64 (((db 4294967296 (Y)).getD j 0 : Nat) : Int), .bool false, .bool false] [v11] [] [[], [], [0, 1], [2], [], [], [4, 5], [6], [3, 7], [8]] [[], [], [0, 1], [0, 1, 2], [], [], [4, 5], [4, 5, 6], [0, 1, 2, 3, 4, 5, 6, 7], [0, 1, 2, 3, 4, 5, 6, 7, 8]] [(0, 0), (1, 0), (2, 0), (3, 0), (4, 0), (5, 0), (6, 0), (7, 0), (8, 0), (9, 0)] rfl hv ?_ ?_
          ·
            refine dobs_val _ rfl rfl rfl rfl rfl (rd_move rfl) ?_
            refine dobs_val _ rfl rfl rfl rfl rfl (rd_move rfl) ?_
            refine dobs_val _ rfl rfl rfl rfl rfl (rd_idx rfl rfl un_u64 sz_u64 j rfl (by omega) p9 hp9) ?_
            refine dobs_val _ rfl rfl rfl rfl rfl (rd_load rfl (load_cell1 ag_u64 (e12.cell hc9))) ?_
            refine dobs_val _ rfl rfl rfl rfl rfl (rd_move rfl) ?_
            refine dobs_val _ rfl rfl rfl rfl rfl (rd_move rfl) ?_
            refine dobs_val _ rfl rfl rfl rfl rfl (rd_idx rfl rfl un_u64 sz_u64 j rfl (by omega) p10 hp10) ?_
            refine dobs_val _ rfl rfl rfl rfl rfl (rd_load rfl (load_cell1 ag_u64 (e12.cell hc10))) ?_
            refine dobs_val _ rfl rfl rfl rfl rfl (rd_cmp rfl rfl false (cb_lt_f (a := (db 4294967296 (X)).getD j 0) (b := (db 4294967296 (Y)).getD j 0) rfl rfl (by omega))) ?_
            refine dobs_val _ rfl rfl rfl rfl rfl (rd_assign rfl) ?_
            exact dobs_nil
          clear hv
          refine eo_keep [(0, .slice A n cap), (1, .slice D n cd), (5, .int .i64 ((j : Nat) : Int)), (19, .int .i64 ((j : Nat) : Int)), (20, .bool true), (23, .slice A n cap), (24, .int .i64 ((j : Nat) : Int)), (25, .pointer (some p9)), (26, .int .u64 (((db 4294967296 (X)).getD j 0 : Nat) : Int)), (27, .slice D n cd), (28, .int .i64 ((j : Nat) : Int)), (29, .pointer (some p10)), (30, .int .u64 (((db 4294967296 (Y)).getD j 0 : Nat) : Int)), (31, .bool true), (32, .slice A n cap), (33, .int .i64 ((j : Nat) : Int)), (34, .pointer (some p9)), (35, .int .u64 (((db 4294967296 (X)).getD j 0 : Nat) : Int)), (36, .slice D n cd), (37, .int .i64 ((j : Nat) : Int)), (38, .pointer (some p10)), (39, .int .u64 (((db 4294967296 (Y)).getD j 0 : Nat) : Int)), (40, .bool false), (4, .bool false)] ⟨rfl, rfl, rfl, rfl, rfl, rfl, rfl, rfl, rfl, rfl, rfl, rfl, rfl, rfl, rfl, rfl, rfl, rfl, rfl, rfl, rfl, rfl, rfl, rfl, trivial⟩ ?_
          refine eo_then ?_
          refine cw_ret ?_
          refine eo_block_ret ?_
          refine eo_thenR ?_
          refine eo_loopR ?_
          refine eo_block_ret ?_
          refine eo_thenR ?_
          refine eo_ret [.bool false] rfl ⟨rfl, trivial⟩ ?_
          have hR : ¬ X < Y := bl_gt hlen hle2 hwx hwe (by omega) hv hlt hdd |> fun h => by rwa [nb_db b32, nb_db b32] at h
          exact ⟨_, rfl, (by rw [decide_eq_false hR]; rfl), hw3⟩
      ·
        refine cw_keep [(0, .slice A n cap), (1, .slice D n cd), (5, .int .i64 ((j : Nat) : Int)), (19, .int .i64 ((j : Nat) : Int)), (20, .bool true)] ⟨rfl, rfl, rfl, rfl, rfl, trivial⟩ ?_
        obtain ⟨v13, hv, e14⟩ : ∃ v, v = wr.drew ∧ Ext wr v := ⟨_, rfl, (Ext.refl _).drew⟩
        have hw2 : Ext w v13 := hw1.trans e14
        obtain ⟨p15, hp15, hc15, hv15⟩ := ((rl0.ext e14)).at (i := j) (by omega)
        obtain ⟨p16, hp16, hc16, hv16⟩ := ((rl1.ext e14)).at (i := j) (by omega)
        refine cw_det mix (w := v13) [.slice A n cap, .int .i64 ((j : Nat) : Int), .pointer (some p15), .int .u64 (((db 4294967296 (X)).getD j 0 : Nat) : Int), .slice D n cd, .int .i64 ((j : Nat) : Int), .pointer (some p16), .int .u64 (((db 4294967296 (Y)).getD j 0 : Nat) : Int), .bool false] [v13] [] [[], [], [0, 1], [2], [], [], [4, 5], [6], [3, 7]] [[], [], [0, 1], [0, 1, 2], [], [], [4, 5], [4, 5, 6], [0, 1, 2, 3, 4, 5, 6, 7]] [(0, 0), (1, 0), (2, 0), (3, 0), (4, 0), (5, 0), (6, 0), (7, 0), (8, 0)] rfl hv ?_ ?_
        ·
          refine dobs_val _ rfl rfl rfl rfl rfl (rd_move rfl) ?_
          refine dobs_val _ rfl rfl rfl rfl rfl (rd_move rfl) ?_
          refine dobs_val _ rfl rfl rfl rfl rfl (rd_idx rfl rfl un_u64 sz_u64 j rfl (by omega) p15 hp15) ?_
          refine dobs_val _ rfl rfl rfl rfl rfl (rd_load rfl (load_cell1 ag_u64 hc15)) ?_
          refine dobs_val _ rfl rfl rfl rfl rfl (rd_move rfl) ?_
          refine dobs_val _ rfl rfl rfl rfl rfl (rd_move rfl) ?_
          refine dobs_val _ rfl rfl rfl rfl rfl (rd_idx rfl rfl un_u64 sz_u64 j rfl (by omega) p16 hp16) ?_
          refine dobs_val _ rfl rfl rfl rfl rfl (rd_load rfl (load_cell1 ag_u64 hc16)) ?_
          refine dobs_val _ rfl rfl rfl rfl rfl (rd_cmp rfl rfl false (cb_ne_f (a := (db 4294967296 (X)).getD j 0) (b := (db 4294967296 (Y)).getD j 0) rfl rfl (by omega))) ?_
          exact dobs_nil
        clear hv
        refine eo_keep [(0, .slice A n cap), (1, .slice D n cd), (5, .int .i64 ((j : Nat) : Int)), (19, .int .i64 ((j : Nat) : Int)), (20, .bool true), (23, .slice A n cap), (24, .int .i64 ((j : Nat) : Int)), (25, .pointer (some p15)), (26, .int .u64 (((db 4294967296 (X)).getD j 0 : Nat) : Int)), (27, .slice D n cd), (28, .int .i64 ((j : Nat) : Int)), (29, .pointer (some p16)), (30, .int .u64 (((db 4294967296 (Y)).getD j 0 : Nat) : Int)), (31, .bool false)] ⟨rfl, rfl, rfl, rfl, rfl, rfl, rfl, rfl, rfl, rfl, rfl, rfl, rfl, rfl, trivial⟩ ?_
        refine eo_then ?_
        refine cw_false rfl ?_
        refine cw_skip ?_
        refine eo_block_normal ?_
        refine eo_then ?_
        refine cw_region ?_
        refine wl_move rfl rfl (by decide) ?_
        refine wl_ar rfl rfl rfl (((j : Nat) : Int) - 1) (ar_i64s rfl (by omega) (by omega)) (by decide) ?_
        refine wl_assign rfl rfl (by decide) ?_
        refine wl_nil ?_
        refine eo_round (⟨v13, j, _⟩ : World × Nat × Int) ⟨hw2, (by omega), rfl, bl_step hlen hle2 (by omega) hv (by omega), (rl0.ext e14), (rl1.ext e14)⟩ (show j < j + 1 by omega) rfl ⟨rfl, rfl, rfl, trivial⟩
    ·
      obtain rfl : k = 0 := by omega
      refine cw_region ?_
      refine wl_move rfl rfl (by decide) ?_
      refine wl_cmp rfl rfl rfl false (ge_f (by omega)) (by decide) ?_
      refine wl_nil ?_
      refine eo_then ?_
      refine cw_false rfl ?_
      refine cw_exit ?_
      refine eo_thenX ?_
      refine eo_loopX ?_
      refine eo_block_here ?_
      refine eo_then ?_
      refine cw_seq ?_
      refine cw_region ?_
      refine wl_assign rfl rfl (by decide) ?_
      refine wl_nil ?_
      refine eo_then ?_
      refine cw_ret ?_
      refine eo_ret [.bool false] rfl ⟨rfl, trivial⟩ ?_
      have hXY : ¬ X < Y := by have h1 := nb_db b32 X; have h2 := nb_db b32 Y; rw [List.drop_zero, List.drop_zero, h1, h2] at hv; omega
      have hR : ¬ X < Y := hXY
      exact ⟨_, rfl, (by rw [decide_eq_false hR]; rfl), hw1⟩
/-- r times 4, and q -/
def PK (g N q : Nat) (l : List Nat) (w : World) (e : Ending) (w' : World) : Prop :=
  e = .returned (.tuple #[]) ∧ Upd g w w' ∧ ∃ l', Bk w' g 23 (l'.map W64) ∧ l'.length = N ∧ Wfb 4294967296 l' ∧ nb 4294967296 l' = nb 4294967296 l * 4 + q
theorem push_step {b c x d d' q i : Nat} {l l' : List Nat} (h : nb b (l'.take i) + b ^ i * c = nb b (l.take i) * 4 + q) (hi : i < l'.length) (hi2 : i < l.length) (hx : l.getD i 0 = x) (hd : d + b * d' = x * 4 + c) :
    nb b ((l'.set i d).take (i + 1)) + b ^ (i + 1) * d' = nb b (l.take (i + 1)) * 4 + q := by
  rw [nb_set_snoc b hi, nb_take_snoc b l i hi2, hx, Nat.pow_succ, Nat.mul_assoc, Nat.add_assoc, ← Nat.mul_add, hd, Nat.mul_add, Nat.add_mul]
  have e : b ^ i * (x * 4) = b ^ i * x * 4 := by rw [Nat.mul_assoc]
  omega
theorem push_same {l l' : List Nat} {i d : Nat} (h : ∀ j, i ≤ j → l'.getD j 0 = l.getD j 0) : ∀ j, i + 1 ≤ j → (l'.set i d).getD j 0 = l.getD j 0 := fun j hj => by rw [getD_set_ne (by omega), h j (by omega)]
theorem push_done {l l' : List Nat} {N c q : Nat} (hl : l.length = N) (hl' : l'.length = N) (h : nb 4294967296 (l'.take N) + 4294967296 ^ N * c = nb 4294967296 (l.take N) * 4 + q) (hb : nb 4294967296 l * 4 + q < 4294967296 ^ N) : nb 4294967296 l' = nb 4294967296 l * 4 + q := by
  rw [List.take_of_length_le (by omega), List.take_of_length_le (by omega)] at h
  have hc : c = 0 := by
    refine Nat.eq_zero_of_not_pos fun hp => ?_
    have h3 : 4294967296 ^ N * 1 ≤ 4294967296 ^ N * c := Nat.mul_le_mul_left _ hp
    omega
  rw [hc, Nat.mul_zero, Nat.add_zero] at h
  exact h
set_option maxHeartbeats 4000000 in
theorem ref3_push {w : World} {g N q : Nat} {l : List Nat} (hb0 : Bk w g 23 (l.map W64)) (hl0 : l.length = N) (hN : N ≤ 1099511627776) (hwl : Wfb 4294967296 l) (hq : q ≤ 3) (hfit : nb 4294967296 l * 4 + q < 4294967296 ^ N) :
    Calls Try.prog 85 #[.slice (some ⟨g, 0, none⟩) N N, .int .u64 ((q : Nat) : Int)] w (PK g N q l w) := by
  refine sx_enter Try.func85 rfl (n := 28) rfl (Nat.le_of_ble_eq_true rfl) (args := [.slice (some ⟨g, 0, none⟩) N N, .int .u64 ((q : Nat) : Int)]) ?_
  refine cw_keep [(0, .slice (some ⟨g, 0, none⟩) N N), (1, .int .u64 ((q : Nat) : Int))] ⟨rfl, rfl, trivial⟩ ?_
  refine cw_seq ?_
  refine cw_region ?_
  refine wl_move rfl rfl (by decide) ?_
  refine wl_assign rfl rfl (by decide) ?_
  refine wl_nil ?_
  refine eo_then ?_
  refine cw_seq ?_
  refine cw_region ?_
  refine wl_assign rfl rfl (by decide) ?_
  refine wl_nil ?_
  refine eo_then ?_
  refine cw_block ?_
  refine cw_loop (T := World × Nat × Nat × List Nat)
    (fun ⟨wr, i, c, l'⟩ => [(0, .slice (some ⟨g, 0, none⟩) N N), (4, .int .u64 ((c : Nat) : Int)), (5, .int .i64 ((i : Nat) : Int))])
    (fun ⟨wr, i, c, l'⟩ => wr)
    (fun ⟨wr, i, c, l'⟩ => (Upd g w wr) ∧ (i ≤ N) ∧ (c ≤ 3) ∧ (Bk wr g 23 (l'.map W64)) ∧ (l'.length = N) ∧ (Wfb 4294967296 l') ∧ (∀ j, i ≤ j → l'.getD j 0 = l.getD j 0) ∧ (nb 4294967296 (l'.take i) + 4294967296 ^ i * c = nb 4294967296 (l.take i) * 4 + q))
    (fun ⟨wr, i, c, l'⟩ => N - i)
    (⟨w, 0, q, l⟩ : World × Nat × Nat × List Nat) ⟨Upd.refl g w, (Nat.zero_le _), (by omega), hb0, hl0, hwl, (fun _ _ => rfl), (by simp [nb])⟩ rfl ⟨rfl, rfl, rfl, trivial⟩ ?_
  rintro ⟨wr, i, c, l'⟩ ⟨hu, hi, hc, hb, hl, hwf, hsm, hv⟩
  refine cw_re [(0, .slice (some ⟨g, 0, none⟩) N N), (4, .int .u64 ((c : Nat) : Int)), (5, .int .i64 ((i : Nat) : Int))] wr rfl ⟨rfl, rfl, rfl, trivial⟩ ?_
  refine cw_seq ?_
  refine cw_seq ?_
  by_cases hin : i < N
  ·
    refine cw_region ?_
    refine wl_move rfl rfl (by decide) ?_
    refine wl_move rfl rfl (by decide) ?_
    refine wl_pure rfl rfl (v := .int .i64 ((N : Nat) : Int)) (by decide) (by kernel_rfl) ?_
    refine wl_cmp rfl rfl rfl true (cb_lt_t (a := i) (b := N) rfl rfl (by omega)) (by decide) ?_
    refine wl_nil ?_
    refine eo_then ?_
    refine cw_true rfl ?_
    refine cw_skip ?_
    refine eo_then ?_
    refine cw_seq ?_
    refine cw_block ?_
    refine cw_seq ?_
    have hd := Wfb_getD (b := 4294967296) (by decide) hwf i
    refine cw_region ?_
    refine wl_move rfl rfl (by decide) ?_
    refine wl_move rfl rfl (by decide) ?_
    refine wl_idx rfl rfl rfl un_u64 sz_u64 i rfl (by omega) ⟨g, i, none⟩ (arr_at _ _) (by decide) ?_
    refine wl_load rfl rfl (load_word ag_u64 hb (by rw [hl]; omega)) (by decide) ?_
    refine wl_ar rfl rfl rfl (((l'.getD i 0) * 4 : Nat) : Int) (au_mul (a := l'.getD i 0) (b := 4) rfl rfl (by omega)) (by decide) ?_
    refine wl_move rfl rfl (by decide) ?_
    refine wl_ar rfl rfl rfl ((((l'.getD i 0) * 4) + c : Nat) : Int) (au_add (a := (l'.getD i 0) * 4) (b := c) rfl rfl (by omega)) (by decide) ?_
    refine wl_assign rfl rfl (by decide) ?_
    refine wl_nil ?_
    refine eo_then ?_
    refine cw_seq ?_
    refine cw_region ?_
    refine wl_move rfl rfl (by decide) ?_
    refine wl_move rfl rfl (by decide) ?_
    refine wl_move rfl rfl (by decide) ?_
    refine wl_ar rfl rfl rfl (((((l'.getD i 0) * 4) + c) % 4294967296 : Nat) : Int) (au_rem (a := ((l'.getD i 0) * 4) + c) (b := 4294967296) rfl rfl (by omega)) (by decide) ?_
    refine wl_idx rfl rfl rfl un_u64 sz_u64 i rfl (by omega) ⟨g, i, none⟩ (arr_at _ _) (by decide) ?_
    have hb2 := hb
    refine wl_stored1 rfl rfl rfl sz_u64 rfl hb2 (len_map (by rw [hl]; omega)) rfl ((l'.set i ((((l'.getD i 0) * 4) + c) % 4294967296)).map W64) (map_W64_set _ _ _) fun v1 hb3 u4 hs5 => ?_
    refine wl_nil ?_
    refine eo_then ?_
    refine cw_region ?_
    refine wl_move rfl rfl (by decide) ?_
    refine wl_ar rfl rfl rfl (((((l'.getD i 0) * 4) + c) / 4294967296 : Nat) : Int) (au_quo (a := ((l'.getD i 0) * 4) + c) (b := 4294967296) rfl rfl (by omega) (by omega)) (by decide) ?_
    refine wl_assign rfl rfl (by decide) ?_
    refine wl_nil ?_
    refine eo_block_normal ?_
    refine eo_then ?_
    refine cw_region ?_
    refine wl_move rfl rfl (by decide) ?_
    refine wl_ar rfl rfl rfl ((i + 1 : Nat) : Int) (ai_add (a := i) (b := 1) rfl rfl (by omega)) (by decide) ?_
    refine wl_assign rfl rfl (by decide) ?_
    refine wl_nil ?_
    refine eo_round (⟨v1, i + 1, _, _⟩ : World × Nat × Nat × List Nat) ⟨hu.trans u4, (by omega), (by omega), hb3, (len_set (l := l') (hl)), Wfb_set hwf _ (Nat.mod_lt _ (by decide)), (push_same hsm), (push_step hv (by omega) (by omega) (hsm i (Nat.le_refl _)).symm (Nat.mod_add_div _ _))⟩ (show N - (i + 1) < N - i by omega) rfl ⟨rfl, rfl, rfl, trivial⟩
  ·
    refine cw_region ?_
    refine wl_move rfl rfl (by decide) ?_
    refine wl_move rfl rfl (by decide) ?_
    refine wl_pure rfl rfl (v := .int .i64 ((N : Nat) : Int)) (by decide) (by kernel_rfl) ?_
    refine wl_cmp rfl rfl rfl false (cb_lt_f (a := i) (b := N) rfl rfl (by omega)) (by decide) ?_
    refine wl_nil ?_
    refine eo_then ?_
    refine cw_false rfl ?_
    refine cw_exit ?_
    refine eo_thenX ?_
    refine eo_loopX ?_
    refine eo_block_here ?_
    refine eo_end [] rfl trivial ?_
    obtain rfl : i = N := by omega
    exact ⟨rfl, hu, l', hb, hl, hwf, push_done hl0 hl hv hfit⟩
theorem times_in {b P c x y t d d' i j : Nat} {l es : List Nat} (h : nb b l + b ^ (i + j) * c = P + x * nb b (es.take j) * b ^ i) (hk : i + j < l.length) (hj : j < es.length) (hy : es.getD j 0 = y) (ht : l.getD (i + j) 0 = t) (hd : d + b * d' = x * y + t + c) :
    nb b (l.set (i + j) d) + b ^ (i + (j + 1)) * d' = P + x * nb b (es.take (j + 1)) * b ^ i := by
  have h1 := nb_set b hk d
  rw [ht] at h1
  have e1 : x * nb b (es.take (j + 1)) * b ^ i = x * nb b (es.take j) * b ^ i + b ^ (i + j) * (x * y) := by
    rw [nb_take_snoc b es j hj, hy, Nat.mul_add, Nat.add_mul, Nat.pow_add]
    congr 1
    grind
  have e2 : b ^ (i + j) * (d + b * d') = b ^ (i + j) * (x * y + t + c) := by rw [hd]
  have e3 : b ^ (i + (j + 1)) * d' = b ^ (i + j) * (b * d') := by rw [← Nat.add_assoc, Nat.pow_succ, Nat.mul_assoc]
  simp only [Nat.mul_add] at e2
  rw [e1, e3]
  omega
theorem zero_set {l : List Nat} {i d k : Nat} (h : ∀ j, k ≤ j → l.getD j 0 = 0) (hi : i < k) : ∀ j, k ≤ j → (l.set i d).getD j 0 = 0 := fun j hj => by rw [getD_set_ne (by omega), h j hj]
theorem times_out {b P c x i m : Nat} {l es xs : List Nat} (h : nb b l + b ^ (i + m) * c = P * nb b es + x * nb b (es.take m) * b ^ i) (hk : i + m < l.length) (hm : es.length = m) (hi : i < xs.length) (hx : xs.getD i 0 = x) (hP : P = nb b (xs.take i)) (hz : l.getD (i + m) 0 = 0) :
    nb b (l.set (i + m) c) = nb b (xs.take (i + 1)) * nb b es := by
  have h1 := nb_set b hk c
  rw [hz, Nat.mul_zero, Nat.add_zero] at h1
  rw [h1, h, List.take_of_length_le (Nat.le_of_eq hm), nb_take_snoc b xs i hi, hx, hP, Nat.add_mul]
  congr 1
  grind
set_option maxHeartbeats 4000000 in
theorem ref3_timesL {w : World} {A D : Option Addr} {n cap m cd : Nat} {xs es : List Nat} (hx : Rd w A n cap xs) (hln : n ≤ 274877906944) (hy : Rd w D m cd es) (hlm : m ≤ 274877906944) (hwx : Wfb 4294967296 xs) (hwe : Wfb 4294967296 es) :
    Calls Try.prog 89 #[.slice A n cap, .slice D m cd] w (Gv w (WD (nb 4294967296 xs * nb 4294967296 es))) := by
  have hlen := hx.len
  have hle2 := hy.len
  refine sx_enter Try.func89 rfl (n := 64) rfl (Nat.le_of_ble_eq_true rfl) (args := [.slice A n cap, .slice D m cd]) ?_
  refine cw_keep [(0, .slice A n cap), (1, .slice D m cd)] ⟨rfl, rfl, trivial⟩ ?_
  refine cw_seq ?_
  refine cw_region ?_
  refine wl_assign rfl rfl (by decide) ?_
  refine wl_nil ?_
  refine eo_then ?_
  refine cw_seq ?_
  refine cw_region ?_
  refine wl_move rfl rfl (by decide) ?_
  refine wl_pure rfl rfl (v := .int .i64 ((n : Nat) : Int)) (by decide) (by kernel_rfl) ?_
  refine wl_move rfl rfl (by decide) ?_
  refine wl_pure rfl rfl (v := .int .i64 ((m : Nat) : Int)) (by decide) (by kernel_rfl) ?_
  refine wl_ar rfl rfl rfl ((n + m : Nat) : Int) (ai_add (a := n) (b := m) rfl rfl (by omega)) (by decide) ?_
  refine wl_make rfl (k := n + m) rfl rfl rfl un_u64 info64 rfl (by decide) (by omega) (by decide) fun g1 v2 hg3 hb4 e5 => ?_
  rw [replicate_W64] at hb4
  have ge6 : w.heap.size ≤ g1 := by rw [← hg3]; exact (Ext.refl w).size
  have ne8 : 0 < cap → ∀ a, A = some a → a.block ≠ g1 := fun hc a ha => by have := (hx).rv.blk a ha hc; omega
  have ne9 : 0 < cd → ∀ a, D = some a → a.block ≠ g1 := fun hc a ha => by have := (hy).rv.blk a ha hc; omega
  clear hg3
  have hw1 : Ext w v2 := (Ext.refl w).trans e5
  refine wl_assign rfl rfl (by decide) ?_
  refine wl_nil ?_
  refine eo_then ?_
  refine cw_seq ?_
  refine cw_seq ?_
  refine cw_region ?_
  refine wl_assign rfl rfl (by decide) ?_
  refine wl_nil ?_
  refine eo_then ?_
  refine cw_block ?_
  refine cw_loop (T := World × Nat × List Nat)
    (fun ⟨wr, i, l⟩ => [(0, .slice A n cap), (1, .slice D m cd), (5, .slice (some ⟨g1, 0, none⟩) (n + m) (n + m)), (6, .int .i64 ((i : Nat) : Int))])
    (fun ⟨wr, i, l⟩ => wr)
    (fun ⟨wr, i, l⟩ => (Ext w wr) ∧ (i ≤ n) ∧ (Bk wr g1 23 (l.map W64)) ∧ (l.length = n + m) ∧ (Wfb 4294967296 l) ∧ (∀ j, i + m ≤ j → l.getD j 0 = 0) ∧ (nb 4294967296 l = nb 4294967296 (xs.take i) * nb 4294967296 es) ∧ (Rd wr A n cap xs) ∧ (Rd wr D m cd es))
    (fun ⟨wr, i, l⟩ => n - i)
    (⟨v2, 0, _⟩ : World × Nat × List Nat) ⟨hw1, (Nat.zero_le _), hb4, (List.length_replicate (n := n + m) (a := 0)), (Wfb_zeros (by decide) _), (fun j _ => getD_zeros _ j), (by rw [List.take_zero, nb_nil, nb_zeros, Nat.zero_mul]), (hx.ext e5), (hy.ext e5)⟩ rfl ⟨rfl, rfl, rfl, rfl, trivial⟩ ?_
  rintro ⟨wr, i, l⟩ ⟨hw1, hi, hb, hl, hwf, hz, hv, rl0, rl1⟩
  refine cw_re [(0, .slice A n cap), (1, .slice D m cd), (5, .slice (some ⟨g1, 0, none⟩) (n + m) (n + m)), (6, .int .i64 ((i : Nat) : Int))] wr rfl ⟨rfl, rfl, rfl, rfl, trivial⟩ ?_
  refine cw_seq ?_
  refine cw_seq ?_
  by_cases hin : i < n
  ·
    refine cw_region ?_
    refine wl_move rfl rfl (by decide) ?_
    refine wl_move rfl rfl (by decide) ?_
    refine wl_pure rfl rfl (v := .int .i64 ((n : Nat) : Int)) (by decide) (by kernel_rfl) ?_
    refine wl_cmp rfl rfl rfl true (cb_lt_t (a := i) (b := n) rfl rfl (by omega)) (by decide) ?_
    refine wl_nil ?_
    refine eo_then ?_
    refine cw_true rfl ?_
    refine cw_skip ?_
    refine eo_then ?_
    refine cw_seq ?_
    refine cw_block ?_
    refine cw_seq ?_
    refine cw_region ?_
    refine wl_assign rfl rfl (by decide) ?_
    refine wl_nil ?_
    refine eo_then ?_
    refine cw_seq ?_
    refine cw_seq ?_
    refine cw_region ?_
    refine wl_assign rfl rfl (by decide) ?_
    refine wl_nil ?_
    refine eo_then ?_
    refine cw_block ?_
    refine cw_loop (T := World × Nat × Nat × List Nat)
      (fun ⟨wr2, j, c, l2⟩ => [(0, .slice A n cap), (1, .slice D m cd), (5, .slice (some ⟨g1, 0, none⟩) (n + m) (n + m)), (6, .int .i64 ((i : Nat) : Int)), (7, .int .u64 ((c : Nat) : Int)), (8, .int .i64 ((j : Nat) : Int))])
      (fun ⟨wr2, j, c, l2⟩ => wr2)
      (fun ⟨wr2, j, c, l2⟩ => (Ext w wr2) ∧ (j ≤ m) ∧ (c ≤ 4294967295) ∧ (Bk wr2 g1 23 (l2.map W64)) ∧ (l2.length = n + m) ∧ (Wfb 4294967296 l2) ∧ (∀ q, i + m ≤ q → l2.getD q 0 = 0) ∧ (nb 4294967296 l2 + 4294967296 ^ (i + j) * c = nb 4294967296 (xs.take i) * nb 4294967296 es + xs.getD i 0 * nb 4294967296 (es.take j) * 4294967296 ^ i) ∧ (Rd wr2 A n cap xs) ∧ (Rd wr2 D m cd es))
      (fun ⟨wr2, j, c, l2⟩ => m - j)
      (⟨wr, 0, 0, _⟩ : World × Nat × Nat × List Nat) ⟨hw1, (Nat.zero_le _), (Nat.zero_le _), hb, hl, hwf, hz, (by rw [hv, List.take_zero, nb_nil, Nat.mul_zero, Nat.mul_zero, Nat.zero_mul]), rl0, rl1⟩ rfl ⟨rfl, rfl, rfl, rfl, rfl, rfl, trivial⟩ ?_
    rintro ⟨wr2, j, c, l2⟩ ⟨hw1, hj, hc, hb2, hl2, hwf2, hz2, hv2, rl0, rl1⟩
    refine cw_re [(0, .slice A n cap), (1, .slice D m cd), (5, .slice (some ⟨g1, 0, none⟩) (n + m) (n + m)), (6, .int .i64 ((i : Nat) : Int)), (7, .int .u64 ((c : Nat) : Int)), (8, .int .i64 ((j : Nat) : Int))] wr2 rfl ⟨rfl, rfl, rfl, rfl, rfl, rfl, trivial⟩ ?_
    refine cw_seq ?_
    refine cw_seq ?_
    by_cases hjm : j < m
    ·
      refine cw_region ?_
      refine wl_move rfl rfl (by decide) ?_
      refine wl_move rfl rfl (by decide) ?_
      refine wl_pure rfl rfl (v := .int .i64 ((m : Nat) : Int)) (by decide) (by kernel_rfl) ?_
      refine wl_cmp rfl rfl rfl true (cb_lt_t (a := j) (b := m) rfl rfl (by omega)) (by decide) ?_
      refine wl_nil ?_
      refine eo_then ?_
      refine cw_true rfl ?_
      refine cw_skip ?_
      refine eo_then ?_
      refine cw_seq ?_
      refine cw_block ?_
      refine cw_seq ?_
      have hxb := Wfb_getD (b := 4294967296) (by decide) hwx i
      have hyb := Wfb_getD (b := 4294967296) (by decide) hwe j
      have hlb := Wfb_getD (b := 4294967296) (by decide) hwf2 (i + j)
      have hm : (xs.getD i 0) * (es.getD j 0) ≤ 4294967295 * 4294967295 := Nat.mul_le_mul (by omega) (by omega)
      refine cw_keep [(0, .slice A n cap), (1, .slice D m cd), (5, .slice (some ⟨g1, 0, none⟩) (n + m) (n + m)), (6, .int .i64 ((i : Nat) : Int)), (7, .int .u64 ((c : Nat) : Int)), (8, .int .i64 ((j : Nat) : Int)), (22, .int .i64 ((j : Nat) : Int)), (23, .slice D m cd), (24, .int .i64 ((m : Nat) : Int)), (25, .bool true)] ⟨rfl, rfl, rfl, rfl, rfl, rfl, rfl, rfl, rfl, rfl, trivial⟩ ?_
      obtain ⟨v10, hv, e11⟩ : ∃ v, v = wr2.drew ∧ Ext wr2 v := ⟨_, rfl, (Ext.refl _).drew⟩
      have hw2 : Ext w v10 := hw1.trans e11
      obtain ⟨p12, hp12, hc12, hv12⟩ := ((rl0.ext e11)).at (i := i) (by omega)
      obtain ⟨p13, hp13, hc13, hv13⟩ := ((rl1.ext e11)).at (i := j) (by omega)
      refine cw_det mix (w := v10) [.slice A n cap, .int .i64 ((i : Nat) : Int), .pointer (some p12), .int .u64 ((xs.getD i 0 : Nat) : Int), .slice D m cd, .int .i64 ((j : Nat) : Int), .pointer (some p13), .int .u64 ((es.getD j 0 : Nat) : Int), .int .u64 (((xs.getD i 0) * (es.getD j 0) : Nat) : Int), .slice (some ⟨g1, 0, none⟩) (n + m) (n + m), .int .i64 ((i : Nat) : Int), .int .i64 ((j : Nat) : Int), .int .i64 ((i + j : Nat) : Int), .pointer (some (⟨g1, i + j, none⟩)), .int .u64 ((l2.getD (i + j) 0 : Nat) : Int), .int .u64 ((((xs.getD i 0) * (es.getD j 0)) + (l2.getD (i + j) 0) : Nat) : Int), .int .u64 ((c : Nat) : Int), .int .u64 (((((xs.getD i 0) * (es.getD j 0)) + (l2.getD (i + j) 0)) + c : Nat) : Int), .int .u64 (((((xs.getD i 0) * (es.getD j 0)) + (l2.getD (i + j) 0)) + c : Nat) : Int)] [v10] [] [[], [], [0, 1], [2], [], [], [4, 5], [6], [3, 7], [], [], [], [10, 11], [9, 12], [13], [8, 14], [], [15, 16], [17]] [[], [], [0, 1], [0, 1, 2], [], [], [4, 5], [4, 5, 6], [0, 1, 2, 3, 4, 5, 6, 7], [], [], [], [10, 11], [9, 10, 11, 12], [9, 10, 11, 12, 13], [0, 1, 2, 3, 4, 5, 6, 7, 8, 9, 10, 11, 12, 13, 14], [], [0, 1, 2, 3, 4, 5, 6, 7, 8, 9, 10, 11, 12, 13, 14, 15, 16], [0, 1, 2, 3, 4, 5, 6, 7, 8, 9, 10, 11, 12, 13, 14, 15, 16, 17]] [(0, 0), (1, 0), (2, 0), (3, 0), (4, 0), (5, 0), (6, 0), (7, 0), (8, 0), (9, 0), (10, 0), (11, 0), (12, 0), (13, 0), (14, 0), (15, 0), (16, 0), (17, 0), (18, 0)] rfl hv ?_ ?_
      ·
        refine dobs_val _ rfl rfl rfl rfl rfl (rd_move rfl) ?_
        refine dobs_val _ rfl rfl rfl rfl rfl (rd_move rfl) ?_
        refine dobs_val _ rfl rfl rfl rfl rfl (rd_idx rfl rfl un_u64 sz_u64 i rfl (by omega) p12 hp12) ?_
        refine dobs_val _ rfl rfl rfl rfl rfl (rd_load rfl (load_cell1 ag_u64 hc12)) ?_
        refine dobs_val _ rfl rfl rfl rfl rfl (rd_move rfl) ?_
        refine dobs_val _ rfl rfl rfl rfl rfl (rd_move rfl) ?_
        refine dobs_val _ rfl rfl rfl rfl rfl (rd_idx rfl rfl un_u64 sz_u64 j rfl (by omega) p13 hp13) ?_
        refine dobs_val _ rfl rfl rfl rfl rfl (rd_load rfl (load_cell1 ag_u64 hc13)) ?_
        refine dobs_val _ rfl rfl rfl rfl rfl (rd_ar rfl rfl (((xs.getD i 0) * (es.getD j 0) : Nat) : Int) (au_mul (a := xs.getD i 0) (b := es.getD j 0) rfl rfl (by omega))) ?_
        refine dobs_val _ rfl rfl rfl rfl rfl (rd_move rfl) ?_
        refine dobs_val _ rfl rfl rfl rfl rfl (rd_move rfl) ?_
        refine dobs_val _ rfl rfl rfl rfl rfl (rd_move rfl) ?_
        refine dobs_val _ rfl rfl rfl rfl rfl (rd_ar rfl rfl ((i + j : Nat) : Int) (ai_add (a := i) (b := j) rfl rfl (by omega))) ?_
        refine dobs_val _ rfl rfl rfl rfl rfl (rd_idx rfl rfl un_u64 sz_u64 (i + j) rfl (by omega) ⟨g1, i + j, none⟩ (arr_at _ _)) ?_
        refine dobs_val _ rfl rfl rfl rfl rfl (rd_load rfl (load_word ag_u64 (hb2.ext e11) (by rw [hl2]; omega))) ?_
        refine dobs_val _ rfl rfl rfl rfl rfl (rd_ar rfl rfl ((((xs.getD i 0) * (es.getD j 0)) + (l2.getD (i + j) 0) : Nat) : Int) (au_add (a := (xs.getD i 0) * (es.getD j 0)) (b := l2.getD (i + j) 0) rfl rfl (by omega))) ?_
        refine dobs_val _ rfl rfl rfl rfl rfl (rd_move rfl) ?_
        refine dobs_val _ rfl rfl rfl rfl rfl (rd_ar rfl rfl (((((xs.getD i 0) * (es.getD j 0)) + (l2.getD (i + j) 0)) + c : Nat) : Int) (au_add (a := ((xs.getD i 0) * (es.getD j 0)) + (l2.getD (i + j) 0)) (b := c) rfl rfl (by omega))) ?_
        refine dobs_val _ rfl rfl rfl rfl rfl (rd_assign rfl) ?_
        exact dobs_nil
      clear hv
      refine eo_keep [(0, .slice A n cap), (1, .slice D m cd), (5, .slice (some ⟨g1, 0, none⟩) (n + m) (n + m)), (6, .int .i64 ((i : Nat) : Int)), (7, .int .u64 ((c : Nat) : Int)), (8, .int .i64 ((j : Nat) : Int)), (22, .int .i64 ((j : Nat) : Int)), (23, .slice D m cd), (24, .int .i64 ((m : Nat) : Int)), (25, .bool true), (28, .slice A n cap), (29, .int .i64 ((i : Nat) : Int)), (30, .pointer (some p12)), (31, .int .u64 ((xs.getD i 0 : Nat) : Int)), (32, .slice D m cd), (33, .int .i64 ((j : Nat) : Int)), (34, .pointer (some p13)), (35, .int .u64 ((es.getD j 0 : Nat) : Int)), (36, .int .u64 (((xs.getD i 0) * (es.getD j 0) : Nat) : Int)), (37, .slice (some ⟨g1, 0, none⟩) (n + m) (n + m)), (38, .int .i64 ((i : Nat) : Int)), (39, .int .i64 ((j : Nat) : Int)), (40, .int .i64 ((i + j : Nat) : Int)), (41, .pointer (some (⟨g1, i + j, none⟩))), (42, .int .u64 ((l2.getD (i + j) 0 : Nat) : Int)), (43, .int .u64 ((((xs.getD i 0) * (es.getD j 0)) + (l2.getD (i + j) 0) : Nat) : Int)), (44, .int .u64 ((c : Nat) : Int)), (45, .int .u64 (((((xs.getD i 0) * (es.getD j 0)) + (l2.getD (i + j) 0)) + c : Nat) : Int)), (9, .int .u64 (((((xs.getD i 0) * (es.getD j 0)) + (l2.getD (i + j) 0)) + c : Nat) : Int))] ⟨rfl, rfl, rfl, rfl, rfl, rfl, rfl, rfl, rfl, rfl, rfl, rfl, rfl, rfl, rfl, rfl, rfl, rfl, rfl, rfl, rfl, rfl, rfl, rfl, rfl, rfl, rfl, rfl, rfl, trivial⟩ ?_
      refine eo_then ?_
      refine cw_seq ?_
      refine cw_region ?_
      refine wl_move rfl rfl (by decide) ?_
      refine wl_move rfl rfl (by decide) ?_
      refine wl_move rfl rfl (by decide) ?_
      refine wl_ar rfl rfl rfl ((i + j : Nat) : Int) (ai_add (a := i) (b := j) rfl rfl (by omega)) (by decide) ?_
      refine wl_move rfl rfl (by decide) ?_
      refine wl_ar rfl rfl rfl ((((((xs.getD i 0) * (es.getD j 0)) + (l2.getD (i + j) 0)) + c) % 4294967296 : Nat) : Int) (au_rem (a := (((xs.getD i 0) * (es.getD j 0)) + (l2.getD (i + j) 0)) + c) (b := 4294967296) rfl rfl (by omega)) (by decide) ?_
      refine wl_idx rfl rfl rfl un_u64 sz_u64 (i + j) rfl (by omega) ⟨g1, i + j, none⟩ (arr_at _ _) (by decide) ?_
      have hb15 := (hb2.ext e11)
      refine wl_stored1 rfl rfl rfl sz_u64 rfl hb15 (len_map (by rw [hl2]; omega)) rfl ((l2.set (i + j) (((((xs.getD i 0) * (es.getD j 0)) + (l2.getD (i + j) 0)) + c) % 4294967296)).map W64) (map_W64_set _ _ _) fun v14 hb16 u17 hs18 => ?_
      have hw3 : Ext w v14 := u17.ext hw2 ge6
      refine wl_nil ?_
      refine eo_then ?_
      refine cw_region ?_
      refine wl_move rfl rfl (by decide) ?_
      refine wl_ar rfl rfl rfl ((((((xs.getD i 0) * (es.getD j 0)) + (l2.getD (i + j) 0)) + c) / 4294967296 : Nat) : Int) (au_quo (a := (((xs.getD i 0) * (es.getD j 0)) + (l2.getD (i + j) 0)) + c) (b := 4294967296) rfl rfl (by omega) (by omega)) (by decide) ?_
      refine wl_assign rfl rfl (by decide) ?_
      refine wl_nil ?_
      refine eo_block_normal ?_
      refine eo_then ?_
      refine cw_region ?_
      refine wl_move rfl rfl (by decide) ?_
      refine wl_ar rfl rfl rfl ((j + 1 : Nat) : Int) (ai_add (a := j) (b := 1) rfl rfl (by omega)) (by decide) ?_
      refine wl_assign rfl rfl (by decide) ?_
      refine wl_nil ?_
      refine eo_round (⟨v14, j + 1, _, _⟩ : World × Nat × Nat × List Nat) ⟨hw3, (by omega), (by omega), hb16, (len_set (l := l2) (hl2)), Wfb_set hwf2 _ (Nat.mod_lt _ (by decide)), (zero_set hz2 (by omega)), (times_in hv2 (by omega) (by omega) rfl rfl (Nat.mod_add_div _ _)), (Rd.updL (rl0.ext e11) u17 ne8), (Rd.updL (rl1.ext e11) u17 ne9)⟩ (show m - (j + 1) < m - j by omega) rfl ⟨rfl, rfl, rfl, rfl, rfl, rfl, trivial⟩
    ·
      have hjm2 : j = m := by omega
      rw [hjm2] at hv2
      refine cw_region ?_
      refine wl_move rfl rfl (by decide) ?_
      refine wl_move rfl rfl (by decide) ?_
      refine wl_pure rfl rfl (v := .int .i64 ((m : Nat) : Int)) (by decide) (by kernel_rfl) ?_
      refine wl_cmp rfl rfl rfl false (cb_lt_f (a := j) (b := m) rfl rfl (by omega)) (by decide) ?_
      refine wl_nil ?_
      refine eo_then ?_
      refine cw_false rfl ?_
      refine cw_exit ?_
      refine eo_thenX ?_
      refine eo_loopX ?_
      refine eo_block_here ?_
      refine eo_then ?_
      refine cw_region ?_
      refine wl_move rfl rfl (by decide) ?_
      refine wl_move rfl rfl (by decide) ?_
      refine wl_move rfl rfl (by decide) ?_
      refine wl_pure rfl rfl (v := .int .i64 ((m : Nat) : Int)) (by decide) (by kernel_rfl) ?_
      refine wl_ar rfl rfl rfl ((i + m : Nat) : Int) (ai_add (a := i) (b := m) rfl rfl (by omega)) (by decide) ?_
      refine wl_move rfl rfl (by decide) ?_
      refine wl_idx rfl rfl rfl un_u64 sz_u64 (i + m) rfl (by omega) ⟨g1, i + m, none⟩ (arr_at _ _) (by decide) ?_
      have hb20 := hb2
      refine wl_stored1 rfl rfl rfl sz_u64 rfl hb20 (len_map (by rw [hl2]; omega)) rfl ((l2.set (i + m) c).map W64) (map_W64_set _ _ _) fun v19 hb21 u22 hs23 => ?_
      have hw2 : Ext w v19 := u22.ext hw1 ge6
      refine wl_nil ?_
      refine eo_block_normal ?_
      refine eo_then ?_
      refine cw_region ?_
      refine wl_move rfl rfl (by decide) ?_
      refine wl_ar rfl rfl rfl ((i + 1 : Nat) : Int) (ai_add (a := i) (b := 1) rfl rfl (by omega)) (by decide) ?_
      refine wl_assign rfl rfl (by decide) ?_
      refine wl_nil ?_
      refine eo_round (⟨v19, i + 1, _⟩ : World × Nat × List Nat) ⟨hw2, (by omega), hb21, (len_set (l := l2) (hl2)), Wfb_set hwf2 _ (by omega), (zero_set (fun j hj => hz2 j (by omega)) (by omega)), (times_out hv2 (by omega) hle2 (by omega) rfl rfl (hz2 _ (Nat.le_refl _))), (Rd.updL rl0 u22 ne8), (Rd.updL rl1 u22 ne9)⟩ (show n - (i + 1) < n - i by omega) rfl ⟨rfl, rfl, rfl, rfl, trivial⟩
  ·
    refine cw_region ?_
    refine wl_move rfl rfl (by decide) ?_
    refine wl_move rfl rfl (by decide) ?_
    refine wl_pure rfl rfl (v := .int .i64 ((n : Nat) : Int)) (by decide) (by kernel_rfl) ?_
    refine wl_cmp rfl rfl rfl false (cb_lt_f (a := i) (b := n) rfl rfl (by omega)) (by decide) ?_
    refine wl_nil ?_
    refine eo_then ?_
    refine cw_false rfl ?_
    refine cw_exit ?_
    refine eo_thenX ?_
    refine eo_loopX ?_
    refine eo_block_here ?_
    refine eo_then ?_
    refine cw_seq ?_
    refine cw_region ?_
    refine wl_move rfl rfl (by decide) ?_
    refine wl_call rfl rfl (vs := [.slice (some ⟨g1, 0, none⟩) (n + m) (n + m)]) (by kernel_rfl) (by decide) (ref3_Trim (hb.rd0 hwf.wf hl (by omega)) (by omega)) ?_
    rintro _ v24 ⟨xr26, rfl, r26, e25⟩
    refine ret_intro ?_
    have hw2 : Ext w v24 := hw1.trans e25
    obtain ⟨k27, rfl, hk27, ht27, hv27⟩ := r26
    refine wl_assign rfl rfl (by decide) ?_
    refine wl_nil ?_
    refine eo_then ?_
    refine cw_ret ?_
    refine eo_ret [.slice (some ⟨g1, 0, none⟩) k27 (n + m)] rfl ⟨rfl, trivial⟩ ?_
    have hval : nb 4294967296 l = nb 4294967296 xs * nb 4294967296 es := by rw [hv, List.take_of_length_le (by omega)]
    have hr := ((hb.ext e25).rd0 hwf.wf hl (by omega)).trim hwf hk27 ht27 hv27
    rw [hval] at hr
    exact ⟨_, rfl, ⟨_, _, _, rfl, hr⟩, hw2⟩
theorem ref3_times {w : World} {A D : Option Addr} {n cap m cd X Y : Nat} (hx : Rd w A n cap (db 4294967296 X)) (hln : n ≤ 274877906944) (hy : Rd w D m cd (db 4294967296 Y)) (hlm : m ≤ 274877906944) :
    Calls Try.prog 89 #[.slice A n cap, .slice D m cd] w (Gv w (WD (X * Y))) := by
  have h := ref3_timesL hx hln hy hlm (Wfb_db b32 _) (Wfb_db b32 _)
  rwa [nb_db b32, nb_db b32] at h
set_option maxHeartbeats 4000000 in
theorem ref3_bitsOf {w : World} {A : Option Addr} {n cap : Nat} {xs : List Nat} (hx : Rd w A n cap xs) (hln : n ≤ 274877906944) (hwx : Wfb 4294967296 xs) (hbb : blen (nb 4294967296 xs) ≤ 35184372088864) :
    Calls Try.prog 90 #[.slice A n cap] w (Gv w (Is (.int .i64 ((blen (nb 4294967296 xs) : Nat) : Int)))) := by
  have hlen := hx.len
  have hle := hx.rv.le
  refine sx_enter Try.func90 rfl (n := 27) rfl (Nat.le_of_ble_eq_true rfl) (args := [.slice A n cap]) ?_
  refine cw_keep [(0, .slice A n cap)] ⟨rfl, trivial⟩ ?_
  refine cw_seq ?_
  refine cw_region ?_
  refine wl_assign rfl rfl (by decide) ?_
  refine wl_nil ?_
  refine eo_then ?_
  refine cw_seq ?_
  refine cw_region ?_
  refine wl_move rfl rfl (by decide) ?_
  refine wl_call rfl rfl (vs := [.slice A n cap]) (by kernel_rfl) (by decide) (ref3_Trim hx (by omega)) ?_
  rintro _ v1 ⟨xr3, rfl, r3, e2⟩
  refine ret_intro ?_
  have hw1 : Ext w v1 := (Ext.refl w).trans e2
  obtain ⟨k4, rfl, hk4, ht4, hv4⟩ := r3
  have rd4 := ((hx.ext e2)).take hk4 (by omega) (Nat.le_refl _)
  refine wl_assign rfl rfl (by decide) ?_
  refine wl_nil ?_
  refine eo_then ?_
  refine cw_seq ?_
  refine cw_seq ?_
  have hrt := hx.trim hwx hk4 ht4 hv4
  have hlt := hrt.len
  by_cases hn0 : k4 = 0
  ·
    have hX0 : nb 4294967296 xs = 0 := (len_db_zero b32).1 (by omega)
    refine cw_region ?_
    refine wl_move rfl rfl (by decide) ?_
    refine wl_pure rfl rfl (v := .int .i64 ((k4 : Nat) : Int)) (by decide) (by kernel_rfl) ?_
    refine wl_cmp rfl rfl rfl true (cb_eq_t (a := k4) (b := 0) rfl rfl (by omega)) (by decide) ?_
    refine wl_nil ?_
    refine eo_then ?_
    refine cw_true rfl ?_
    refine cw_seq ?_
    refine cw_region ?_
    refine wl_assign rfl rfl (by decide) ?_
    refine wl_nil ?_
    refine eo_then ?_
    refine cw_ret ?_
    refine eo_thenR ?_
    refine eo_ret [.int .i64 0] rfl ⟨rfl, trivial⟩ ?_
    exact ⟨_, rfl, (by rw [hX0, blen_zero]; rfl), hw1⟩
  ·
    obtain ⟨hx0, hbl⟩ := blen_db3 b32 (k := 32) (by decide) (v := nb 4294967296 xs) (m := k4) hlt.symm (by omega) rfl
    have hxb := Wfb_getD (b := 4294967296) (by decide) (Wfb_db b32 (nb 4294967296 xs)) (k4 - 1)
    refine cw_region ?_
    refine wl_move rfl rfl (by decide) ?_
    refine wl_pure rfl rfl (v := .int .i64 ((k4 : Nat) : Int)) (by decide) (by kernel_rfl) ?_
    refine wl_cmp rfl rfl rfl false (cb_eq_f (a := k4) (b := 0) rfl rfl (by omega)) (by decide) ?_
    refine wl_nil ?_
    refine eo_then ?_
    refine cw_false rfl ?_
    refine cw_skip ?_
    refine eo_then ?_
    refine cw_seq ?_
    refine cw_region ?_
    refine wl_move rfl rfl (by decide) ?_
    refine wl_pure rfl rfl (v := .int .i64 ((k4 : Nat) : Int)) (by decide) (by kernel_rfl) ?_
    refine wl_ar rfl rfl rfl ((k4 - 1 : Nat) : Int) (ai_sub (a := k4) (b := 1) rfl rfl (by omega) (by omega)) (by decide) ?_
    refine wl_ar rfl rfl rfl ((32 * (k4 - 1) : Nat) : Int) (ai_mul (a := 32) (b := k4 - 1) rfl rfl (by omega)) (by decide) ?_
    refine wl_assign rfl rfl (by decide) ?_
    refine wl_nil ?_
    refine eo_then ?_
    refine cw_seq ?_
    refine cw_seq ?_
    refine cw_region ?_
    refine wl_move rfl rfl (by decide) ?_
    refine wl_move rfl rfl (by decide) ?_
    refine wl_pure rfl rfl (v := .int .i64 ((k4 : Nat) : Int)) (by decide) (by kernel_rfl) ?_
    refine wl_ar rfl rfl rfl ((k4 - 1 : Nat) : Int) (ai_sub (a := k4) (b := 1) rfl rfl (by omega) (by omega)) (by decide) ?_
    obtain ⟨p5, hp5, hc5, hv5⟩ := ((hrt.ext e2)).at (i := k4 - 1) (by omega)
    refine wl_idx rfl rfl rfl un_u64 sz_u64 (k4 - 1) rfl (by omega) p5 hp5 (by decide) ?_
    refine wl_load rfl rfl (load_cell1 ag_u64 hc5) (by decide) ?_
    refine wl_assign rfl rfl (by decide) ?_
    refine wl_nil ?_
    refine eo_then ?_
    refine cw_block ?_
    refine cw_loop (T := World × Nat × Nat)
      (fun ⟨wr, c, x⟩ => [(3, .int .i64 ((c : Nat) : Int)), (4, .int .u64 ((x : Nat) : Int))])
      (fun ⟨wr, c, x⟩ => wr)
      (fun ⟨wr, c, x⟩ => (Ext w wr) ∧ (c + blen x = blen (nb 4294967296 xs)) ∧ (x ≤ 4294967295) ∧ (c + blen x ≤ 35184372088864))
      (fun ⟨wr, c, x⟩ => x)
      (⟨v1, _, _⟩ : World × Nat × Nat) ⟨hw1, hbl, (by omega), (by rw [hbl]; exact hbb)⟩ rfl ⟨rfl, rfl, trivial⟩ ?_
    rintro ⟨wr, c, x⟩ ⟨hw1, hcx, hxl, hcb⟩
    refine cw_re [(3, .int .i64 ((c : Nat) : Int)), (4, .int .u64 ((x : Nat) : Int))] wr rfl ⟨rfl, rfl, trivial⟩ ?_
    refine cw_seq ?_
    refine cw_seq ?_
    by_cases hx1 : x > 0
    ·
      have hbh := blen_half3 (q := x) (by omega)
      refine cw_region ?_
      refine wl_move rfl rfl (by decide) ?_
      refine wl_cmp rfl rfl rfl true (cb_gt_t (a := x) (b := 0) rfl rfl (by omega)) (by decide) ?_
      refine wl_nil ?_
      refine eo_then ?_
      refine cw_true rfl ?_
      refine cw_skip ?_
      refine eo_then ?_
      refine cw_seq ?_
      refine cw_block ?_
      refine cw_region ?_
      refine wl_move rfl rfl (by decide) ?_
      refine wl_ar rfl rfl rfl ((c + 1 : Nat) : Int) (ai_add (a := c) (b := 1) rfl rfl (by omega)) (by decide) ?_
      refine wl_assign rfl rfl (by decide) ?_
      refine wl_nil ?_
      refine eo_block_normal ?_
      refine eo_then ?_
      refine cw_region ?_
      refine wl_move rfl rfl (by decide) ?_
      refine wl_ar rfl rfl rfl ((x / 2 : Nat) : Int) (au_quo (a := x) (b := 2) rfl rfl (by omega) (by omega)) (by decide) ?_
      refine wl_assign rfl rfl (by decide) ?_
      refine wl_nil ?_
      refine eo_round (⟨wr, c + 1, x / 2⟩ : World × Nat × Nat) ⟨hw1, (by have := blen_half3 (q := x) (by omega); omega), (by omega), (by have := blen_half3 (q := x) (by omega); omega)⟩ (show x / 2 < x by omega) rfl ⟨rfl, rfl, trivial⟩
    ·
      refine cw_region ?_
      refine wl_move rfl rfl (by decide) ?_
      refine wl_cmp rfl rfl rfl false (cb_gt_f (a := x) (b := 0) rfl rfl (by omega)) (by decide) ?_
      refine wl_nil ?_
      refine eo_then ?_
      refine cw_false rfl ?_
      refine cw_exit ?_
      refine eo_thenX ?_
      refine eo_loopX ?_
      refine eo_block_here ?_
      refine eo_then ?_
      refine cw_seq ?_
      refine cw_region ?_
      refine wl_move rfl rfl (by decide) ?_
      refine wl_assign rfl rfl (by decide) ?_
      refine wl_nil ?_
      refine eo_then ?_
      refine cw_ret ?_
      refine eo_ret [.int .i64 ((c : Nat) : Int)] rfl ⟨rfl, trivial⟩ ?_
      exact ⟨_, rfl, (by rw [← hcx, show x = 0 by omega, blen_zero]; rfl), hw1⟩
set_option maxHeartbeats 4000000 in
theorem ref3_Gcd {w : World} {A D : Option Addr} {n cap m cd : Nat} {xs ys : List Nat} (hx : Rd w A n cap xs) (hln : n ≤ 137438953472) (hy : Rd w D m cd ys) (hlm : m ≤ 137438953472) :
    Calls Try.prog 59 #[.slice A n cap, .slice D m cd] w (Gv w (WR w.heap.size (Nat.gcd (nv xs) (nv ys)))) := by
  refine sx_enter Try.func59 rfl (n := 26) rfl (Nat.le_of_ble_eq_true rfl) (args := [.slice A n cap, .slice D m cd]) ?_
  refine cw_keep [(0, .slice A n cap), (1, .slice D m cd)] ⟨rfl, rfl, trivial⟩ ?_
  refine cw_seq ?_
  refine cw_region ?_
  refine wl_assign rfl rfl (by decide) ?_
  refine wl_nil ?_
  refine eo_then ?_
  refine cw_seq ?_
  refine cw_region ?_
  refine wl_move rfl rfl (by decide) ?_
  refine wl_call rfl rfl (vs := [.slice A n cap]) (by kernel_rfl) (by decide) (ref3_halves hx (by omega)) ?_
  rintro _ v1 ⟨xr3, rfl, r3, e2⟩
  refine ret_intro ?_
  have hw1 : Ext w v1 := (Ext.refl w).trans e2
  obtain ⟨A4, n4, c4, rfl, rd4⟩ := r3
  refine wl_assign rfl rfl (by decide) ?_
  refine wl_nil ?_
  refine eo_then ?_
  refine cw_seq ?_
  refine cw_region ?_
  refine wl_move rfl rfl (by decide) ?_
  refine wl_call rfl rfl (vs := [.slice D m cd]) (by kernel_rfl) (by decide) (ref3_halves (hy.ext e2) (by omega)) ?_
  rintro _ v5 ⟨xr7, rfl, r7, e6⟩
  refine ret_intro ?_
  have hw2 : Ext w v5 := hw1.trans e6
  obtain ⟨A8, n8, c8, rfl, rd8⟩ := r7
  refine wl_assign rfl rfl (by decide) ?_
  refine wl_nil ?_
  refine eo_then ?_
  refine cw_seq ?_
  refine cw_block ?_
  have hxn := rd4.hl hx (Nat.le_refl _)
  have hyn := rd8.hl hy (Nat.le_refl _)
  refine cw_loop (T := World × Option Addr × Nat × Nat × Nat × Option Addr × Nat × Nat × Nat)
    (fun ⟨wr, A1, n1, c1, X1, B1, m1, d1, Y1⟩ => [(5, .slice A1 n1 c1), (6, .slice B1 m1 d1)])
    (fun ⟨wr, A1, n1, c1, X1, B1, m1, d1, Y1⟩ => wr)
    (fun ⟨wr, A1, n1, c1, X1, B1, m1, d1, Y1⟩ => (Ext w wr) ∧ (n1 ≤ 274877906944) ∧ (m1 ≤ 274877906944) ∧ (Nat.gcd X1 Y1 = Nat.gcd (nv xs) (nv ys)) ∧ (Rd wr A1 n1 c1 (db 4294967296 (X1))) ∧ (Rd wr B1 m1 d1 (db 4294967296 (Y1))))
    (fun ⟨wr, A1, n1, c1, X1, B1, m1, d1, Y1⟩ => Y1)
    (⟨v5, _, _, _, _, _, _, _, _⟩ : World × Option Addr × Nat × Nat × Nat × Option Addr × Nat × Nat × Nat) ⟨hw2, (by omega), (by omega), rfl, (rd4.ext e6), rd8⟩ rfl ⟨rfl, rfl, trivial⟩ ?_
  rintro ⟨wr, A1, n1, c1, X1, B1, m1, d1, Y1⟩ ⟨hw1, hn1, hm1, hg, rl5, rl6⟩
  refine cw_re [(5, .slice A1 n1 c1), (6, .slice B1 m1 d1)] wr rfl ⟨rfl, rfl, trivial⟩ ?_
  refine cw_seq ?_
  refine cw_seq ?_
  by_cases hyp : m1 > 0
  ·
    have hY0 : Y1 ≠ 0 := fun e => by have h := rl6.len; rw [e, db_zero] at h; simp only [List.length_nil] at h; omega
    refine cw_region ?_
    refine wl_move rfl rfl (by decide) ?_
    refine wl_pure rfl rfl (v := .int .i64 ((m1 : Nat) : Int)) (by decide) (by kernel_rfl) ?_
    refine wl_cmp rfl rfl rfl true (cb_gt_t (a := m1) (b := 0) rfl rfl (by omega)) (by decide) ?_
    refine wl_nil ?_
    refine eo_then ?_
    refine cw_true rfl ?_
    refine cw_skip ?_
    refine eo_then ?_
    refine cw_block ?_
    refine cw_seq ?_
    refine cw_region ?_
    refine wl_move rfl rfl (by decide) ?_
    refine wl_move rfl rfl (by decide) ?_
    refine wl_call rfl rfl (vs := [.slice A1 n1 c1, .slice B1 m1 d1]) (by kernel_rfl) (by decide) (ref3_divide_ rl5 (by omega) rl6 (by omega) hY0) ?_
    rintro _ v9 ⟨xr11, rfl, r11, e10⟩
    refine ret_intro ?_
    have hw2 : Ext w v9 := hw1.trans e10
    obtain ⟨a12_0, a12_1, rfl, r12_0, r12_1⟩ := r11
    obtain ⟨A13, n13, c13, rfl, rd13⟩ := r12_0
    obtain ⟨A14, n14, c14, rfl, rd14⟩ := r12_1
    refine wl_move rfl rfl (by decide) ?_
    refine wl_pure rfl rfl (v := .slice A13 n13 c13) (by decide) (by kernel_rfl) ?_
    refine wl_pure rfl rfl (v := .slice A14 n14 c14) (by decide) (by kernel_rfl) ?_
    refine wl_assign rfl rfl (by decide) ?_
    refine wl_assign rfl rfl (by decide) ?_
    refine wl_nil ?_
    refine eo_then ?_
    refine cw_seq ?_
    refine cw_region ?_
    refine wl_move rfl rfl (by decide) ?_
    refine wl_assign rfl rfl (by decide) ?_
    refine wl_nil ?_
    refine eo_then ?_
    refine cw_region ?_
    refine wl_move rfl rfl (by decide) ?_
    refine wl_assign rfl rfl (by decide) ?_
    refine wl_nil ?_
    refine eo_block_normal ?_
    refine eo_round (⟨v9, _, _, _, Y1, _, _, _, X1 % Y1⟩ : World × Option Addr × Nat × Nat × Nat × Option Addr × Nat × Nat × Nat) ⟨hw2, (by omega), (by have h1 := rd14.len; have h2 := rl6.len; have h3 := len_db_mono b32 (Nat.le_of_lt (Nat.mod_lt X1 (show Y1 > 0 by omega))); omega), (by rw [← hg, Nat.gcd_comm X1 Y1, Nat.gcd_rec Y1 X1, Nat.gcd_comm]), (rl6.ext e10), rd14⟩ (show X1 % Y1 < Y1 from Nat.mod_lt _ (by omega)) rfl ⟨rfl, rfl, trivial⟩
  ·
    obtain rfl : Y1 = 0 := (len_db_zero b32).1 (by have h := rl6.len; omega)
    rw [Nat.gcd_zero_right] at hg
    refine cw_region ?_
    refine wl_move rfl rfl (by decide) ?_
    refine wl_pure rfl rfl (v := .int .i64 ((m1 : Nat) : Int)) (by decide) (by kernel_rfl) ?_
    refine wl_cmp rfl rfl rfl false (cb_gt_f (a := m1) (b := 0) rfl rfl (by omega)) (by decide) ?_
    refine wl_nil ?_
    refine eo_then ?_
    refine cw_false rfl ?_
    refine cw_exit ?_
    refine eo_thenX ?_
    refine eo_loopX ?_
    refine eo_block_here ?_
    refine eo_then ?_
    refine cw_seq ?_
    refine cw_region ?_
    refine wl_move rfl rfl (by decide) ?_
    refine wl_call rfl rfl (vs := [.slice A1 n1 c1]) (by kernel_rfl) (by decide) (ref3_words_ hw1.size rl5 (by omega)) ?_
    rintro _ v15 ⟨xr17, rfl, r17, e16⟩
    refine ret_intro ?_
    have hw2 : Ext w v15 := hw1.trans e16
    obtain ⟨A18, n18, c18, rfl, j18, o18⟩ := r17
    refine wl_assign rfl rfl (by decide) ?_
    refine wl_nil ?_
    refine eo_then ?_
    refine cw_ret ?_
    refine eo_ret [.slice A18 n18 c18] rfl ⟨rfl, trivial⟩ ?_
    exact ⟨_, rfl, (by rw [← hg]; exact ⟨_, _, _, rfl, j18, o18⟩), hw2⟩
end Go.Proofs.Ythggegdkpalgbaa

namespace Go.Proofs.Ythggegdkpalgbaa
open Go.RowKit
/-- the spare room's marks -/
def mkr (i : Nat) : Nat := 6510516211317473280 + i
/-- a list with marked room behind it -/
def room (xs : List Nat) : List Nat := xs ++ (List.range 80).map fun k => mkr (xs.length + k)
section
variable {P : Program} {Q : Exit → Act → World → Prop} {n : Nat} {l : Fr} {w : World} {ops : Array Oper} {rest : List Oper} {d : Nat} {ty : TypeId} {pos : String} {af : Array Edge}
/-- copy onto a block that is known whole -/
theorem wl_copy {x y : Operand} {T e t : TypeId} {dp sp : Option Addr} {dLen dCap sLen sCap g : Nat} {vs us : List Value} (hx : evo l x = some (.slice dp dLen dCap)) (hy : evo l y = some (.slice sp sLen sCap)) (hu : P.underlying T = some (.slice e)) (hsz : (P.info? e).map (·.size) = some 1)
    (hg : Bk w g t vs) (hsrc : Rv w 1 sp sLen sCap us) (hpos : 0 < dLen → dp = some ⟨g, 0, none⟩) (hfit : 0 + dLen ≤ vs.length) (h1 : ∀ v ∈ us, v.oneCell' = true) (hn : d < n)
    (k : ∀ w', Bk w' g t (splice vs 0 (us.take dLen)) → Upd g w w' → wl P ops Q n rest ((d, .int .i64 ((min sLen dLen : Nat) : Int)) :: l) w') :
    wl P ops Q n (⟨some d, .call { callee := .builtin .copy, args := #[x, y], argTypes := #[T, T] }, ty, pos, af, none⟩ :: rest) l w := fun _ ha =>
  wpc_copy rfl x y T T rfl (ha.ev hx) (ha.ev hy) hu hsz hg hsrc hpos hfit h1 fun w' h2 h3 => k w' h2 h3 _ (ha.put hn _)
end
end Go.Proofs.Ythggegdkpalgbaa

namespace Go.Proofs.Ythggegdkpalgbaa
open Go.RowKit
section
variable {P : Program} {Q : Exit → Act → World → Prop} {n : Nat} {l : Fr} {w : World} {ops : Array Oper} {rest : List Oper} {d : Nat} {op : Op} {ty : TypeId} {pos : String} {af : Array Edge} {gd : Option (Nat × Bool)}
def notEq : BinOp → Bool
  | .eql => false
  | .neq => false
  | _ => true
theorem run_op {o : BinOp} {t : TypeId} {x y : Operand} {u v r : Value} (ho : notEq o = true) (hb : (binOp o t u v).run P w = .ok r w) : ((do eqGuard o t x y u v; binOp o t u v) : Sem Value).run P w = .ok r w := by
  cases o <;> first | (cases ho; done) | (simp only [eqGuard, Sem.run_bind]; exact hb) | (simp [eqGuard, Sem.run_bind, hb])
theorem wl_op {o : BinOp} {t t' : TypeId} {x y : Operand} {u v r : Value} (hw : guardB ops l gd = some true) (hx : evo l x = some u) (hy : evo l y = some v) (ho : notEq o = true) (hb : ∀ w, (binOp o t u v).run P w = .ok r w) (hn : d < n)
    (h : wl P ops Q n rest ((d, r) :: l) w) : wl P ops Q n (⟨some d, .binOp o t x y t', ty, pos, af, gd⟩ :: rest) l w :=
  wl_val hw hn (fun a' ha => by
    have e : ((do eqGuard o t x y (a'.eval x) (a'.eval y); binOp o t (a'.eval x) (a'.eval y)) : Sem Value).run P w = .ok r w := by
      rw [ha.ev hx, ha.ev hy]; exact run_op ho (hb w)
    show ((((do eqGuard o t x y (a'.eval x) (a'.eval y); binOp o t (a'.eval x) (a'.eval y)) : Sem Value) >>= fun r => pure (Next.value r)) : Sem Next).run P w = _
    rw [Sem.run_bind, e]; rfl) h
theorem wl_pureE {v v' : Value} (hw : guardB ops l gd = some true) (hk : known l op = true) (hn : d < n) (hr : (execOp (rho l) ⟨some d, op, ty, pos, af, gd⟩).run P w = .ok (.value v) w) (e : v = v')
    (h : wl P ops Q n rest ((d, v') :: l) w) : wl P ops Q n (⟨some d, op, ty, pos, af, gd⟩ :: rest) l w := wl_pure hw hk hn hr (by rw [e]; exact h)
end
theorem cv_u64 {x : Nat} (h : x ≤ 18446744073709551615) : Value.int .u64 (IntKind.u64.wrap (x : Int)) = .int .u64 (x : Int) := by rw [IntWalk.u64_in _ ⟨by omega, by omega⟩]
end Go.Proofs.Ythggegdkpalgbaa
