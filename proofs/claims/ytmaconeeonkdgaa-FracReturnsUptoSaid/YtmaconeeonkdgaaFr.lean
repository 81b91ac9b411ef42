/- frac: Unchain -/
import Derived.Test.YtmaconeeonkdgaaZlb
import Derived.Test.YtmaconeeonkdgaaBz
namespace Go.Proofs.Ytmaconeeonkdgaa
open Go.RowKit

theorem drop_cons {zs : List Int} {i : Nat} (h : i < zs.length) : zs.drop i = zs.getD i 0 :: zs.drop (i + 1) := by
  rw [List.drop_eq_getElem_cons h, List.getD_eq_getElem?_getD, List.getElem?_eq_getElem h]; rfl

theorem g_frac_UnchainI {w : World} {A : Option Addr} {n cap : Nat} {zs : List Int} {ms : List Nat} (hl0 : Zl w A n cap zs ms) (hln : n ≤ 1048576) (hs : ms.sum ≤ 1048576) (hn0 : 0 < n) (hf : Fit zs) (hD : 0 < (nd zs).2) :
    Calls Try.prog 13 #[.slice A n cap] w (Gv w (T2 (FR w.heap.size ((nd zs).1) ((nd zs).2)) (Is (.int .i64 0)))) := by
  obtain ⟨a, rfl⟩ := hl0.some hn0
  have hl := hl0
  have hlen := hl.len
  have hle := hl.le
  have hmx := hl.max
  rw [len_maxLen] at hmx
  refine sx_enter Try.func13 rfl (n := 47) rfl (Nat.le_of_ble_eq_true rfl) (args := [.slice (some a) n cap]) ?_
  refine cw_keep [(0, .slice (some a) n cap)] ⟨rfl, trivial⟩ ?_
  refine cw_seq ?_
  -- region 0
  refine cw_region ?_
  refine wl_alloc rfl (z := .agg #[.bool false, .slice none 0 0, .bool false, .slice none 0 0]) (vs := [.bool false, .slice none 0 0, .bool false, .slice none 0 0]) (fun _ => by kernel_rfl) rfl (by decide) fun g1 v2 nb => ?_
  have hb4 := nb.bk
  have ge5 : w.heap.size ≤ g1 := by rw [← nb.at_]; exact (Ext.refl w).size
  have e3 := nb.ext
  clear nb
  have hw1 : Ext w v2 := (Ext.refl w).trans e3
  refine wl_assign rfl rfl (by decide) ?_
  refine wl_nil ?_
  refine eo_then ?_
  refine cw_seq ?_
  refine cw_seq ?_
  -- region 1
  refine cw_region ?_
  refine wl_move rfl rfl (by decide) ?_
  refine wl_pure rfl rfl (v := .int .i64 ((n : Nat) : Int)) (by decide) (by kernel_rfl) ?_
  refine wl_cmp rfl rfl rfl false (eq_f (by omega)) (by decide) ?_
  refine wl_nil ?_
  refine eo_then ?_
  refine cw_false rfl ?_
  refine cw_skip ?_
  refine eo_then ?_
  refine cw_seq ?_
  refine cw_seq ?_
  by_cases hc1 : cap = 1
  ·
    -- region 3
    refine cw_region ?_
    refine wl_move rfl rfl (by decide) ?_
    refine wl_slice rfl rfl elemInt aggInt.size (lo := 1) (hi := n) rfl rfl (by omega) hle (v := .slice (some a) (n - 1) (cap - 1)) (by rw [if_pos hc1]) (by decide) ?_
    refine wl_pure rfl rfl (v := .int .i64 (((n - 1) : Nat) : Int)) (by decide) (by kernel_rfl) ?_
    refine wl_move rfl rfl (by decide) ?_
    refine wl_nil ?_
    refine eo_then ?_
    refine cw_block ?_
    refine cw_loop (T := World × Nat)
      (fun ⟨wr, i⟩ => [(0, .slice (some a) n cap), (2, .pointer (some ⟨g1, 0, none⟩)), (3, .int .i64 0), (14, .slice (some a) (n - 1) (cap - 1)), (15, .int .i64 (((n - 1) : Nat) : Int)), (16, .int .i64 (i : Int))])
      (fun ⟨wr, i⟩ => wr)
      (fun ⟨wr, i⟩ => (Ext w wr) ∧ (i ≤ n - 1) ∧ (Bk wr g1 29 [.bool false, .slice none 0 0, .bool false, .slice none 0 0]))
      (fun ⟨wr, i⟩ => n - i)
      (⟨v2, 0⟩ : World × Nat) ⟨hw1, Nat.zero_le _, hb4⟩ rfl ⟨rfl, rfl, rfl, rfl, rfl, rfl, trivial⟩ ?_
    rintro ⟨wr, i⟩ ⟨hw1, hin, b_2⟩
    refine cw_re [(0, .slice (some a) n cap), (2, .pointer (some ⟨g1, 0, none⟩)), (3, .int .i64 0), (14, .slice (some a) (n - 1) (cap - 1)), (15, .int .i64 (((n - 1) : Nat) : Int)), (16, .int .i64 (i : Int))] wr rfl ⟨rfl, rfl, rfl, rfl, rfl, rfl, trivial⟩ ?_
    refine cw_seq ?_
    by_cases hlt : i < n - 1
    ·
      omega
    ·
      -- region 4
      refine cw_region ?_
      refine wl_cmp rfl rfl rfl false (lt_nat_f (by omega)) (by decide) ?_
      refine wl_nil ?_
      refine eo_then ?_
      refine cw_seq ?_
      refine cw_false rfl ?_
      refine cw_exit ?_
      refine eo_thenX ?_
      refine eo_loopX ?_
      refine eo_block_here ?_
      refine eo_then ?_
      refine cw_seq ?_
      -- region 9
      refine cw_region ?_
      refine wl_call rfl rfl (vs := [.int .i64 1]) (by kernel_rfl) (by decide) (g_zint_Of hw1.size (by decide) (by decide)) ?_
      rintro _ v6 ⟨xr8, rfl, r8, e7⟩
      refine ret_intro ?_
      have hw2 : Ext w v6 := hw1.trans e7
      obtain ⟨s9, A9, n9, c9, rfl, z9⟩ := r8
      refine wl_call rfl rfl (vs := [.int .i64 0]) (by kernel_rfl) (by decide) (g_zint_Of hw2.size (by decide) (by decide)) ?_
      rintro _ v10 ⟨xr12, rfl, r12, e11⟩
      refine ret_intro ?_
      have hw3 : Ext w v10 := hw2.trans e11
      obtain ⟨s13, A13, n13, c13, rfl, z13⟩ := r12
      refine wl_alloc rfl (z := .agg #[.bool false, .slice none 0 0]) (vs := [.bool false, .slice none 0 0]) (fun _ => by kernel_rfl) rfl (by decide) fun g14 v15 nb => ?_
      have hb17 := nb.bk
      have ge18 : w.heap.size ≤ g14 := by rw [← nb.at_]; exact hw3.size
      have q19 : g1 < g14 := by rw [← nb.at_]; exact (b_2.ext (e7.trans e11)).lt
      have e16 := nb.ext
      clear nb
      have hw4 : Ext w v15 := hw3.trans e16
      refine wl_alloc rfl (z := .agg #[.bool false, .slice none 0 0]) (vs := [.bool false, .slice none 0 0]) (fun _ => by kernel_rfl) rfl (by decide) fun g20 v21 nb => ?_
      have hb23 := nb.bk
      have ge24 : w.heap.size ≤ g20 := by rw [← nb.at_]; exact hw4.size
      have q25 : g14 < g20 := by rw [← nb.at_]; exact hb17.lt
      have e22 := nb.ext
      clear nb
      have hw5 : Ext w v21 := hw4.trans e22
      have hb27 := (hb17.ext e22)
      refine wl_stored rfl rfl rfl aggInt rfl hb27 (Nat.le_of_ble_eq_true rfl) rfl [.bool s9, .slice A9 n9 c9] rfl fun v26 hb28 u29 hs30 => ?_
      have hw6 : Ext w v26 := u29.ext hw5 ge18
      have hb32 := (hb23.updN u29 (by omega))
      refine wl_stored rfl rfl rfl aggInt rfl hb32 (Nat.le_of_ble_eq_true rfl) rfl [.bool s13, .slice A13 n13 c13] rfl fun v31 hb33 u34 hs35 => ?_
      have hw7 : Ext w v31 := u34.ext hw6 ge24
      refine wl_nil ?_
      refine eo_then ?_
      refine cw_seq ?_
      refine cw_seq ?_
      -- region 10
      refine cw_region ?_
      refine wl_move rfl rfl (by decide) ?_
      refine wl_pure rfl rfl (v := .int .i64 ((n : Nat) : Int)) (by decide) (by kernel_rfl) ?_
      refine wl_ar rfl rfl rfl (((n : Nat) : Int) - 1) (ar_i64s rfl (by omega) (by omega)) (by decide) ?_
      refine wl_assign rfl rfl (by decide) ?_
      refine wl_nil ?_
      refine eo_then ?_
      refine cw_block ?_
      refine cw_loop (T := World × Nat × Int × ZC × ZC)
        (fun ⟨wr, k, ii, k0, k1⟩ => [(0, .slice (some a) n cap), (2, .pointer (some ⟨g1, 0, none⟩)), (3, .int .i64 0), (6, .pointer (some ⟨g14, 0, none⟩)), (7, .pointer (some ⟨g20, 0, none⟩)), (8, .int .i64 ii)])
        (fun ⟨wr, k, ii, k0, k1⟩ => wr)
        (fun ⟨wr, k, ii, k0, k1⟩ => (Ext w wr) ∧ (k ≤ n) ∧ (ii = (k : Int) - 1) ∧ (Bk wr g1 29 [.bool false, .slice none 0 0, .bool false, .slice none 0 0]) ∧ (Bk wr g14 27 [.bool k0.s, .slice k0.A k0.n k0.c]) ∧ (Bk wr g20 27 [.bool k1.s, .slice k1.A k1.n k1.c]) ∧ (Zr wr w.heap.size k0.s k0.A k0.n k0.c (nd (zs.drop k)).1) ∧ (Zr wr w.heap.size k1.s k1.A k1.n k1.c (nd (zs.drop k)).2))
        (fun ⟨wr, k, ii, k0, k1⟩ => k)
        (⟨v31, n, _, ⟨s9, A9, n9, c9⟩, ⟨s13, A13, n13, c13⟩⟩ : World × Nat × Int × ZC × ZC) ⟨hw7, Nat.le_refl _, rfl, (((b_2.ext (e7.trans (e11.trans (e16.trans e22)))).updN u29 (by omega)).updN u34 (by omega)), (hb28.updN u34 (by omega)), hb33, ((((z9.ext (e11.trans (e16.trans e22))).updT hb27 u29).updT hb32 u34)).cast (by rw [List.drop_of_length_le (Nat.le_of_eq hlen)]; rfl), ((((z13.ext (e16.trans e22)).updT hb27 u29).updT hb32 u34)).cast (by rw [List.drop_of_length_le (Nat.le_of_eq hlen)]; rfl)⟩ rfl ⟨rfl, rfl, rfl, rfl, rfl, rfl, trivial⟩ ?_
      rintro ⟨wr, k, ii, k0, k1⟩ ⟨hw1, hk, hii, b_2, b_6, b_7, zk0, zk1⟩
      refine cw_re [(0, .slice (some a) n cap), (2, .pointer (some ⟨g1, 0, none⟩)), (3, .int .i64 0), (6, .pointer (some ⟨g14, 0, none⟩)), (7, .pointer (some ⟨g20, 0, none⟩)), (8, .int .i64 ii)] wr rfl ⟨rfl, rfl, rfl, rfl, rfl, rfl, trivial⟩ ?_
      refine cw_seq ?_
      refine cw_seq ?_
      by_cases hkp : 0 < k
      ·
        obtain ⟨j, rfl⟩ : ∃ j, k = j + 1 := ⟨k - 1, by omega⟩
        obtain rfl : ii = (j : Int) := by omega
        -- region 11
        refine cw_region ?_
        refine wl_move rfl rfl (by decide) ?_
        refine wl_cmp rfl rfl rfl true (ge_t (by omega)) (by decide) ?_
        refine wl_nil ?_
        refine eo_then ?_
        refine cw_true rfl ?_
        refine cw_skip ?_
        refine eo_then ?_
        refine cw_seq ?_
        refine cw_block ?_
        -- region 13, in whatever order
        obtain ⟨s36, B36, c36, ld36, z36⟩ := hl.elem (i := j) (by omega)
        have L37 : ln ((zs.getD (j) 0) * ((nd (zs.drop (j + 1))).1) + ((nd (zs.drop (j + 1))).2)) ≤ 3145730 := Nat.le_trans (ln_add (ln_mul (Nat.le_trans (hl.ln (j) (by omega)) (Nat.le_trans (getD_le_sum _ _) hs)) (ln_nd_drop hl (j + 1) hln hs).1) (ln_nd_drop hl (j + 1) hln hs).2) (by decide)
        refine cw_draw mix 8 [] [Is (.slice (some a) n cap), Is (.int .i64 (j : Int)), Is (.pointer (some (a.add ((j) * 2)))), Is (.agg #[.bool s36, .slice B36 (ms.getD (j) 0) c36]), Is (.agg #[.bool k0.s, .slice k0.A k0.n k0.c]), Is (.agg #[.bool k1.s, .slice k1.A k1.n k1.c]), ZR w.heap.size ((zs.getD (j) 0) * ((nd (zs.drop (j + 1))).1) + ((nd (zs.drop (j + 1))).2)), Is (.agg #[.bool k0.s, .slice k0.A k0.n k0.c])] [[], [], [0, 1], [2], [], [], [3, 4, 5], []] [[], [], [0, 1], [0, 1, 2], [], [], [0, 1, 2, 3, 4, 5], [], [0, 1, 2, 3, 4, 5, 6, 7], [0, 1, 2, 3, 4, 5, 6, 7, 8]] rfl
          (obs_cons rfl rfl (hob rfl rfl ?_) (obs_cons rfl rfl (hob rfl rfl ?_) (obs_cons rfl rfl (hob rfl rfl ?_) (obs_cons rfl rfl (hob rfl rfl ?_) (obs_cons rfl rfl (hob rfl rfl ?_) (obs_cons rfl rfl (hob rfl rfl ?_) (obs_cons rfl rfl (hob rfl rfl ?_) (obs_cons rfl rfl (hob rfl rfl ?_) obs_nil)))))))) ?_
        · -- 0
          intro v39 e40
          have hw2 : Ext w v39 := hw1.trans e40
          refine deps_nil ?_
          refine wl_move rfl rfl (by decide) ?_
          exact pi_done rfl (Ext.refl _) rfl
        · -- 1
          intro v41 e42
          have hw2 : Ext w v41 := hw1.trans e42
          refine deps_nil ?_
          refine wl_move rfl rfl (by decide) ?_
          exact pi_done rfl (Ext.refl _) rfl
        · -- 2
          intro v43 e44
          have hw2 : Ext w v43 := hw1.trans e44
          refine deps_cons rfl rfl fun x45 y46 h47 e48 f49 => ?_
          obtain rfl := h47
          refine deps_cons rfl rfl fun x50 y51 h52 e53 f54 => ?_
          obtain rfl := h52
          refine deps_nil ?_
          refine wl_index rfl rfl rfl elemInt aggInt.size (by omega) (by omega) (a.add ((j) * 2)) rfl (by decide) ?_
          exact pi_done rfl (Ext.refl _) rfl
        · -- 3
          intro v55 e56
          have hw2 : Ext w v55 := hw1.trans e56
          refine deps_cons rfl rfl fun x57 y58 h59 e60 f61 => ?_
          obtain rfl := h59
          refine deps_nil ?_
          refine wl_load rfl rfl (ld36 _ hw2 _ _ aggInt) (by decide) ?_
          exact pi_done rfl (Ext.refl _) rfl
        · -- 4
          intro v62 e63
          have hw2 : Ext w v62 := hw1.trans e63
          refine deps_nil ?_
          refine wl_load rfl rfl (load_agg aggInt (b_6.ext e63) [.bool k0.s, .slice k0.A k0.n k0.c] rfl (Nat.le_of_ble_eq_true rfl) rfl) (by decide) ?_
          exact pi_done rfl (Ext.refl _) rfl
        · -- 5
          intro v64 e65
          have hw2 : Ext w v64 := hw1.trans e65
          refine deps_nil ?_
          refine wl_load rfl rfl (load_agg aggInt (b_7.ext e65) [.bool k1.s, .slice k1.A k1.n k1.c] rfl (Nat.le_of_ble_eq_true rfl) rfl) (by decide) ?_
          exact pi_done rfl (Ext.refl _) rfl
        · -- 6
          intro v66 e67
          have hw2 : Ext w v66 := hw1.trans e67
          refine deps_cons rfl rfl fun x68 y69 h70 e71 f72 => ?_
          obtain rfl := h70
          refine deps_cons rfl rfl fun x73 y74 h75 e76 f77 => ?_
          obtain rfl := h75
          refine deps_cons rfl rfl fun x78 y79 h80 e81 f82 => ?_
          obtain rfl := h80
          refine deps_nil ?_
          have L83 : ln ((zs.getD (j) 0) * ((nd (zs.drop (j + 1))).1) + ((nd (zs.drop (j + 1))).2)) ≤ 3145730 := Nat.le_trans (ln_add (ln_mul (Nat.le_trans (hl.ln (j) (by omega)) (Nat.le_trans (getD_le_sum _ _) hs)) (ln_nd_drop hl (j + 1) hln hs).1) (ln_nd_drop hl (j + 1) hln hs).2) (by decide)
          refine wl_call rfl rfl (vs := [.agg #[.bool s36, .slice B36 (ms.getD (j) 0) c36], .agg #[.bool k0.s, .slice k0.A k0.n k0.c], .agg #[.bool k1.s, .slice k1.A k1.n k1.c]]) (by kernel_rfl) (by decide) (g_zint_MulAdd hw2.size (z36.ext hw2) (Nat.le_trans (Nat.le_trans (getD_le_sum _ _) hs) (by decide)) (zk0.ext e67).zi (zk0.le (Nat.le_trans (ln_nd_drop hl (j + 1) hln hs).1 (by decide))) (zk1.ext e67).zi (zk1.le (Nat.le_trans (ln_nd_drop hl (j + 1) hln hs).2 (by decide)))) ?_
          rintro _ v84 ⟨xr86, rfl, r86, e85⟩
          refine ret_intro ?_
          have hw3 : Ext w v84 := hw2.trans e85
          obtain ⟨s87, A87, n87, c87, rfl, z87⟩ := r86
          exact pi_done rfl e85 ⟨_, _, _, _, rfl, z87⟩
        · -- 7
          intro v88 e89
          have hw2 : Ext w v88 := hw1.trans e89
          refine deps_nil ?_
          refine wl_load rfl rfl (load_agg aggInt (b_6.ext e89) [.bool k0.s, .slice k0.A k0.n k0.c] rfl (Nat.le_of_ble_eq_true rfl) rfl) (by decide) ?_
          exact pi_done rfl (Ext.refl _) rfl
        · -- all
          intro v90 e91
          have hw2 : Ext w v90 := hw1.trans e91
          refine deps_cons rfl rfl fun x92 y93 h94 e95 f96 => ?_
          obtain rfl := h94
          refine deps_cons rfl rfl fun x97 y98 h99 e100 f101 => ?_
          obtain rfl := h99
          refine deps_cons rfl rfl fun x102 y103 h104 e105 f106 => ?_
          obtain rfl := h104
          refine deps_cons rfl rfl fun x107 y108 h109 e110 f111 => ?_
          obtain rfl := h109
          refine deps_cons rfl rfl fun x112 y113 h114 e115 f116 => ?_
          obtain rfl := h114
          refine deps_cons rfl rfl fun x117 y118 h119 e120 f121 => ?_
          obtain rfl := h119
          refine deps_cons rfl rfl fun x122 y123 h124 e125 f126 => ?_
          obtain ⟨s127, A127, n127, c127, rfl, z127⟩ := h124
          have z127 := z127.ext f126
          refine deps_cons rfl rfl fun x128 y129 h130 e131 f132 => ?_
          obtain rfl := h130
          refine deps_nil ?_
          have hb134 := (b_6.ext e91)
          refine wl_stored rfl rfl rfl aggInt rfl hb134 (Nat.le_of_ble_eq_true rfl) rfl [.bool s127, .slice A127 n127 c127] rfl fun v133 hb135 u136 hs137 => ?_
          have hw3 : Ext w v133 := u136.ext hw2 ge18
          have hb139 := ((b_7.ext e91).updN u136 (by omega))
          refine wl_stored rfl rfl rfl aggInt rfl hb139 (Nat.le_of_ble_eq_true rfl) rfl [.bool k0.s, .slice k0.A k0.n k0.c] rfl fun v138 hb140 u141 hs142 => ?_
          have hw4 : Ext w v138 := u141.ext hw3 ge24
          refine wl_nil ?_
          refine eo_np ?_
          refine eo_block_normal ?_
          refine eo_then ?_
          -- region 12
          refine cw_region ?_
          refine wl_move rfl rfl (by decide) ?_
          refine wl_ar rfl rfl rfl ((j : Int) - 1) (ar_i64s rfl (by omega) (by omega)) (by decide) ?_
          refine wl_assign rfl rfl (by decide) ?_
          refine wl_nil ?_
          refine eo_round (⟨v138, j, (j : Int) - 1, ⟨s127, A127, n127, c127⟩, ⟨k0.s, k0.A, k0.n, k0.c⟩⟩ : World × Nat × Int × ZC × ZC) ⟨hw4, (by omega), rfl, (((b_2.ext e91).updN u136 (by omega)).updN u141 (by omega)), (hb135.updN u141 (by omega)), hb140, (((z127.updT hb134 u136).updT hb139 u141)).cast (by rw [drop_cons (zs := zs) (i := j) (by omega)]; rfl), ((((zk0.ext e91).updT hb134 u136).updT hb139 u141)).cast (by rw [drop_cons (zs := zs) (i := j) (by omega)]; rfl)⟩ (show j < j + 1 by omega) rfl ⟨rfl, rfl, rfl, rfl, rfl, rfl, trivial⟩
      ·
        obtain rfl : k = 0 := by omega
        -- region 11
        refine cw_region ?_
        refine wl_move rfl rfl (by decide) ?_
        refine wl_cmp rfl rfl rfl false (ge_f (by omega)) (by decide) ?_
        refine wl_nil ?_
        refine eo_then ?_
        refine cw_false rfl ?_
        refine cw_exit ?_
        refine eo_thenX ?_
        refine eo_loopX ?_
        refine eo_block_here ?_
        refine eo_then ?_
        refine cw_seq ?_
        -- region 14
        refine cw_region ?_
        refine wl_load rfl rfl (load_agg aggInt b_6 [.bool k0.s, .slice k0.A k0.n k0.c] rfl (Nat.le_of_ble_eq_true rfl) rfl) (by decide) ?_
        refine wl_load rfl rfl (load_agg aggInt b_7 [.bool k1.s, .slice k1.A k1.n k1.c] rfl (Nat.le_of_ble_eq_true rfl) rfl) (by decide) ?_
        refine wl_call rfl rfl (vs := [.agg #[.bool k0.s, .slice k0.A k0.n k0.c], .agg #[.bool k1.s, .slice k1.A k1.n k1.c]]) (by kernel_rfl) (by decide) (g_frac_Of_low hw1.size zk0.zi (zk0.le (Nat.le_trans (ln_nd_drop hl 0 hln hs).1 (by decide))) zk1.zi (zk1.le (Nat.le_trans (ln_nd_drop hl 0 hln hs).2 (by decide))) hD (nd_gcd zs)) ?_
        rintro _ v143 ⟨xr145, rfl, r145, e144⟩
        refine ret_intro ?_
        have hw2 : Ext w v143 := hw1.trans e144
        obtain ⟨a146_0, a146_1, rfl, r146_0, r146_1⟩ := r145
        obtain ⟨s147, A147, n147, c147, t147, B147, m147, d147, rfl, z147, y147⟩ := r146_0
        obtain rfl := r146_1
        refine wl_pure rfl rfl (v := .agg #[.bool s147, .slice A147 n147 c147, .bool t147, .slice B147 m147 d147]) (by decide) (by kernel_rfl) ?_
        refine wl_pure rfl rfl (v := .int .i64 0) (by decide) (by kernel_rfl) ?_
        have hb149 := (b_2.ext e144)
        refine wl_stored rfl rfl rfl aggFrac rfl hb149 (Nat.le_of_ble_eq_true rfl) rfl [.bool s147, .slice A147 n147 c147, .bool t147, .slice B147 m147 d147] rfl fun v148 hb150 u151 hs152 => ?_
        have hw3 : Ext w v148 := u151.ext hw2 ge5
        refine wl_assign rfl rfl (by decide) ?_
        refine wl_nil ?_
        refine eo_then ?_
        refine cw_ret ?_
        refine eo_ret [.agg #[.bool s147, .slice A147 n147 c147, .bool t147, .slice B147 m147 d147], .int .i64 0] rfl ⟨⟨_, rfl, load_agg aggFrac hb150 [.bool s147, .slice A147 n147 c147, .bool t147, .slice B147 m147 d147] rfl (Nat.le_of_ble_eq_true rfl) rfl⟩, rfl, trivial⟩ ?_
        exact ⟨_, rfl, ⟨_, _, rfl, ⟨_, _, _, _, _, _, _, _, rfl, (z147.updT hb149 u151), (y147.updT hb149 u151)⟩, rfl⟩, hw3⟩
  ·
    -- region 3
    refine cw_region ?_
    refine wl_move rfl rfl (by decide) ?_
    refine wl_slice rfl rfl elemInt aggInt.size (lo := 1) (hi := n) rfl rfl (by omega) hle (v := .slice (some (a.add 2)) (n - 1) (cap - 1)) (by rw [if_neg hc1]; rfl) (by decide) ?_
    refine wl_pure rfl rfl (v := .int .i64 (((n - 1) : Nat) : Int)) (by decide) (by kernel_rfl) ?_
    refine wl_move rfl rfl (by decide) ?_
    refine wl_nil ?_
    refine eo_then ?_
    refine cw_block ?_
    refine cw_loop (T := World × Nat)
      (fun ⟨wr, i⟩ => [(0, .slice (some a) n cap), (2, .pointer (some ⟨g1, 0, none⟩)), (3, .int .i64 0), (14, .slice (some (a.add 2)) (n - 1) (cap - 1)), (15, .int .i64 (((n - 1) : Nat) : Int)), (16, .int .i64 (i : Int))])
      (fun ⟨wr, i⟩ => wr)
      (fun ⟨wr, i⟩ => (Ext w wr) ∧ (i ≤ n - 1) ∧ (Bk wr g1 29 [.bool false, .slice none 0 0, .bool false, .slice none 0 0]))
      (fun ⟨wr, i⟩ => n - i)
      (⟨v2, 0⟩ : World × Nat) ⟨hw1, Nat.zero_le _, hb4⟩ rfl ⟨rfl, rfl, rfl, rfl, rfl, rfl, trivial⟩ ?_
    rintro ⟨wr, i⟩ ⟨hw1, hin, b_2⟩
    refine cw_re [(0, .slice (some a) n cap), (2, .pointer (some ⟨g1, 0, none⟩)), (3, .int .i64 0), (14, .slice (some (a.add 2)) (n - 1) (cap - 1)), (15, .int .i64 (((n - 1) : Nat) : Int)), (16, .int .i64 (i : Int))] wr rfl ⟨rfl, rfl, rfl, rfl, rfl, rfl, trivial⟩ ?_
    refine cw_seq ?_
    by_cases hlt : i < n - 1
    ·
      -- region 4
      refine cw_region ?_
      refine wl_cmp rfl rfl rfl true (lt_nat_t hlt) (by decide) ?_
      refine wl_nil ?_
      refine eo_then ?_
      refine cw_seq ?_
      refine cw_true rfl ?_
      refine cw_skip ?_
      refine eo_then ?_
      refine cw_seq ?_
      refine cw_block ?_
      refine cw_seq ?_
      -- region 5
      refine cw_region ?_
      obtain ⟨s153, B153, c153, ld153, z153⟩ := hl.elem (i := i + 1) (by omega)
      refine wl_index rfl rfl rfl elemInt aggInt.size (by omega) (by omega) (a.add ((i + 1) * 2)) (by rw [add_of_add]; congr 1; omega) (by decide) ?_
      refine wl_load rfl rfl (ld153 _ hw1 _ _ aggInt) (by decide) ?_
      refine wl_alloc rfl (z := .agg #[.bool false, .slice none 0 0]) (vs := [.bool false, .slice none 0 0]) (fun _ => by kernel_rfl) rfl (by decide) fun g154 v155 nb => ?_
      have hb157 := nb.bk
      have ge158 : w.heap.size ≤ g154 := by rw [← nb.at_]; exact hw1.size
      have q159 : g1 < g154 := by rw [← nb.at_]; exact b_2.lt
      have e156 := nb.ext
      clear nb
      have hw2 : Ext w v155 := hw1.trans e156
      have hb161 := hb157
      refine wl_stored rfl rfl rfl aggInt rfl hb161 (Nat.le_of_ble_eq_true rfl) rfl [.bool s153, .slice B153 (ms.getD (i + 1) 0) c153] rfl fun v160 hb162 u163 hs164 => ?_
      have hw3 : Ext w v160 := u163.ext hw2 ge158
      refine wl_nil ?_
      refine eo_then ?_
      refine cw_seq ?_
      -- region 6
      refine cw_region ?_
      refine wl_load rfl rfl (load_agg aggInt hb162 [.bool s153, .slice B153 (ms.getD (i + 1) 0) c153] rfl (Nat.le_of_ble_eq_true rfl) rfl) (by decide) ?_
      refine wl_call rfl rfl (vs := [.agg #[.bool s153, .slice B153 (ms.getD (i + 1) 0) c153]]) (by kernel_rfl) (by decide) (g_zint_Sign (z153.ext hw3) (Nat.le_trans (Nat.le_trans (getD_le_sum _ _) hs) (by decide))) ?_
      rintro _ v165 ⟨xr167, rfl, r167, e166⟩
      refine ret_intro ?_
      have hw4 : Ext w v165 := hw3.trans e166
      obtain rfl := r167
      refine wl_cmp rfl rfl rfl false (scmp_le_f (hf.2 (i + 1) (by omega) (by omega))) (by decide) ?_
      refine wl_nil ?_
      refine eo_then ?_
      refine cw_false rfl ?_
      refine cw_skip ?_
      refine eo_block_normal ?_
      refine eo_then ?_
      -- region 8
      refine cw_region ?_
      refine wl_ar rfl rfl rfl ((i + 1 : Nat) : Int) (ar_i64 (by omega) (by omega) (by omega)) (by decide) ?_
      refine wl_move rfl rfl (by decide) ?_
      refine wl_nil ?_
      refine eo_round (⟨v165, i + 1⟩ : World × Nat) ⟨hw4, (by omega), (((b_2.ext e156).updN u163 (by omega)).ext e166)⟩ (show n - (i + 1) < n - i by omega) rfl ⟨rfl, rfl, rfl, rfl, rfl, rfl, trivial⟩
    ·
      -- region 4
      refine cw_region ?_
      refine wl_cmp rfl rfl rfl false (lt_nat_f (by omega)) (by decide) ?_
      refine wl_nil ?_
      refine eo_then ?_
      refine cw_seq ?_
      refine cw_false rfl ?_
      refine cw_exit ?_
      refine eo_thenX ?_
      refine eo_loopX ?_
      refine eo_block_here ?_
      refine eo_then ?_
      refine cw_seq ?_
      -- region 9
      refine cw_region ?_
      refine wl_call rfl rfl (vs := [.int .i64 1]) (by kernel_rfl) (by decide) (g_zint_Of hw1.size (by decide) (by decide)) ?_
      rintro _ v168 ⟨xr170, rfl, r170, e169⟩
      refine ret_intro ?_
      have hw2 : Ext w v168 := hw1.trans e169
      obtain ⟨s171, A171, n171, c171, rfl, z171⟩ := r170
      refine wl_call rfl rfl (vs := [.int .i64 0]) (by kernel_rfl) (by decide) (g_zint_Of hw2.size (by decide) (by decide)) ?_
      rintro _ v172 ⟨xr174, rfl, r174, e173⟩
      refine ret_intro ?_
      have hw3 : Ext w v172 := hw2.trans e173
      obtain ⟨s175, A175, n175, c175, rfl, z175⟩ := r174
      refine wl_alloc rfl (z := .agg #[.bool false, .slice none 0 0]) (vs := [.bool false, .slice none 0 0]) (fun _ => by kernel_rfl) rfl (by decide) fun g176 v177 nb => ?_
      have hb179 := nb.bk
      have ge180 : w.heap.size ≤ g176 := by rw [← nb.at_]; exact hw3.size
      have q181 : g1 < g176 := by rw [← nb.at_]; exact (b_2.ext (e169.trans e173)).lt
      have e178 := nb.ext
      clear nb
      have hw4 : Ext w v177 := hw3.trans e178
      refine wl_alloc rfl (z := .agg #[.bool false, .slice none 0 0]) (vs := [.bool false, .slice none 0 0]) (fun _ => by kernel_rfl) rfl (by decide) fun g182 v183 nb => ?_
      have hb185 := nb.bk
      have ge186 : w.heap.size ≤ g182 := by rw [← nb.at_]; exact hw4.size
      have q187 : g176 < g182 := by rw [← nb.at_]; exact hb179.lt
      have e184 := nb.ext
      clear nb
      have hw5 : Ext w v183 := hw4.trans e184
      have hb189 := (hb179.ext e184)
      refine wl_stored rfl rfl rfl aggInt rfl hb189 (Nat.le_of_ble_eq_true rfl) rfl [.bool s171, .slice A171 n171 c171] rfl fun v188 hb190 u191 hs192 => ?_
      have hw6 : Ext w v188 := u191.ext hw5 ge180
      have hb194 := (hb185.updN u191 (by omega))
      refine wl_stored rfl rfl rfl aggInt rfl hb194 (Nat.le_of_ble_eq_true rfl) rfl [.bool s175, .slice A175 n175 c175] rfl fun v193 hb195 u196 hs197 => ?_
      have hw7 : Ext w v193 := u196.ext hw6 ge186
      refine wl_nil ?_
      refine eo_then ?_
      refine cw_seq ?_
      refine cw_seq ?_
      -- region 10
      refine cw_region ?_
      refine wl_move rfl rfl (by decide) ?_
      refine wl_pure rfl rfl (v := .int .i64 ((n : Nat) : Int)) (by decide) (by kernel_rfl) ?_
      refine wl_ar rfl rfl rfl (((n : Nat) : Int) - 1) (ar_i64s rfl (by omega) (by omega)) (by decide) ?_
      refine wl_assign rfl rfl (by decide) ?_
      refine wl_nil ?_
      refine eo_then ?_
      refine cw_block ?_
      refine cw_loop (T := World × Nat × Int × ZC × ZC)
        (fun ⟨wr, k, ii, k0, k1⟩ => [(0, .slice (some a) n cap), (2, .pointer (some ⟨g1, 0, none⟩)), (3, .int .i64 0), (6, .pointer (some ⟨g176, 0, none⟩)), (7, .pointer (some ⟨g182, 0, none⟩)), (8, .int .i64 ii)])
        (fun ⟨wr, k, ii, k0, k1⟩ => wr)
        (fun ⟨wr, k, ii, k0, k1⟩ => (Ext w wr) ∧ (k ≤ n) ∧ (ii = (k : Int) - 1) ∧ (Bk wr g1 29 [.bool false, .slice none 0 0, .bool false, .slice none 0 0]) ∧ (Bk wr g176 27 [.bool k0.s, .slice k0.A k0.n k0.c]) ∧ (Bk wr g182 27 [.bool k1.s, .slice k1.A k1.n k1.c]) ∧ (Zr wr w.heap.size k0.s k0.A k0.n k0.c (nd (zs.drop k)).1) ∧ (Zr wr w.heap.size k1.s k1.A k1.n k1.c (nd (zs.drop k)).2))
        (fun ⟨wr, k, ii, k0, k1⟩ => k)
        (⟨v193, n, _, ⟨s171, A171, n171, c171⟩, ⟨s175, A175, n175, c175⟩⟩ : World × Nat × Int × ZC × ZC) ⟨hw7, Nat.le_refl _, rfl, (((b_2.ext (e169.trans (e173.trans (e178.trans e184)))).updN u191 (by omega)).updN u196 (by omega)), (hb190.updN u196 (by omega)), hb195, ((((z171.ext (e173.trans (e178.trans e184))).updT hb189 u191).updT hb194 u196)).cast (by rw [List.drop_of_length_le (Nat.le_of_eq hlen)]; rfl), ((((z175.ext (e178.trans e184)).updT hb189 u191).updT hb194 u196)).cast (by rw [List.drop_of_length_le (Nat.le_of_eq hlen)]; rfl)⟩ rfl ⟨rfl, rfl, rfl, rfl, rfl, rfl, trivial⟩ ?_
      rintro ⟨wr, k, ii, k0, k1⟩ ⟨hw1, hk, hii, b_2, b_6, b_7, zk0, zk1⟩
      refine cw_re [(0, .slice (some a) n cap), (2, .pointer (some ⟨g1, 0, none⟩)), (3, .int .i64 0), (6, .pointer (some ⟨g176, 0, none⟩)), (7, .pointer (some ⟨g182, 0, none⟩)), (8, .int .i64 ii)] wr rfl ⟨rfl, rfl, rfl, rfl, rfl, rfl, trivial⟩ ?_
      refine cw_seq ?_
      refine cw_seq ?_
      by_cases hkp : 0 < k
      ·
        obtain ⟨j, rfl⟩ : ∃ j, k = j + 1 := ⟨k - 1, by omega⟩
        obtain rfl : ii = (j : Int) := by omega
        -- region 11
        refine cw_region ?_
        refine wl_move rfl rfl (by decide) ?_
        refine wl_cmp rfl rfl rfl true (ge_t (by omega)) (by decide) ?_
        refine wl_nil ?_
        refine eo_then ?_
        refine cw_true rfl ?_
        refine cw_skip ?_
        refine eo_then ?_
        refine cw_seq ?_
        refine cw_block ?_
        -- region 13, in whatever order
        obtain ⟨s198, B198, c198, ld198, z198⟩ := hl.elem (i := j) (by omega)
        have L199 : ln ((zs.getD (j) 0) * ((nd (zs.drop (j + 1))).1) + ((nd (zs.drop (j + 1))).2)) ≤ 3145730 := Nat.le_trans (ln_add (ln_mul (Nat.le_trans (hl.ln (j) (by omega)) (Nat.le_trans (getD_le_sum _ _) hs)) (ln_nd_drop hl (j + 1) hln hs).1) (ln_nd_drop hl (j + 1) hln hs).2) (by decide)
        refine cw_draw mix 8 [] [Is (.slice (some a) n cap), Is (.int .i64 (j : Int)), Is (.pointer (some (a.add ((j) * 2)))), Is (.agg #[.bool s198, .slice B198 (ms.getD (j) 0) c198]), Is (.agg #[.bool k0.s, .slice k0.A k0.n k0.c]), Is (.agg #[.bool k1.s, .slice k1.A k1.n k1.c]), ZR w.heap.size ((zs.getD (j) 0) * ((nd (zs.drop (j + 1))).1) + ((nd (zs.drop (j + 1))).2)), Is (.agg #[.bool k0.s, .slice k0.A k0.n k0.c])] [[], [], [0, 1], [2], [], [], [3, 4, 5], []] [[], [], [0, 1], [0, 1, 2], [], [], [0, 1, 2, 3, 4, 5], [], [0, 1, 2, 3, 4, 5, 6, 7], [0, 1, 2, 3, 4, 5, 6, 7, 8]] rfl
          (obs_cons rfl rfl (hob rfl rfl ?_) (obs_cons rfl rfl (hob rfl rfl ?_) (obs_cons rfl rfl (hob rfl rfl ?_) (obs_cons rfl rfl (hob rfl rfl ?_) (obs_cons rfl rfl (hob rfl rfl ?_) (obs_cons rfl rfl (hob rfl rfl ?_) (obs_cons rfl rfl (hob rfl rfl ?_) (obs_cons rfl rfl (hob rfl rfl ?_) obs_nil)))))))) ?_
        · -- 0
          intro v201 e202
          have hw2 : Ext w v201 := hw1.trans e202
          refine deps_nil ?_
          refine wl_move rfl rfl (by decide) ?_
          exact pi_done rfl (Ext.refl _) rfl
        · -- 1
          intro v203 e204
          have hw2 : Ext w v203 := hw1.trans e204
          refine deps_nil ?_
          refine wl_move rfl rfl (by decide) ?_
          exact pi_done rfl (Ext.refl _) rfl
        · -- 2
          intro v205 e206
          have hw2 : Ext w v205 := hw1.trans e206
          refine deps_cons rfl rfl fun x207 y208 h209 e210 f211 => ?_
          obtain rfl := h209
          refine deps_cons rfl rfl fun x212 y213 h214 e215 f216 => ?_
          obtain rfl := h214
          refine deps_nil ?_
          refine wl_index rfl rfl rfl elemInt aggInt.size (by omega) (by omega) (a.add ((j) * 2)) rfl (by decide) ?_
          exact pi_done rfl (Ext.refl _) rfl
        · -- 3
          intro v217 e218
          have hw2 : Ext w v217 := hw1.trans e218
          refine deps_cons rfl rfl fun x219 y220 h221 e222 f223 => ?_
          obtain rfl := h221
          refine deps_nil ?_
          refine wl_load rfl rfl (ld198 _ hw2 _ _ aggInt) (by decide) ?_
          exact pi_done rfl (Ext.refl _) rfl
        · -- 4
          intro v224 e225
          have hw2 : Ext w v224 := hw1.trans e225
          refine deps_nil ?_
          refine wl_load rfl rfl (load_agg aggInt (b_6.ext e225) [.bool k0.s, .slice k0.A k0.n k0.c] rfl (Nat.le_of_ble_eq_true rfl) rfl) (by decide) ?_
          exact pi_done rfl (Ext.refl _) rfl
        · -- 5
          intro v226 e227
          have hw2 : Ext w v226 := hw1.trans e227
          refine deps_nil ?_
          refine wl_load rfl rfl (load_agg aggInt (b_7.ext e227) [.bool k1.s, .slice k1.A k1.n k1.c] rfl (Nat.le_of_ble_eq_true rfl) rfl) (by decide) ?_
          exact pi_done rfl (Ext.refl _) rfl
        · -- 6
          intro v228 e229
          have hw2 : Ext w v228 := hw1.trans e229
          refine deps_cons rfl rfl fun x230 y231 h232 e233 f234 => ?_
          obtain rfl := h232
          refine deps_cons rfl rfl fun x235 y236 h237 e238 f239 => ?_
          obtain rfl := h237
          refine deps_cons rfl rfl fun x240 y241 h242 e243 f244 => ?_
          obtain rfl := h242
          refine deps_nil ?_
          have L245 : ln ((zs.getD (j) 0) * ((nd (zs.drop (j + 1))).1) + ((nd (zs.drop (j + 1))).2)) ≤ 3145730 := Nat.le_trans (ln_add (ln_mul (Nat.le_trans (hl.ln (j) (by omega)) (Nat.le_trans (getD_le_sum _ _) hs)) (ln_nd_drop hl (j + 1) hln hs).1) (ln_nd_drop hl (j + 1) hln hs).2) (by decide)
          refine wl_call rfl rfl (vs := [.agg #[.bool s198, .slice B198 (ms.getD (j) 0) c198], .agg #[.bool k0.s, .slice k0.A k0.n k0.c], .agg #[.bool k1.s, .slice k1.A k1.n k1.c]]) (by kernel_rfl) (by decide) (g_zint_MulAdd hw2.size (z198.ext hw2) (Nat.le_trans (Nat.le_trans (getD_le_sum _ _) hs) (by decide)) (zk0.ext e229).zi (zk0.le (Nat.le_trans (ln_nd_drop hl (j + 1) hln hs).1 (by decide))) (zk1.ext e229).zi (zk1.le (Nat.le_trans (ln_nd_drop hl (j + 1) hln hs).2 (by decide)))) ?_
          rintro _ v246 ⟨xr248, rfl, r248, e247⟩
          refine ret_intro ?_
          have hw3 : Ext w v246 := hw2.trans e247
          obtain ⟨s249, A249, n249, c249, rfl, z249⟩ := r248
          exact pi_done rfl e247 ⟨_, _, _, _, rfl, z249⟩
        · -- 7
          intro v250 e251
          have hw2 : Ext w v250 := hw1.trans e251
          refine deps_nil ?_
          refine wl_load rfl rfl (load_agg aggInt (b_6.ext e251) [.bool k0.s, .slice k0.A k0.n k0.c] rfl (Nat.le_of_ble_eq_true rfl) rfl) (by decide) ?_
          exact pi_done rfl (Ext.refl _) rfl
        · -- all
          intro v252 e253
          have hw2 : Ext w v252 := hw1.trans e253
          refine deps_cons rfl rfl fun x254 y255 h256 e257 f258 => ?_
          obtain rfl := h256
          refine deps_cons rfl rfl fun x259 y260 h261 e262 f263 => ?_
          obtain rfl := h261
          refine deps_cons rfl rfl fun x264 y265 h266 e267 f268 => ?_
          obtain rfl := h266
          refine deps_cons rfl rfl fun x269 y270 h271 e272 f273 => ?_
          obtain rfl := h271
          refine deps_cons rfl rfl fun x274 y275 h276 e277 f278 => ?_
          obtain rfl := h276
          refine deps_cons rfl rfl fun x279 y280 h281 e282 f283 => ?_
          obtain rfl := h281
          refine deps_cons rfl rfl fun x284 y285 h286 e287 f288 => ?_
          obtain ⟨s289, A289, n289, c289, rfl, z289⟩ := h286
          have z289 := z289.ext f288
          refine deps_cons rfl rfl fun x290 y291 h292 e293 f294 => ?_
          obtain rfl := h292
          refine deps_nil ?_
          have hb296 := (b_6.ext e253)
          refine wl_stored rfl rfl rfl aggInt rfl hb296 (Nat.le_of_ble_eq_true rfl) rfl [.bool s289, .slice A289 n289 c289] rfl fun v295 hb297 u298 hs299 => ?_
          have hw3 : Ext w v295 := u298.ext hw2 ge180
          have hb301 := ((b_7.ext e253).updN u298 (by omega))
          refine wl_stored rfl rfl rfl aggInt rfl hb301 (Nat.le_of_ble_eq_true rfl) rfl [.bool k0.s, .slice k0.A k0.n k0.c] rfl fun v300 hb302 u303 hs304 => ?_
          have hw4 : Ext w v300 := u303.ext hw3 ge186
          refine wl_nil ?_
          refine eo_np ?_
          refine eo_block_normal ?_
          refine eo_then ?_
          -- region 12
          refine cw_region ?_
          refine wl_move rfl rfl (by decide) ?_
          refine wl_ar rfl rfl rfl ((j : Int) - 1) (ar_i64s rfl (by omega) (by omega)) (by decide) ?_
          refine wl_assign rfl rfl (by decide) ?_
          refine wl_nil ?_
          refine eo_round (⟨v300, j, (j : Int) - 1, ⟨s289, A289, n289, c289⟩, ⟨k0.s, k0.A, k0.n, k0.c⟩⟩ : World × Nat × Int × ZC × ZC) ⟨hw4, (by omega), rfl, (((b_2.ext e253).updN u298 (by omega)).updN u303 (by omega)), (hb297.updN u303 (by omega)), hb302, (((z289.updT hb296 u298).updT hb301 u303)).cast (by rw [drop_cons (zs := zs) (i := j) (by omega)]; rfl), ((((zk0.ext e253).updT hb296 u298).updT hb301 u303)).cast (by rw [drop_cons (zs := zs) (i := j) (by omega)]; rfl)⟩ (show j < j + 1 by omega) rfl ⟨rfl, rfl, rfl, rfl, rfl, rfl, trivial⟩
      ·
        obtain rfl : k = 0 := by omega
        -- region 11
        refine cw_region ?_
        refine wl_move rfl rfl (by decide) ?_
        refine wl_cmp rfl rfl rfl false (ge_f (by omega)) (by decide) ?_
        refine wl_nil ?_
        refine eo_then ?_
        refine cw_false rfl ?_
        refine cw_exit ?_
        refine eo_thenX ?_
        refine eo_loopX ?_
        refine eo_block_here ?_
        refine eo_then ?_
        refine cw_seq ?_
        -- region 14
        refine cw_region ?_
        refine wl_load rfl rfl (load_agg aggInt b_6 [.bool k0.s, .slice k0.A k0.n k0.c] rfl (Nat.le_of_ble_eq_true rfl) rfl) (by decide) ?_
        refine wl_load rfl rfl (load_agg aggInt b_7 [.bool k1.s, .slice k1.A k1.n k1.c] rfl (Nat.le_of_ble_eq_true rfl) rfl) (by decide) ?_
        refine wl_call rfl rfl (vs := [.agg #[.bool k0.s, .slice k0.A k0.n k0.c], .agg #[.bool k1.s, .slice k1.A k1.n k1.c]]) (by kernel_rfl) (by decide) (g_frac_Of_low hw1.size zk0.zi (zk0.le (Nat.le_trans (ln_nd_drop hl 0 hln hs).1 (by decide))) zk1.zi (zk1.le (Nat.le_trans (ln_nd_drop hl 0 hln hs).2 (by decide))) hD (nd_gcd zs)) ?_
        rintro _ v305 ⟨xr307, rfl, r307, e306⟩
        refine ret_intro ?_
        have hw2 : Ext w v305 := hw1.trans e306
        obtain ⟨a308_0, a308_1, rfl, r308_0, r308_1⟩ := r307
        obtain ⟨s309, A309, n309, c309, t309, B309, m309, d309, rfl, z309, y309⟩ := r308_0
        obtain rfl := r308_1
        refine wl_pure rfl rfl (v := .agg #[.bool s309, .slice A309 n309 c309, .bool t309, .slice B309 m309 d309]) (by decide) (by kernel_rfl) ?_
        refine wl_pure rfl rfl (v := .int .i64 0) (by decide) (by kernel_rfl) ?_
        have hb311 := (b_2.ext e306)
        refine wl_stored rfl rfl rfl aggFrac rfl hb311 (Nat.le_of_ble_eq_true rfl) rfl [.bool s309, .slice A309 n309 c309, .bool t309, .slice B309 m309 d309] rfl fun v310 hb312 u313 hs314 => ?_
        have hw3 : Ext w v310 := u313.ext hw2 ge5
        refine wl_assign rfl rfl (by decide) ?_
        refine wl_nil ?_
        refine eo_then ?_
        refine cw_ret ?_
        refine eo_ret [.agg #[.bool s309, .slice A309 n309 c309, .bool t309, .slice B309 m309 d309], .int .i64 0] rfl ⟨⟨_, rfl, load_agg aggFrac hb312 [.bool s309, .slice A309 n309 c309, .bool t309, .slice B309 m309 d309] rfl (Nat.le_of_ble_eq_true rfl) rfl⟩, rfl, trivial⟩ ?_
        exact ⟨_, rfl, ⟨_, _, rfl, ⟨_, _, _, _, _, _, _, _, rfl, (z309.updT hb311 u313), (y309.updT hb311 u313)⟩, rfl⟩, hw3⟩
theorem g_frac_Unchain {w : World} {A : Option Addr} {n cap : Nat} {zs : List Int} {ms : List Nat} {b : Nat} (hb : b ≤ w.heap.size)  (hl0 : Zl w A n cap zs ms) (hln : n ≤ 1048576) (hs : ms.sum ≤ 1048576) (hn0 : 0 < n) (hf : Fit zs) (hD : 0 < (nd zs).2) :
    Calls Try.prog 13 #[.slice A n cap] w (Gv w (T2 (FR b ((nd zs).1) ((nd zs).2)) (Is (.int .i64 0)))) := (g_frac_UnchainI hl0 hln hs hn0 hf hD).mono (Gv.imp (T2.imp (FR.imp hb) Is.imp))
theorem g_frac_Unchain_badI {w : World} {A : Option Addr} {n cap : Nat} {zs : List Int} {ms : List Nat} (hl0 : Zl w A n cap zs ms) (hln : n ≤ 1048576) (hs : ms.sum ≤ 1048576) (hf : ¬ Fit zs) :
    Calls Try.prog 13 #[.slice A n cap] w (Gv w (T2 (FR w.heap.size (0) (0)) (Is (.int .i64 3)))) := by
  refine sx_enter Try.func13 rfl (n := 47) rfl (Nat.le_of_ble_eq_true rfl) (args := [.slice A n cap]) ?_
  refine cw_keep [(0, .slice A n cap)] ⟨rfl, trivial⟩ ?_
  refine cw_seq ?_
  -- region 0
  refine cw_region ?_
  refine wl_alloc rfl (z := .agg #[.bool false, .slice none 0 0, .bool false, .slice none 0 0]) (vs := [.bool false, .slice none 0 0, .bool false, .slice none 0 0]) (fun _ => by kernel_rfl) rfl (by decide) fun g1 v2 nb => ?_
  have hb4 := nb.bk
  have ge5 : w.heap.size ≤ g1 := by rw [← nb.at_]; exact (Ext.refl w).size
  have e3 := nb.ext
  clear nb
  have hw1 : Ext w v2 := (Ext.refl w).trans e3
  refine wl_assign rfl rfl (by decide) ?_
  refine wl_nil ?_
  refine eo_then ?_
  refine cw_seq ?_
  refine cw_seq ?_
  by_cases hz : n = 0
  ·
    subst hz
    -- region 1
    refine cw_region ?_
    refine wl_move rfl rfl (by decide) ?_
    refine wl_pure rfl rfl (v := .int .i64 0) (by decide) (by kernel_rfl) ?_
    refine wl_pure rfl rfl (v := .bool true) (by decide) (by kernel_rfl) ?_
    refine wl_nil ?_
    refine eo_then ?_
    refine cw_true rfl ?_
    refine cw_seq ?_
    -- region 2
    refine cw_region ?_
    refine wl_pure rfl rfl (v := .agg #[.bool false, .slice none 0 0, .bool false, .slice none 0 0]) (by decide) (by kernel_rfl) ?_
    have hb7 := hb4
    refine wl_stored rfl rfl rfl aggFrac rfl hb7 (Nat.le_of_ble_eq_true rfl) rfl [.bool false, .slice none 0 0, .bool false, .slice none 0 0] rfl fun v6 hb8 u9 hs10 => ?_
    have hw2 : Ext w v6 := u9.ext hw1 ge5
    refine wl_assign rfl rfl (by decide) ?_
    refine wl_nil ?_
    refine eo_then ?_
    refine cw_ret ?_
    refine eo_thenR ?_
    refine eo_ret [.agg #[.bool false, .slice none 0 0, .bool false, .slice none 0 0], .int .i64 3] rfl ⟨⟨_, rfl, load_agg aggFrac hb8 [.bool false, .slice none 0 0, .bool false, .slice none 0 0] rfl (Nat.le_of_ble_eq_true rfl) rfl⟩, rfl, trivial⟩ ?_
    exact ⟨_, rfl, ⟨_, _, rfl, ⟨_, _, _, _, _, _, _, _, rfl, (Zr.zero (w := v6) (base := w.heap.size)), (Zr.zero (w := v6) (base := w.heap.size))⟩, rfl⟩, hw2⟩
  ·
    obtain ⟨a, rfl⟩ := hl0.some (by omega)
    have hl := hl0
    have hlen := hl.len
    have hle := hl.le
    have hmx := hl.max
    rw [len_maxLen] at hmx
    have hn0 : 0 < n := by omega
    -- region 1
    refine cw_region ?_
    refine wl_move rfl rfl (by decide) ?_
    refine wl_pure rfl rfl (v := .int .i64 ((n : Nat) : Int)) (by decide) (by kernel_rfl) ?_
    refine wl_cmp rfl rfl rfl false (eq_f (by omega)) (by decide) ?_
    refine wl_nil ?_
    refine eo_then ?_
    refine cw_false rfl ?_
    refine cw_skip ?_
    refine eo_then ?_
    refine cw_seq ?_
    refine cw_seq ?_
    by_cases hc1 : cap = 1
    ·
      -- region 3
      refine cw_region ?_
      refine wl_move rfl rfl (by decide) ?_
      refine wl_slice rfl rfl elemInt aggInt.size (lo := 1) (hi := n) rfl rfl (by omega) hle (v := .slice (some a) (n - 1) (cap - 1)) (by rw [if_pos hc1]) (by decide) ?_
      refine wl_pure rfl rfl (v := .int .i64 (((n - 1) : Nat) : Int)) (by decide) (by kernel_rfl) ?_
      refine wl_move rfl rfl (by decide) ?_
      refine wl_nil ?_
      refine eo_then ?_
      refine cw_block ?_
      refine cw_loop (T := World × Nat)
        (fun ⟨wr, i⟩ => [(0, .slice (some a) n cap), (2, .pointer (some ⟨g1, 0, none⟩)), (3, .int .i64 0), (14, .slice (some a) (n - 1) (cap - 1)), (15, .int .i64 (((n - 1) : Nat) : Int)), (16, .int .i64 (i : Int))])
        (fun ⟨wr, i⟩ => wr)
        (fun ⟨wr, i⟩ => (Ext w wr) ∧ (i ≤ n - 1) ∧ (∀ j, 1 ≤ j → j < i + 1 → 0 < zs.getD j 0) ∧ (Bk wr g1 29 [.bool false, .slice none 0 0, .bool false, .slice none 0 0]))
        (fun ⟨wr, i⟩ => n - i)
        (⟨v2, 0⟩ : World × Nat) ⟨hw1, Nat.zero_le _, (fun j h1 h2 => by omega), hb4⟩ rfl ⟨rfl, rfl, rfl, rfl, rfl, rfl, trivial⟩ ?_
      rintro ⟨wr, i⟩ ⟨hw1, hin, hall, b_2⟩
      refine cw_re [(0, .slice (some a) n cap), (2, .pointer (some ⟨g1, 0, none⟩)), (3, .int .i64 0), (14, .slice (some a) (n - 1) (cap - 1)), (15, .int .i64 (((n - 1) : Nat) : Int)), (16, .int .i64 (i : Int))] wr rfl ⟨rfl, rfl, rfl, rfl, rfl, rfl, trivial⟩ ?_
      refine cw_seq ?_
      by_cases hlt : i < n - 1
      ·
        omega
      ·
        exact absurd ⟨fun e => by rw [e] at hlen; simp at hlen; omega, fun j h1 h2 => hall j h1 (by omega)⟩ hf
    ·
      -- region 3
      refine cw_region ?_
      refine wl_move rfl rfl (by decide) ?_
      refine wl_slice rfl rfl elemInt aggInt.size (lo := 1) (hi := n) rfl rfl (by omega) hle (v := .slice (some (a.add 2)) (n - 1) (cap - 1)) (by rw [if_neg hc1]; rfl) (by decide) ?_
      refine wl_pure rfl rfl (v := .int .i64 (((n - 1) : Nat) : Int)) (by decide) (by kernel_rfl) ?_
      refine wl_move rfl rfl (by decide) ?_
      refine wl_nil ?_
      refine eo_then ?_
      refine cw_block ?_
      refine cw_loop (T := World × Nat)
        (fun ⟨wr, i⟩ => [(0, .slice (some a) n cap), (2, .pointer (some ⟨g1, 0, none⟩)), (3, .int .i64 0), (14, .slice (some (a.add 2)) (n - 1) (cap - 1)), (15, .int .i64 (((n - 1) : Nat) : Int)), (16, .int .i64 (i : Int))])
        (fun ⟨wr, i⟩ => wr)
        (fun ⟨wr, i⟩ => (Ext w wr) ∧ (i ≤ n - 1) ∧ (∀ j, 1 ≤ j → j < i + 1 → 0 < zs.getD j 0) ∧ (Bk wr g1 29 [.bool false, .slice none 0 0, .bool false, .slice none 0 0]))
        (fun ⟨wr, i⟩ => n - i)
        (⟨v2, 0⟩ : World × Nat) ⟨hw1, Nat.zero_le _, (fun j h1 h2 => by omega), hb4⟩ rfl ⟨rfl, rfl, rfl, rfl, rfl, rfl, trivial⟩ ?_
      rintro ⟨wr, i⟩ ⟨hw1, hin, hall, b_2⟩
      refine cw_re [(0, .slice (some a) n cap), (2, .pointer (some ⟨g1, 0, none⟩)), (3, .int .i64 0), (14, .slice (some (a.add 2)) (n - 1) (cap - 1)), (15, .int .i64 (((n - 1) : Nat) : Int)), (16, .int .i64 (i : Int))] wr rfl ⟨rfl, rfl, rfl, rfl, rfl, rfl, trivial⟩ ?_
      refine cw_seq ?_
      by_cases hlt : i < n - 1
      ·
        -- region 4
        refine cw_region ?_
        refine wl_cmp rfl rfl rfl true (lt_nat_t hlt) (by decide) ?_
        refine wl_nil ?_
        refine eo_then ?_
        refine cw_seq ?_
        refine cw_true rfl ?_
        refine cw_skip ?_
        refine eo_then ?_
        refine cw_seq ?_
        refine cw_block ?_
        refine cw_seq ?_
        -- region 5
        refine cw_region ?_
        obtain ⟨s11, B11, c11, ld11, z11⟩ := hl.elem (i := i + 1) (by omega)
        refine wl_index rfl rfl rfl elemInt aggInt.size (by omega) (by omega) (a.add ((i + 1) * 2)) (by rw [add_of_add]; congr 1; omega) (by decide) ?_
        refine wl_load rfl rfl (ld11 _ hw1 _ _ aggInt) (by decide) ?_
        refine wl_alloc rfl (z := .agg #[.bool false, .slice none 0 0]) (vs := [.bool false, .slice none 0 0]) (fun _ => by kernel_rfl) rfl (by decide) fun g12 v13 nb => ?_
        have hb15 := nb.bk
        have ge16 : w.heap.size ≤ g12 := by rw [← nb.at_]; exact hw1.size
        have q17 : g1 < g12 := by rw [← nb.at_]; exact b_2.lt
        have e14 := nb.ext
        clear nb
        have hw2 : Ext w v13 := hw1.trans e14
        have hb19 := hb15
        refine wl_stored rfl rfl rfl aggInt rfl hb19 (Nat.le_of_ble_eq_true rfl) rfl [.bool s11, .slice B11 (ms.getD (i + 1) 0) c11] rfl fun v18 hb20 u21 hs22 => ?_
        have hw3 : Ext w v18 := u21.ext hw2 ge16
        refine wl_nil ?_
        refine eo_then ?_
        refine cw_seq ?_
        by_cases hx : zs.getD (i + 1) 0 ≤ 0
        ·
          -- region 6
          refine cw_region ?_
          refine wl_load rfl rfl (load_agg aggInt hb20 [.bool s11, .slice B11 (ms.getD (i + 1) 0) c11] rfl (Nat.le_of_ble_eq_true rfl) rfl) (by decide) ?_
          refine wl_call rfl rfl (vs := [.agg #[.bool s11, .slice B11 (ms.getD (i + 1) 0) c11]]) (by kernel_rfl) (by decide) (g_zint_Sign (z11.ext hw3) (Nat.le_trans (Nat.le_trans (getD_le_sum _ _) hs) (by decide))) ?_
          rintro _ v23 ⟨xr25, rfl, r25, e24⟩
          refine ret_intro ?_
          have hw4 : Ext w v23 := hw3.trans e24
          obtain rfl := r25
          refine wl_cmp rfl rfl rfl true (scmp_le_t hx) (by decide) ?_
          refine wl_nil ?_
          refine eo_then ?_
          refine cw_true rfl ?_
          refine cw_seq ?_
          -- region 7
          refine cw_region ?_
          refine wl_pure rfl rfl (v := .agg #[.bool false, .slice none 0 0, .bool false, .slice none 0 0]) (by decide) (by kernel_rfl) ?_
          have hb27 := (((b_2.ext e14).updN u21 (by omega)).ext e24)
          refine wl_stored rfl rfl rfl aggFrac rfl hb27 (Nat.le_of_ble_eq_true rfl) rfl [.bool false, .slice none 0 0, .bool false, .slice none 0 0] rfl fun v26 hb28 u29 hs30 => ?_
          have hw5 : Ext w v26 := u29.ext hw4 ge5
          refine wl_assign rfl rfl (by decide) ?_
          refine wl_nil ?_
          refine eo_then ?_
          refine cw_ret ?_
          refine eo_block_ret ?_
          refine eo_thenR ?_
          refine eo_loopR ?_
          refine eo_block_ret ?_
          refine eo_thenR ?_
          refine eo_ret [.agg #[.bool false, .slice none 0 0, .bool false, .slice none 0 0], .int .i64 3] rfl ⟨⟨_, rfl, load_agg aggFrac hb28 [.bool false, .slice none 0 0, .bool false, .slice none 0 0] rfl (Nat.le_of_ble_eq_true rfl) rfl⟩, rfl, trivial⟩ ?_
          exact ⟨_, rfl, ⟨_, _, rfl, ⟨_, _, _, _, _, _, _, _, rfl, (Zr.zero (w := v26) (base := w.heap.size)), (Zr.zero (w := v26) (base := w.heap.size))⟩, rfl⟩, hw5⟩
        ·
          -- region 6
          refine cw_region ?_
          refine wl_load rfl rfl (load_agg aggInt hb20 [.bool s11, .slice B11 (ms.getD (i + 1) 0) c11] rfl (Nat.le_of_ble_eq_true rfl) rfl) (by decide) ?_
          refine wl_call rfl rfl (vs := [.agg #[.bool s11, .slice B11 (ms.getD (i + 1) 0) c11]]) (by kernel_rfl) (by decide) (g_zint_Sign (z11.ext hw3) (Nat.le_trans (Nat.le_trans (getD_le_sum _ _) hs) (by decide))) ?_
          rintro _ v31 ⟨xr33, rfl, r33, e32⟩
          refine ret_intro ?_
          have hw4 : Ext w v31 := hw3.trans e32
          obtain rfl := r33
          refine wl_cmp rfl rfl rfl false (scmp_le_f (by omega)) (by decide) ?_
          refine wl_nil ?_
          refine eo_then ?_
          refine cw_false rfl ?_
          refine cw_skip ?_
          refine eo_block_normal ?_
          refine eo_then ?_
          -- region 8
          refine cw_region ?_
          refine wl_ar rfl rfl rfl ((i + 1 : Nat) : Int) (ar_i64 (by omega) (by omega) (by omega)) (by decide) ?_
          refine wl_move rfl rfl (by decide) ?_
          refine wl_nil ?_
          refine eo_round (⟨v31, i + 1⟩ : World × Nat) ⟨hw4, (by omega), (fun j h1 h2 => by rcases Nat.lt_or_ge j (i + 1) with h3 | h3; exact hall j h1 h3; obtain rfl : j = i + 1 := (by omega); omega), (((b_2.ext e14).updN u21 (by omega)).ext e32)⟩ (show n - (i + 1) < n - i by omega) rfl ⟨rfl, rfl, rfl, rfl, rfl, rfl, trivial⟩
      ·
        exact absurd ⟨fun e => by rw [e] at hlen; simp at hlen; omega, fun j h1 h2 => hall j h1 (by omega)⟩ hf
theorem g_frac_Unchain_bad {w : World} {A : Option Addr} {n cap : Nat} {zs : List Int} {ms : List Nat} {b : Nat} (hb : b ≤ w.heap.size)  (hl0 : Zl w A n cap zs ms) (hln : n ≤ 1048576) (hs : ms.sum ≤ 1048576) (hf : ¬ Fit zs) :
    Calls Try.prog 13 #[.slice A n cap] w (Gv w (T2 (FR b (0) (0)) (Is (.int .i64 3)))) := (g_frac_Unchain_badI hl0 hln hs hf).mono (Gv.imp (T2.imp (FR.imp hb) Is.imp))

end Go.Proofs.Ytmaconeeonkdgaa
