/- trellislaw08: FracNeighbours -/
import Derived.Test.YtmaconeeonkdgaaLg8
namespace Go.Proofs.Ytmaconeeonkdgaa
open Go.RowKit

theorem sum_take_le (ms : List Nat) (k : Nat) : (ms.take k).sum ≤ ms.sum := by
  have : ms.sum = (ms.take k).sum + (ms.drop k).sum := by rw [← List.sum_append, List.take_append_drop]
  omega
theorem ln_nd_take {w : World} {A : Option Addr} {n cap : Nat} {zs : List Int} {ms : List Nat} (h : Zl w A n cap zs ms) (k : Nat) (hk : k ≤ n) (hl : n ≤ 1048576) (hs : ms.sum ≤ 1048576) : ln (nd (zs.take k)).1 ≤ 2097153 ∧ ln (nd (zs.take k)).2 ≤ 2097153 := by
  have := ln_nd_drop (h.take hk) 0 (by omega) (Nat.le_trans (sum_take_le _ _) hs)
  simpa using this
theorem fit_pos {w : World} {A : Option Addr} {n cap : Nat} {zs : List Int} {ms : List Nat} (hf : Fit zs) (h : Zl w A n cap zs ms) : 0 < n := by
  refine Nat.pos_of_ne_zero (fun e => hf.1 (List.eq_nil_of_length_eq_zero (by rw [h.len, e])))
theorem fit_take {zs : List Int} {k : Nat} (hf : Fit zs) (hk : 1 ≤ k) : Fit (zs.take k) := by
  refine ⟨fun e => hf.1 ?_, fun i h1 h2 => ?_⟩
  · cases zs with
    | nil => rfl
    | cons x r => cases k with
      | zero => omega
      | succ k => simp at e
  · rw [List.length_take] at h2
    have := hf.2 i h1 (by omega)
    rw [List.getD_eq_getElem?_getD, List.getElem?_take, if_pos (by omega), ← List.getD_eq_getElem?_getD]
    exact this
theorem fit_den {zs : List Int} {k : Nat} (hf : Fit zs) (hk : 1 ≤ k) : 0 < (nd (zs.take k)).2 := by
  have h := fit_take hf hk
  cases e : zs.take k with
  | nil => exact absurd e h.1
  | cons x r =>
    refine nd_den_pos x r (fun y hy => ?_)
    obtain ⟨i, hi, rfl⟩ := List.getElem_of_mem hy
    have := h.2 (i + 1) (by omega) (by rw [e]; simpa using hi)
    rw [e] at this
    simpa [List.getD_eq_getElem?_getD, List.getElem?_eq_getElem hi] using this
theorem low_first {w : World} {A : Option Addr} {n cap : Nat} {zs : List Int} {ms : List Nat} (hf : Fit zs) (h : Zl w A n cap zs ms) : Low (nd (zs.take 1)).1 (nd (zs.take 1)).2 (zs.getD 0 0) 1 := by
  cases zs with
  | nil => exact absurd rfl hf.1
  | cons x r =>
    have e : nd ((x :: r).take 1) = (x * 1 + 0, 1) := rfl
    rw [e]
    simp only [List.getD_cons_zero, Int.mul_one, Int.add_zero]
    exact ⟨by decide, by simp, rfl, Nat.le_refl _, Nat.le_refl _⟩
theorem cross_at {w : World} {A : Option Addr} {n cap k : Nat} {zs : List Int} {ms : List Nat} (h : Zl w A n cap zs ms) (hk : k < n) (h1 : 1 ≤ k) :
    (nd (zs.take (k + 1))).1 * (nd (zs.take k)).2 - (nd (zs.take k)).1 * (nd (zs.take (k + 1))).2 = if k % 2 = 1 then 1 else -1 := by
  have hlt : k < zs.length := by rw [h.len]; exact hk
  have hl : (zs.take k).length = k := by rw [List.length_take]; omega
  have hne : zs.take k ≠ [] := fun e => by rw [e] at hl; simp at hl; omega
  have := nd_cross (zs.take k) (zs.getD k 0) hne
  rw [← take_snoc zs k hlt 0, hl] at this
  exact this
theorem cross_even {w : World} {A : Option Addr} {n cap k : Nat} {zs : List Int} {ms : List Nat} (h : Zl w A n cap zs ms) (hk : k < n) (h1 : 1 ≤ k) (hp : k % 2 = 0) :
    (nd (zs.take (k + 1))).1 * (nd (zs.take k)).2 - (nd (zs.take k)).1 * (nd (zs.take (k + 1))).2 = -1 := by rw [cross_at h hk h1, if_neg (by omega)]
theorem cross_odd {w : World} {A : Option Addr} {n cap k : Nat} {zs : List Int} {ms : List Nat} (h : Zl w A n cap zs ms) (hk : k < n) (h1 : 1 ≤ k) (hp : ¬ k % 2 = 0) :
    (nd (zs.take (k + 1))).1 * (nd (zs.take k)).2 - (nd (zs.take k)).1 * (nd (zs.take (k + 1))).2 = 1 := by rw [cross_at h hk h1, if_pos (by omega)]
theorem slice_low {a : Addr} {c k : Nat} (h : 0 < c) : Value.slice (if c = 0 then some a else (some a).map (·.add (0 * 2))) (k - 0) (c - 0) = .slice (some a) k c := by
  rw [if_neg (by omega), Nat.zero_mul]
  simp [add_zero_addr]

theorem law_FracNeighbours {w : World} {A : Option Addr} {n cap : Nat} {zs : List Int} {ms : List Nat} (hl0 : Zl w A n cap zs ms) (hln : n ≤ 1048576) (hs : ms.sum ≤ 1048576)  :
    Calls Try.prog 3 #[.slice A n cap] w (BoolP true w) := by
  refine sx_enter Try.func3 rfl (n := 85) rfl (Nat.le_of_ble_eq_true rfl) (args := [.slice A n cap]) ?_
  refine cw_keep [(0, .slice A n cap)] ⟨rfl, trivial⟩ ?_
  refine cw_seq ?_
  -- region 0
  refine cw_region ?_
  refine wl_assign rfl rfl (by decide) ?_
  refine wl_nil ?_
  refine eo_then ?_
  refine cw_seq ?_
  refine cw_seq ?_
  -- region 1
  refine cw_region ?_
  refine wl_call rfl rfl (vs := []) (by kernel_rfl) (by decide) (g_law8_awake _) ?_
  rintro _ v1 ⟨xr3, rfl, r3, e2⟩
  refine ret_intro ?_
  have hw1 : Ext w v1 := (Ext.refl w).trans e2
  obtain rfl := r3
  refine wl_pure rfl rfl (v := .bool false) (by decide) (by kernel_rfl) ?_
  refine wl_nil ?_
  refine eo_then ?_
  refine cw_false rfl ?_
  refine cw_skip ?_
  refine eo_then ?_
  refine cw_seq ?_
  refine cw_seq ?_
  by_cases hf : Fit zs
  ·
    -- region 3
    refine cw_region ?_
    refine wl_move rfl rfl (by decide) ?_
    refine wl_call rfl rfl (vs := [.slice A n cap]) (by kernel_rfl) (by decide) (g_law8_fit (hl0.ext hw1) hln hs (b := true) ⟨fun _ => hf, fun _ => rfl⟩) ?_
    rintro _ v4 ⟨xr6, rfl, r6, e5⟩
    refine ret_intro ?_
    have hw2 : Ext w v4 := hw1.trans e5
    obtain rfl := r6
    refine wl_pure rfl rfl (v := .bool false) (by decide) (by kernel_rfl) ?_
    refine wl_nil ?_
    refine eo_then ?_
    refine cw_false rfl ?_
    refine cw_skip ?_
    refine eo_then ?_
    refine cw_seq ?_
    obtain ⟨a, rfl⟩ := hl0.some (fit_pos hf hl0)
    have hl := hl0
    have hn0 := fit_pos hf hl0
    have hle := hl.le
    -- region 6
    refine cw_region ?_
    refine wl_move rfl rfl (by decide) ?_
    refine wl_slice rfl rfl elemInt aggInt.size (lo := 0) (hi := 1) rfl rfl (by omega) (by omega) (v := .slice (some a) 1 cap) (slice_low (by omega)) (by decide) ?_
    have D1 : ln (nd (zs.take 1)).1 ≤ 2097153 ∧ ln (nd (zs.take 1)).2 ≤ 2097153 := ln_nd_take hl0 1 (by omega) hln hs
    have M7a := D1.1
    have M7b := D1.2
    refine wl_call rfl rfl (vs := [.slice (some a) 1 cap]) (by kernel_rfl) (by decide) (g_frac_Unchain hw2.size ((hl0.take (k := 1) (by omega)).ext hw2) (by omega) (Nat.le_trans (sum_take_le _ _) hs) (by omega) (fit_take hf (by omega)) (fit_den hf (by omega))) ?_
    rintro _ v8 ⟨xr10, rfl, r10, e9⟩
    refine ret_intro ?_
    have hw3 : Ext w v8 := hw2.trans e9
    obtain ⟨a11_0, a11_1, rfl, r11_0, r11_1⟩ := r10
    obtain ⟨s12, A12, n12, c12, t12, B12, m12, d12, rfl, z12, y12⟩ := r11_0
    obtain rfl := r11_1
    refine wl_move rfl rfl (by decide) ?_
    refine wl_pure rfl rfl (v := .agg #[.bool s12, .slice A12 n12 c12, .bool t12, .slice B12 m12 d12]) (by decide) (by kernel_rfl) ?_
    refine wl_pure rfl rfl (v := .int .i64 0) (by decide) (by kernel_rfl) ?_
    refine wl_alloc rfl (z := .agg #[.bool false, .slice none 0 0, .bool false, .slice none 0 0]) (vs := [.bool false, .slice none 0 0, .bool false, .slice none 0 0]) (fun _ => by kernel_rfl) rfl (by decide) fun g13 v14 nb => ?_
    have hb16 := nb.bk
    have ge17 : w.heap.size ≤ g13 := by rw [← nb.at_]; exact hw3.size
    have e15 := nb.ext
    clear nb
    have hw4 : Ext w v14 := hw3.trans e15
    have hb19 := hb16
    refine wl_stored rfl rfl rfl aggFrac rfl hb19 (Nat.le_of_ble_eq_true rfl) rfl [.bool s12, .slice A12 n12 c12, .bool t12, .slice B12 m12 d12] rfl fun v18 hb20 u21 hs22 => ?_
    have hw5 : Ext w v18 := u21.ext hw4 ge17
    refine wl_assign rfl rfl (by decide) ?_
    refine wl_nil ?_
    refine eo_then ?_
    refine cw_seq ?_
    refine cw_seq ?_
    have hlow0 := low_first hf hl0
    -- region 7, in whatever order
    obtain ⟨s23, B23, c23, ld23, z23⟩ := hl.elem (i := 0) (by omega)
    refine cw_draw mix 11 [] [Is (.int .i64 0), Is (.bool false), Is (.bool false), Is (.agg #[.bool s12, .slice A12 n12 c12, .bool t12, .slice B12 m12 d12]), Is (.slice (some a) n cap), Is (.pointer (some (a.add ((0) * 2)))), Is (.agg #[.bool s23, .slice B23 (ms.getD (0) 0) c23]), ZR w.heap.size (1), Is (.bool true), Is (.bool false), Is (.bool false)] [[], [0], [1], [2], [2], [2, 4], [2, 5], [2], [2, 3, 6, 7], [2, 8], [2, 9]] [[], [0], [0, 1], [0, 1, 2], [0, 1, 2], [0, 1, 2, 4], [0, 1, 2, 4, 5], [0, 1, 2], [0, 1, 2, 3, 4, 5, 6, 7], [0, 1, 2, 3, 4, 5, 6, 7, 8], [0, 1, 2, 3, 4, 5, 6, 7, 8, 9]] rfl
      (obs_cons rfl rfl (hob rfl ?_) (obs_cons rfl rfl (hob rfl ?_) (obs_cons rfl rfl (hob rfl ?_) (obs_cons rfl rfl (hob rfl ?_) (obs_cons rfl rfl (hob rfl ?_) (obs_cons rfl rfl (hob rfl ?_) (obs_cons rfl rfl (hob rfl ?_) (obs_cons rfl rfl (hob rfl ?_) (obs_cons rfl rfl (hob rfl ?_) (obs_cons rfl rfl (hob rfl ?_) (obs_cons rfl rfl (hob rfl ?_) obs_nil))))))))))) ?_
    · -- 0
      intro v25 e26
      have hw6 : Ext w v25 := hw5.trans e26
      refine deps_nil ?_
      refine wl_move rfl rfl (by decide) ?_
      exact pi_done rfl (Ext.refl _) rfl
    · -- 1
      intro v27 e28
      have hw6 : Ext w v27 := hw5.trans e28
      refine deps_cons rfl rfl fun x29 y30 h31 e32 f33 => ?_
      obtain rfl := h31
      refine deps_nil ?_
      refine wl_pure rfl rfl (v := .bool false) (by decide) (by kernel_rfl) ?_
      exact pi_done rfl (Ext.refl _) rfl
    · -- 2
      intro v34 e35
      have hw6 : Ext w v34 := hw5.trans e35
      refine deps_cons rfl rfl fun x36 y37 h38 e39 f40 => ?_
      obtain rfl := h38
      refine deps_nil ?_
      refine wl_move rfl rfl (by decide) ?_
      exact pi_done rfl (Ext.refl _) rfl
    · -- 3
      intro v41 e42
      have hw6 : Ext w v41 := hw5.trans e42
      refine deps_cons rfl rfl fun x43 y44 h45 e46 f47 => ?_
      obtain rfl := h45
      refine deps_nil ?_
      refine wl_load rfl rfl (load_agg aggFrac (hb20.ext e42) [.bool s12, .slice A12 n12 c12, .bool t12, .slice B12 m12 d12] rfl (Nat.le_of_ble_eq_true rfl) rfl) (by decide) ?_
      exact pi_done rfl (Ext.refl _) rfl
    · -- 4
      intro v48 e49
      have hw6 : Ext w v48 := hw5.trans e49
      refine deps_cons rfl rfl fun x50 y51 h52 e53 f54 => ?_
      obtain rfl := h52
      refine deps_nil ?_
      refine wl_move rfl rfl (by decide) ?_
      exact pi_done rfl (Ext.refl _) rfl
    · -- 5
      intro v55 e56
      have hw6 : Ext w v55 := hw5.trans e56
      refine deps_cons rfl rfl fun x57 y58 h59 e60 f61 => ?_
      obtain rfl := h59
      refine deps_cons rfl rfl fun x62 y63 h64 e65 f66 => ?_
      obtain rfl := h64
      refine deps_nil ?_
      refine wl_index rfl rfl rfl elemInt aggInt.size (by omega) (by omega) (a.add ((0) * 2)) rfl (by decide) ?_
      exact pi_done rfl (Ext.refl _) rfl
    · -- 6
      intro v67 e68
      have hw6 : Ext w v67 := hw5.trans e68
      refine deps_cons rfl rfl fun x69 y70 h71 e72 f73 => ?_
      obtain rfl := h71
      refine deps_cons rfl rfl fun x74 y75 h76 e77 f78 => ?_
      obtain rfl := h76
      refine deps_nil ?_
      refine wl_load rfl rfl (ld23 _ hw6 _ _ aggInt) (by decide) ?_
      exact pi_done rfl (Ext.refl _) rfl
    · -- 7
      intro v79 e80
      have hw6 : Ext w v79 := hw5.trans e80
      refine deps_cons rfl rfl fun x81 y82 h83 e84 f85 => ?_
      obtain rfl := h83
      refine deps_nil ?_
      refine wl_call rfl rfl (vs := [.int .i64 1]) (by kernel_rfl) (by decide) (g_zint_Of hw6.size (by decide) (by decide)) ?_
      rintro _ v86 ⟨xr88, rfl, r88, e87⟩
      refine ret_intro ?_
      have hw7 : Ext w v86 := hw6.trans e87
      obtain ⟨s89, A89, n89, c89, rfl, z89⟩ := r88
      exact pi_done rfl e87 ⟨_, _, _, _, rfl, z89⟩
    · -- 8
      intro v90 e91
      have hw6 : Ext w v90 := hw5.trans e91
      refine deps_cons rfl rfl fun x92 y93 h94 e95 f96 => ?_
      obtain rfl := h94
      refine deps_cons rfl rfl fun x97 y98 h99 e100 f101 => ?_
      obtain rfl := h99
      refine deps_cons rfl rfl fun x102 y103 h104 e105 f106 => ?_
      obtain rfl := h104
      refine deps_cons rfl rfl fun x107 y108 h109 e110 f111 => ?_
      obtain ⟨s112, A112, n112, c112, rfl, z112⟩ := h109
      have z112 := z112.ext f111
      refine deps_nil ?_
      refine wl_call rfl rfl (vs := [.agg #[.bool s12, .slice A12 n12 c12, .bool t12, .slice B12 m12 d12], .agg #[.bool s23, .slice B23 (ms.getD (0) 0) c23], .agg #[.bool s112, .slice A112 n112 c112]]) (by kernel_rfl) (by decide) (g_law8_names (((z12.ext e15).updT hb19 u21).ext e91) (z12.le (Nat.le_trans M7a (by decide))) (((y12.ext e15).updT hb19 u21).ext e91) (y12.le (Nat.le_trans M7b (by decide))) (z23.ext hw6) (Nat.le_trans (Nat.le_trans (getD_le_sum _ _) hs) (by decide)) z112.zi (z112.le (Nat.le_trans (show ln (1) ≤ 1 by decide +kernel) (by decide))) hlow0) ?_
      rintro _ v113 ⟨xr115, rfl, r115, e114⟩
      refine ret_intro ?_
      have hw7 : Ext w v113 := hw6.trans e114
      obtain rfl := r115
      exact pi_done rfl e114 rfl
    · -- 9
      intro v116 e117
      have hw6 : Ext w v116 := hw5.trans e117
      refine deps_cons rfl rfl fun x118 y119 h120 e121 f122 => ?_
      obtain rfl := h120
      refine deps_cons rfl rfl fun x123 y124 h125 e126 f127 => ?_
      obtain rfl := h125
      refine deps_nil ?_
      refine wl_pure rfl rfl (v := .bool false) (by decide) (by kernel_rfl) ?_
      exact pi_done rfl (Ext.refl _) rfl
    · -- 10
      intro v128 e129
      have hw6 : Ext w v128 := hw5.trans e129
      refine deps_cons rfl rfl fun x130 y131 h132 e133 f134 => ?_
      obtain rfl := h132
      refine deps_cons rfl rfl fun x135 y136 h137 e138 f139 => ?_
      obtain rfl := h137
      refine deps_nil ?_
      refine wl_pure rfl rfl (v := .bool false) (by decide) (by kernel_rfl) ?_
      exact pi_done rfl (Ext.refl _) rfl
    · -- all
      intro v140 e141
      have hw6 : Ext w v140 := hw5.trans e141
      refine deps_cons rfl rfl fun x142 y143 h144 e145 f146 => ?_
      obtain rfl := h144
      refine deps_cons rfl rfl fun x147 y148 h149 e150 f151 => ?_
      obtain rfl := h149
      refine deps_cons rfl rfl fun x152 y153 h154 e155 f156 => ?_
      obtain rfl := h154
      refine deps_cons rfl rfl fun x157 y158 h159 e160 f161 => ?_
      obtain rfl := h159
      refine deps_cons rfl rfl fun x162 y163 h164 e165 f166 => ?_
      obtain rfl := h164
      refine deps_cons rfl rfl fun x167 y168 h169 e170 f171 => ?_
      obtain rfl := h169
      refine deps_cons rfl rfl fun x172 y173 h174 e175 f176 => ?_
      obtain rfl := h174
      refine deps_cons rfl rfl fun x177 y178 h179 e180 f181 => ?_
      obtain ⟨s182, A182, n182, c182, rfl, z182⟩ := h179
      have z182 := z182.ext f181
      refine deps_cons rfl rfl fun x183 y184 h185 e186 f187 => ?_
      obtain rfl := h185
      refine deps_cons rfl rfl fun x188 y189 h190 e191 f192 => ?_
      obtain rfl := h190
      refine deps_cons rfl rfl fun x193 y194 h195 e196 f197 => ?_
      obtain rfl := h195
      refine deps_nil ?_
      refine wl_nil ?_
      refine eo_np ?_
      refine eo_then ?_
      refine cw_false rfl ?_
      refine cw_skip ?_
      refine eo_then ?_
      refine cw_seq ?_
      refine cw_seq ?_
      -- region 9
      refine cw_region ?_
      refine wl_assign rfl rfl (by decide) ?_
      refine wl_nil ?_
      refine eo_then ?_
      refine cw_block ?_
      refine cw_loop (T := World × Nat × ZC × ZC)
        (fun ⟨wr, k, k0, k1⟩ => [(0, .slice (some a) n cap), (2, .bool false), (5, .pointer (some ⟨g13, 0, none⟩)), (7, .int .i64 (k : Int))])
        (fun ⟨wr, k, k0, k1⟩ => wr)
        (fun ⟨wr, k, k0, k1⟩ => (Ext w wr) ∧ (1 ≤ k) ∧ (k ≤ n) ∧ (Bk wr g13 29 [.bool k0.s, .slice k0.A k0.n k0.c, .bool k1.s, .slice k1.A k1.n k1.c]) ∧ (Zr wr w.heap.size k0.s k0.A k0.n k0.c (nd (zs.take k)).1) ∧ (Zr wr w.heap.size k1.s k1.A k1.n k1.c (nd (zs.take k)).2))
        (fun ⟨wr, k, k0, k1⟩ => n - k)
        (⟨v140, 1, ⟨s12, A12, n12, c12⟩, ⟨t12, B12, m12, d12⟩⟩ : World × Nat × ZC × ZC) ⟨hw6, (by omega), (by omega), (hb20.ext e141), (((z12.ext e15).updT hb19 u21).ext e141), (((y12.ext e15).updT hb19 u21).ext e141)⟩ rfl ⟨rfl, rfl, rfl, rfl, trivial⟩ ?_
      rintro ⟨wr, k, k0, k1⟩ ⟨hw1, hk1, hkn, b_5, zk0, zk1⟩
      refine cw_re [(0, .slice (some a) n cap), (2, .bool false), (5, .pointer (some ⟨g13, 0, none⟩)), (7, .int .i64 (k : Int))] wr rfl ⟨rfl, rfl, rfl, rfl, trivial⟩ ?_
      refine cw_seq ?_
      refine cw_seq ?_
      by_cases hlt : k < n
      ·
        -- region 10
        refine cw_region ?_
        refine wl_move rfl rfl (by decide) ?_
        refine wl_move rfl rfl (by decide) ?_
        refine wl_pure rfl rfl (v := .int .i64 ((n : Nat) : Int)) (by decide) (by kernel_rfl) ?_
        refine wl_cmp rfl rfl rfl true (lt_nat_t hlt) (by decide) ?_
        refine wl_nil ?_
        refine eo_then ?_
        refine cw_true rfl ?_
        refine cw_skip ?_
        refine eo_then ?_
        refine cw_seq ?_
        refine cw_block ?_
        refine cw_seq ?_
        -- region 12
        refine cw_region ?_
        refine wl_move rfl rfl (by decide) ?_
        refine wl_move rfl rfl (by decide) ?_
        refine wl_ar rfl rfl rfl ((k + 1 : Nat) : Int) (ar_i64 (by omega) (by omega) (by omega)) (by decide) ?_
        refine wl_slice rfl rfl elemInt aggInt.size (lo := 0) (hi := k + 1) rfl rfl (by omega) (by omega) (v := .slice (some a) (k + 1) cap) (slice_low (by omega)) (by decide) ?_
        have D1 : ln (nd (zs.take (k + 1))).1 ≤ 2097153 ∧ ln (nd (zs.take (k + 1))).2 ≤ 2097153 := ln_nd_take hl0 (k + 1) (by omega) hln hs
        have M198a := D1.1
        have M198b := D1.2
        refine wl_call rfl rfl (vs := [.slice (some a) (k + 1) cap]) (by kernel_rfl) (by decide) (g_frac_Unchain hw1.size ((hl0.take (k := k + 1) (by omega)).ext hw1) (by omega) (Nat.le_trans (sum_take_le _ _) hs) (by omega) (fit_take hf (by omega)) (fit_den hf (by omega))) ?_
        rintro _ v199 ⟨xr201, rfl, r201, e200⟩
        refine ret_intro ?_
        have hw2 : Ext w v199 := hw1.trans e200
        obtain ⟨a202_0, a202_1, rfl, r202_0, r202_1⟩ := r201
        obtain ⟨s203, A203, n203, c203, t203, B203, m203, d203, rfl, z203, y203⟩ := r202_0
        obtain rfl := r202_1
        refine wl_move rfl rfl (by decide) ?_
        refine wl_pure rfl rfl (v := .agg #[.bool s203, .slice A203 n203 c203, .bool t203, .slice B203 m203 d203]) (by decide) (by kernel_rfl) ?_
        refine wl_pure rfl rfl (v := .int .i64 0) (by decide) (by kernel_rfl) ?_
        refine wl_alloc rfl (z := .agg #[.bool false, .slice none 0 0, .bool false, .slice none 0 0]) (vs := [.bool false, .slice none 0 0, .bool false, .slice none 0 0]) (fun _ => by kernel_rfl) rfl (by decide) fun g204 v205 nb => ?_
        have hb207 := nb.bk
        have ge208 : w.heap.size ≤ g204 := by rw [← nb.at_]; exact hw2.size
        have q209 : g13 < g204 := by rw [← nb.at_]; exact (b_5.ext e200).lt
        have e206 := nb.ext
        clear nb
        have hw3 : Ext w v205 := hw2.trans e206
        have hb211 := hb207
        refine wl_stored rfl rfl rfl aggFrac rfl hb211 (Nat.le_of_ble_eq_true rfl) rfl [.bool s203, .slice A203 n203 c203, .bool t203, .slice B203 m203 d203] rfl fun v210 hb212 u213 hs214 => ?_
        have hw4 : Ext w v210 := u213.ext hw3 ge208
        refine wl_assign rfl rfl (by decide) ?_
        refine wl_nil ?_
        refine eo_then ?_
        refine cw_seq ?_
        -- region 13, in whatever order
        have L215 : ln (((nd (zs.take (k + 1))).1) * ((nd (zs.take k)).2)) ≤ 4194306 := Nat.le_trans (ln_mul M198a (ln_nd_take hl0 k hkn hln hs).2) (by decide)
        have L217 : ln (((nd (zs.take k)).1) * ((nd (zs.take (k + 1))).2)) ≤ 4194306 := Nat.le_trans (ln_mul (ln_nd_take hl0 k hkn hln hs).1 M198b) (by decide)
        have L219 : ln ((((nd (zs.take (k + 1))).1) * ((nd (zs.take k)).2)) - (((nd (zs.take k)).1) * ((nd (zs.take (k + 1))).2))) ≤ 4194307 := Nat.le_trans (ln_sub L215 L217) (by decide)
        refine cw_draw mix 12 [] [Is (.pointer (some ⟨g204, 0, none⟩)), Is (.agg #[.bool s203, .slice A203 n203 c203]), Is (.pointer (some ⟨g13, 2, none⟩)), Is (.agg #[.bool k1.s, .slice k1.A k1.n k1.c]), ZR w.heap.size (((nd (zs.take (k + 1))).1) * ((nd (zs.take k)).2)), Is (.pointer (some ⟨g13, 0, none⟩)), Is (.agg #[.bool k0.s, .slice k0.A k0.n k0.c]), Is (.pointer (some ⟨g204, 2, none⟩)), Is (.agg #[.bool t203, .slice B203 m203 d203]), ZR w.heap.size (((nd (zs.take k)).1) * ((nd (zs.take (k + 1))).2)), ZR w.heap.size ((((nd (zs.take (k + 1))).1) * ((nd (zs.take k)).2)) - (((nd (zs.take k)).1) * ((nd (zs.take (k + 1))).2))), PR v210.heap.size 27 [.bool false, .slice none 0 0]] [[], [0], [], [2], [1, 3], [], [5], [], [7], [6, 8], [4, 9], []] [[], [0], [], [2], [0, 1, 2, 3], [], [5], [], [7], [0, 1, 2, 3, 4, 5, 6, 7, 8], [0, 1, 2, 3, 4, 5, 6, 7, 8, 9], [], [0, 1, 2, 3, 4, 5, 6, 7, 8, 9, 10, 11]] rfl
          (obs_cons rfl rfl (hob rfl ?_) (obs_cons rfl rfl (hob rfl ?_) (obs_cons rfl rfl (hob rfl ?_) (obs_cons rfl rfl (hob rfl ?_) (obs_cons rfl rfl (hob rfl ?_) (obs_cons rfl rfl (hob rfl ?_) (obs_cons rfl rfl (hob rfl ?_) (obs_cons rfl rfl (hob rfl ?_) (obs_cons rfl rfl (hob rfl ?_) (obs_cons rfl rfl (hob rfl ?_) (obs_cons rfl rfl (hob rfl ?_) (obs_cons rfl rfl (hob rfl ?_) obs_nil)))))))))))) ?_
        · -- 0
          intro v221 e222
          have hw5 : Ext w v221 := hw4.trans e222
          refine deps_nil ?_
          refine wl_pure rfl rfl (v := .pointer (some ⟨g204, 0, none⟩)) (by decide) (by kernel_rfl) ?_
          exact pi_done rfl (Ext.refl _) rfl
        · -- 1
          intro v223 e224
          have hw5 : Ext w v223 := hw4.trans e224
          refine deps_cons rfl rfl fun x225 y226 h227 e228 f229 => ?_
          obtain rfl := h227
          refine deps_nil ?_
          refine wl_load rfl rfl (load_agg aggInt (hb212.ext e224) [.bool s203, .slice A203 n203 c203] rfl (Nat.le_of_ble_eq_true rfl) rfl) (by decide) ?_
          exact pi_done rfl (Ext.refl _) rfl
        · -- 2
          intro v230 e231
          have hw5 : Ext w v230 := hw4.trans e231
          refine deps_nil ?_
          refine wl_pure rfl rfl (v := .pointer (some ⟨g13, 2, none⟩)) (by decide) (by kernel_rfl) ?_
          exact pi_done rfl (Ext.refl _) rfl
        · -- 3
          intro v232 e233
          have hw5 : Ext w v232 := hw4.trans e233
          refine deps_cons rfl rfl fun x234 y235 h236 e237 f238 => ?_
          obtain rfl := h236
          refine deps_nil ?_
          refine wl_load rfl rfl (load_agg aggInt (((b_5.ext (e200.trans e206)).updN u213 (by omega)).ext e233) [.bool k1.s, .slice k1.A k1.n k1.c] rfl (Nat.le_of_ble_eq_true rfl) rfl) (by decide) ?_
          exact pi_done rfl (Ext.refl _) rfl
        · -- 4
          intro v239 e240
          have hw5 : Ext w v239 := hw4.trans e240
          refine deps_cons rfl rfl fun x241 y242 h243 e244 f245 => ?_
          obtain rfl := h243
          refine deps_cons rfl rfl fun x246 y247 h248 e249 f250 => ?_
          obtain rfl := h248
          refine deps_nil ?_
          have L251 : ln (((nd (zs.take (k + 1))).1) * ((nd (zs.take k)).2)) ≤ 4194306 := Nat.le_trans (ln_mul M198a (ln_nd_take hl0 k hkn hln hs).2) (by decide)
          refine wl_call rfl rfl (vs := [.agg #[.bool s203, .slice A203 n203 c203], .agg #[.bool k1.s, .slice k1.A k1.n k1.c]]) (by kernel_rfl) (by decide) (g_zint_Mul hw5.size (((z203.ext e206).updT hb211 u213).ext e240).zi (z203.le (Nat.le_trans M198a (by decide))) (((zk1.ext (e200.trans e206)).updT hb211 u213).ext e240).zi (zk1.le (Nat.le_trans (ln_nd_take hl0 k hkn hln hs).2 (by decide)))) ?_
          rintro _ v252 ⟨xr254, rfl, r254, e253⟩
          refine ret_intro ?_
          have hw6 : Ext w v252 := hw5.trans e253
          obtain ⟨s255, A255, n255, c255, rfl, z255⟩ := r254
          exact pi_done rfl e253 ⟨_, _, _, _, rfl, z255⟩
        · -- 5
          intro v256 e257
          have hw5 : Ext w v256 := hw4.trans e257
          refine deps_nil ?_
          refine wl_pure rfl rfl (v := .pointer (some ⟨g13, 0, none⟩)) (by decide) (by kernel_rfl) ?_
          exact pi_done rfl (Ext.refl _) rfl
        · -- 6
          intro v258 e259
          have hw5 : Ext w v258 := hw4.trans e259
          refine deps_cons rfl rfl fun x260 y261 h262 e263 f264 => ?_
          obtain rfl := h262
          refine deps_nil ?_
          refine wl_load rfl rfl (load_agg aggInt (((b_5.ext (e200.trans e206)).updN u213 (by omega)).ext e259) [.bool k0.s, .slice k0.A k0.n k0.c] rfl (Nat.le_of_ble_eq_true rfl) rfl) (by decide) ?_
          exact pi_done rfl (Ext.refl _) rfl
        · -- 7
          intro v265 e266
          have hw5 : Ext w v265 := hw4.trans e266
          refine deps_nil ?_
          refine wl_pure rfl rfl (v := .pointer (some ⟨g204, 2, none⟩)) (by decide) (by kernel_rfl) ?_
          exact pi_done rfl (Ext.refl _) rfl
        · -- 8
          intro v267 e268
          have hw5 : Ext w v267 := hw4.trans e268
          refine deps_cons rfl rfl fun x269 y270 h271 e272 f273 => ?_
          obtain rfl := h271
          refine deps_nil ?_
          refine wl_load rfl rfl (load_agg aggInt (hb212.ext e268) [.bool t203, .slice B203 m203 d203] rfl (Nat.le_of_ble_eq_true rfl) rfl) (by decide) ?_
          exact pi_done rfl (Ext.refl _) rfl
        · -- 9
          intro v274 e275
          have hw5 : Ext w v274 := hw4.trans e275
          refine deps_cons rfl rfl fun x276 y277 h278 e279 f280 => ?_
          obtain rfl := h278
          refine deps_cons rfl rfl fun x281 y282 h283 e284 f285 => ?_
          obtain rfl := h283
          refine deps_nil ?_
          have L286 : ln (((nd (zs.take k)).1) * ((nd (zs.take (k + 1))).2)) ≤ 4194306 := Nat.le_trans (ln_mul (ln_nd_take hl0 k hkn hln hs).1 M198b) (by decide)
          refine wl_call rfl rfl (vs := [.agg #[.bool k0.s, .slice k0.A k0.n k0.c], .agg #[.bool t203, .slice B203 m203 d203]]) (by kernel_rfl) (by decide) (g_zint_Mul hw5.size (((zk0.ext (e200.trans e206)).updT hb211 u213).ext e275).zi (zk0.le (Nat.le_trans (ln_nd_take hl0 k hkn hln hs).1 (by decide))) (((y203.ext e206).updT hb211 u213).ext e275).zi (y203.le (Nat.le_trans M198b (by decide)))) ?_
          rintro _ v287 ⟨xr289, rfl, r289, e288⟩
          refine ret_intro ?_
          have hw6 : Ext w v287 := hw5.trans e288
          obtain ⟨s290, A290, n290, c290, rfl, z290⟩ := r289
          exact pi_done rfl e288 ⟨_, _, _, _, rfl, z290⟩
        · -- 10
          intro v291 e292
          have hw5 : Ext w v291 := hw4.trans e292
          refine deps_cons rfl rfl fun x293 y294 h295 e296 f297 => ?_
          obtain ⟨s298, A298, n298, c298, rfl, z298⟩ := h295
          have z298 := z298.ext f297
          refine deps_cons rfl rfl fun x299 y300 h301 e302 f303 => ?_
          obtain ⟨s304, A304, n304, c304, rfl, z304⟩ := h301
          have z304 := z304.ext f303
          refine deps_nil ?_
          have L305 : ln ((((nd (zs.take (k + 1))).1) * ((nd (zs.take k)).2)) - (((nd (zs.take k)).1) * ((nd (zs.take (k + 1))).2))) ≤ 4194307 := Nat.le_trans (ln_sub L215 L217) (by decide)
          refine wl_call rfl rfl (vs := [.agg #[.bool s298, .slice A298 n298 c298], .agg #[.bool s304, .slice A304 n304 c304]]) (by kernel_rfl) (by decide) (g_zint_Sub hw5.size z298.zi (z298.le (Nat.le_trans L215 (by decide))) z304.zi (z304.le (Nat.le_trans L217 (by decide)))) ?_
          rintro _ v306 ⟨xr308, rfl, r308, e307⟩
          refine ret_intro ?_
          have hw6 : Ext w v306 := hw5.trans e307
          obtain ⟨s309, A309, n309, c309, rfl, z309⟩ := r308
          exact pi_done rfl e307 ⟨_, _, _, _, rfl, z309⟩
        · -- 11
          intro v310 e311
          have hw5 : Ext w v310 := hw4.trans e311
          refine deps_nil ?_
          refine wl_alloc rfl (z := .agg #[.bool false, .slice none 0 0]) (vs := [.bool false, .slice none 0 0]) (fun _ => by kernel_rfl) rfl (by decide) fun g312 v313 nb => ?_
          exact pi_done rfl nb.ext ⟨_, rfl, by rw [← nb.at_]; exact e311.size, nb.bk⟩
        · -- all
          intro v314 e315
          have hw5 : Ext w v314 := hw4.trans e315
          refine deps_cons rfl rfl fun x316 y317 h318 e319 f320 => ?_
          obtain rfl := h318
          refine deps_cons rfl rfl fun x321 y322 h323 e324 f325 => ?_
          obtain rfl := h323
          refine deps_cons rfl rfl fun x326 y327 h328 e329 f330 => ?_
          obtain rfl := h328
          refine deps_cons rfl rfl fun x331 y332 h333 e334 f335 => ?_
          obtain rfl := h333
          refine deps_cons rfl rfl fun x336 y337 h338 e339 f340 => ?_
          obtain ⟨s341, A341, n341, c341, rfl, z341⟩ := h338
          have z341 := z341.ext f340
          refine deps_cons rfl rfl fun x342 y343 h344 e345 f346 => ?_
          obtain rfl := h344
          refine deps_cons rfl rfl fun x347 y348 h349 e350 f351 => ?_
          obtain rfl := h349
          refine deps_cons rfl rfl fun x352 y353 h354 e355 f356 => ?_
          obtain rfl := h354
          refine deps_cons rfl rfl fun x357 y358 h359 e360 f361 => ?_
          obtain rfl := h359
          refine deps_cons rfl rfl fun x362 y363 h364 e365 f366 => ?_
          obtain ⟨s367, A367, n367, c367, rfl, z367⟩ := h364
          have z367 := z367.ext f366
          refine deps_cons rfl rfl fun x368 y369 h370 e371 f372 => ?_
          obtain ⟨s373, A373, n373, c373, rfl, z373⟩ := h370
          have z373 := z373.ext f372
          refine deps_cons rfl rfl fun x374 y375 h376 e377 f378 => ?_
          obtain ⟨g379, rfl, ge381, hb380⟩ := h376
          have hb380 := hb380.ext f378
          have q382 : g204 < g379 := Nat.lt_of_lt_of_le hb212.lt ge381
          have ge381 : w.heap.size ≤ g379 := Nat.le_trans hw4.size ge381
          refine deps_nil ?_
          have hb384 := hb380
          refine wl_stored rfl rfl rfl aggInt rfl hb384 (Nat.le_of_ble_eq_true rfl) rfl [.bool s373, .slice A373 n373 c373] rfl fun v383 hb385 u386 hs387 => ?_
          have hw6 : Ext w v383 := u386.ext hw5 ge381
          refine wl_nil ?_
          refine eo_np ?_
          refine eo_then ?_
          refine cw_seq ?_
          -- region 14
          refine cw_region ?_
          refine wl_call rfl rfl (vs := [.int .i64 1]) (by kernel_rfl) (by decide) (g_zint_Of hw6.size (by decide) (by decide)) ?_
          rintro _ v388 ⟨xr390, rfl, r390, e389⟩
          refine ret_intro ?_
          have hw7 : Ext w v388 := hw6.trans e389
          obtain ⟨s391, A391, n391, c391, rfl, z391⟩ := r390
          refine wl_alloc rfl (z := .agg #[.bool false, .slice none 0 0]) (vs := [.bool false, .slice none 0 0]) (fun _ => by kernel_rfl) rfl (by decide) fun g392 v393 nb => ?_
          have hb395 := nb.bk
          have ge396 : w.heap.size ≤ g392 := by rw [← nb.at_]; exact hw7.size
          have q397 : g379 < g392 := by rw [← nb.at_]; exact (hb385.ext e389).lt
          have e394 := nb.ext
          clear nb
          have hw8 : Ext w v393 := hw7.trans e394
          have hb399 := hb395
          refine wl_stored rfl rfl rfl aggInt rfl hb399 (Nat.le_of_ble_eq_true rfl) rfl [.bool s391, .slice A391 n391 c391] rfl fun v398 hb400 u401 hs402 => ?_
          have hw9 : Ext w v398 := u401.ext hw8 ge396
          refine wl_nil ?_
          refine eo_then ?_
          refine cw_seq ?_
          refine cw_seq ?_
          by_cases hp : k % 2 = 0
          ·
            have hcr := cross_even hl0 hlt hk1 hp
            have hcr' := hcr
            -- region 15
            refine cw_region ?_
            refine wl_move rfl rfl (by decide) ?_
            refine wl_ar rfl rfl rfl ((k % 2 : Nat) : Int) (ar_rem (by decide) (tmod_nat k 2)) (by decide) ?_
            refine wl_cmp rfl rfl rfl true (eq_t (by omega)) (by decide) ?_
            refine wl_nil ?_
            refine eo_then ?_
            refine cw_true rfl ?_
            -- region 16
            refine cw_region ?_
            refine wl_call rfl rfl (vs := [.int .i64 (-1)]) (by kernel_rfl) (by decide) (g_zint_Of hw9.size (by decide) (by decide)) ?_
            rintro _ v403 ⟨xr405, rfl, r405, e404⟩
            refine ret_intro ?_
            have hw10 : Ext w v403 := hw9.trans e404
            obtain ⟨s406, A406, n406, c406, rfl, z406⟩ := r405
            have hb408 := (hb400.ext e404)
            refine wl_stored rfl rfl rfl aggInt rfl hb408 (Nat.le_of_ble_eq_true rfl) rfl [.bool s406, .slice A406 n406 c406] rfl fun v407 hb409 u410 hs411 => ?_
            have hw11 : Ext w v407 := u410.ext hw10 ge396
            refine wl_nil ?_
            refine eo_then ?_
            refine cw_seq ?_
            refine cw_seq ?_
            -- region 17
            refine cw_region ?_
            refine wl_move rfl rfl (by decide) ?_
            refine wl_pure rfl rfl (v := .bool false) (by decide) (by kernel_rfl) ?_
            refine wl_move rfl rfl (by decide) ?_
            refine wl_load rfl rfl (load_agg aggInt ((((hb385.ext (e389.trans e394)).updN u401 (by omega)).ext e404).updN u410 (by omega)) [.bool s373, .slice A373 n373 c373] rfl (Nat.le_of_ble_eq_true rfl) rfl) (by decide) ?_
            refine wl_load rfl rfl (load_agg aggInt hb409 [.bool s406, .slice A406 n406 c406] rfl (Nat.le_of_ble_eq_true rfl) rfl) (by decide) ?_
            refine wl_call rfl rfl (vs := [.agg #[.bool s373, .slice A373 n373 c373], .agg #[.bool s406, .slice A406 n406 c406]]) (by kernel_rfl) (by decide) (g_law8_alike (((((z373.updT hb384 u386).ext (e389.trans e394)).updT hb399 u401).ext e404).updT hb408 u410) (z373.le (Nat.le_trans L219 (by decide))) (z406.updT hb408 u410) (z406.le (Nat.le_trans (show ln (-1) ≤ 1 by decide +kernel) (by decide))) hcr) ?_
            rintro _ v412 ⟨xr414, rfl, r414, e413⟩
            refine ret_intro ?_
            have hw12 : Ext w v412 := hw11.trans e413
            obtain rfl := r414
            refine wl_pure rfl rfl (v := .bool false) (by decide) (by kernel_rfl) ?_
            refine wl_pure rfl rfl (v := .bool false) (by decide) (by kernel_rfl) ?_
            refine wl_move rfl rfl (by decide) ?_
            refine wl_load rfl rfl (load_agg aggFrac (((((((hb212.ext e315).updN u386 (by omega)).ext (e389.trans e394)).updN u401 (by omega)).ext e404).updN u410 (by omega)).ext e413) [.bool s203, .slice A203 n203 c203, .bool t203, .slice B203 m203 d203] rfl (Nat.le_of_ble_eq_true rfl) rfl) (by decide) ?_
            refine wl_call rfl rfl (vs := [.agg #[.bool s203, .slice A203 n203 c203, .bool t203, .slice B203 m203 d203]]) (by kernel_rfl) (by decide) (g_law8_lowest (((((((((z203.ext e206).updT hb211 u213).ext e315).updT hb384 u386).ext (e389.trans e394)).updT hb399 u401).ext e404).updT hb408 u410).ext e413) (z203.le (Nat.le_trans M198a (by decide))) (((((((((y203.ext e206).updT hb211 u213).ext e315).updT hb384 u386).ext (e389.trans e394)).updT hb399 u401).ext e404).updT hb408 u410).ext e413) (y203.le (Nat.le_trans M198b (by decide))) (fit_den hf (by omega)) (nd_gcd _)) ?_
            rintro _ v415 ⟨xr417, rfl, r417, e416⟩
            refine ret_intro ?_
            have hw13 : Ext w v415 := hw12.trans e416
            obtain rfl := r417
            refine wl_pure rfl rfl (v := .bool false) (by decide) (by kernel_rfl) ?_
            refine wl_pure rfl rfl (v := .bool false) (by decide) (by kernel_rfl) ?_
            refine wl_nil ?_
            refine eo_then ?_
            refine cw_false rfl ?_
            refine cw_skip ?_
            refine eo_then ?_
            -- region 19
            refine cw_region ?_
            refine wl_load rfl rfl (load_agg aggFrac (((((((hb212.ext e315).updN u386 (by omega)).ext (e389.trans e394)).updN u401 (by omega)).ext e404).updN u410 (by omega)).ext (e413.trans e416)) [.bool s203, .slice A203 n203 c203, .bool t203, .slice B203 m203 d203] rfl (Nat.le_of_ble_eq_true rfl) rfl) (by decide) ?_
            have hb419 := (((((((((b_5.ext (e200.trans e206)).updN u213 (by omega)).ext e315).updN u386 (by omega)).ext (e389.trans e394)).updN u401 (by omega)).ext e404).updN u410 (by omega)).ext (e413.trans e416))
            refine wl_stored rfl rfl rfl aggFrac rfl hb419 (Nat.le_of_ble_eq_true rfl) rfl [.bool s203, .slice A203 n203 c203, .bool t203, .slice B203 m203 d203] rfl fun v418 hb420 u421 hs422 => ?_
            have hw14 : Ext w v418 := u421.ext hw13 ge17
            refine wl_nil ?_
            refine eo_block_normal ?_
            refine eo_then ?_
            -- region 11
            refine cw_region ?_
            refine wl_move rfl rfl (by decide) ?_
            refine wl_ar rfl rfl rfl ((k + 1 : Nat) : Int) (ar_i64 (by omega) (by omega) (by omega)) (by decide) ?_
            refine wl_assign rfl rfl (by decide) ?_
            refine wl_nil ?_
            refine eo_round (⟨v418, k + 1, ⟨s203, A203, n203, c203⟩, ⟨t203, B203, m203, d203⟩⟩ : World × Nat × ZC × ZC) ⟨hw14, (by omega), (by omega), hb420, ((((((((((z203.ext e206).updT hb211 u213).ext e315).updT hb384 u386).ext (e389.trans e394)).updT hb399 u401).ext e404).updT hb408 u410).ext (e413.trans e416)).updT hb419 u421), ((((((((((y203.ext e206).updT hb211 u213).ext e315).updT hb384 u386).ext (e389.trans e394)).updT hb399 u401).ext e404).updT hb408 u410).ext (e413.trans e416)).updT hb419 u421)⟩ (show n - (k + 1) < n - k by omega) rfl ⟨rfl, rfl, rfl, rfl, trivial⟩
          ·
            have hcr := cross_odd hl0 hlt hk1 hp
            -- region 15
            refine cw_region ?_
            refine wl_move rfl rfl (by decide) ?_
            refine wl_ar rfl rfl rfl ((k % 2 : Nat) : Int) (ar_rem (by decide) (tmod_nat k 2)) (by decide) ?_
            refine wl_cmp rfl rfl rfl false (eq_f (by omega)) (by decide) ?_
            refine wl_nil ?_
            refine eo_then ?_
            refine cw_false rfl ?_
            refine cw_skip ?_
            refine eo_then ?_
            refine cw_seq ?_
            refine cw_seq ?_
            -- region 17
            refine cw_region ?_
            refine wl_move rfl rfl (by decide) ?_
            refine wl_pure rfl rfl (v := .bool false) (by decide) (by kernel_rfl) ?_
            refine wl_move rfl rfl (by decide) ?_
            refine wl_load rfl rfl (load_agg aggInt ((hb385.ext (e389.trans e394)).updN u401 (by omega)) [.bool s373, .slice A373 n373 c373] rfl (Nat.le_of_ble_eq_true rfl) rfl) (by decide) ?_
            refine wl_load rfl rfl (load_agg aggInt hb400 [.bool s391, .slice A391 n391 c391] rfl (Nat.le_of_ble_eq_true rfl) rfl) (by decide) ?_
            refine wl_call rfl rfl (vs := [.agg #[.bool s373, .slice A373 n373 c373], .agg #[.bool s391, .slice A391 n391 c391]]) (by kernel_rfl) (by decide) (g_law8_alike (((z373.updT hb384 u386).ext (e389.trans e394)).updT hb399 u401) (z373.le (Nat.le_trans L219 (by decide))) ((z391.ext e394).updT hb399 u401) (z391.le (Nat.le_trans (show ln (1) ≤ 1 by decide +kernel) (by decide))) hcr) ?_
            rintro _ v423 ⟨xr425, rfl, r425, e424⟩
            refine ret_intro ?_
            have hw10 : Ext w v423 := hw9.trans e424
            obtain rfl := r425
            refine wl_pure rfl rfl (v := .bool false) (by decide) (by kernel_rfl) ?_
            refine wl_pure rfl rfl (v := .bool false) (by decide) (by kernel_rfl) ?_
            refine wl_move rfl rfl (by decide) ?_
            refine wl_load rfl rfl (load_agg aggFrac (((((hb212.ext e315).updN u386 (by omega)).ext (e389.trans e394)).updN u401 (by omega)).ext e424) [.bool s203, .slice A203 n203 c203, .bool t203, .slice B203 m203 d203] rfl (Nat.le_of_ble_eq_true rfl) rfl) (by decide) ?_
            refine wl_call rfl rfl (vs := [.agg #[.bool s203, .slice A203 n203 c203, .bool t203, .slice B203 m203 d203]]) (by kernel_rfl) (by decide) (g_law8_lowest (((((((z203.ext e206).updT hb211 u213).ext e315).updT hb384 u386).ext (e389.trans e394)).updT hb399 u401).ext e424) (z203.le (Nat.le_trans M198a (by decide))) (((((((y203.ext e206).updT hb211 u213).ext e315).updT hb384 u386).ext (e389.trans e394)).updT hb399 u401).ext e424) (y203.le (Nat.le_trans M198b (by decide))) (fit_den hf (by omega)) (nd_gcd _)) ?_
            rintro _ v426 ⟨xr428, rfl, r428, e427⟩
            refine ret_intro ?_
            have hw11 : Ext w v426 := hw10.trans e427
            obtain rfl := r428
            refine wl_pure rfl rfl (v := .bool false) (by decide) (by kernel_rfl) ?_
            refine wl_pure rfl rfl (v := .bool false) (by decide) (by kernel_rfl) ?_
            refine wl_nil ?_
            refine eo_then ?_
            refine cw_false rfl ?_
            refine cw_skip ?_
            refine eo_then ?_
            -- region 19
            refine cw_region ?_
            refine wl_load rfl rfl (load_agg aggFrac (((((hb212.ext e315).updN u386 (by omega)).ext (e389.trans e394)).updN u401 (by omega)).ext (e424.trans e427)) [.bool s203, .slice A203 n203 c203, .bool t203, .slice B203 m203 d203] rfl (Nat.le_of_ble_eq_true rfl) rfl) (by decide) ?_
            have hb430 := (((((((b_5.ext (e200.trans e206)).updN u213 (by omega)).ext e315).updN u386 (by omega)).ext (e389.trans e394)).updN u401 (by omega)).ext (e424.trans e427))
            refine wl_stored rfl rfl rfl aggFrac rfl hb430 (Nat.le_of_ble_eq_true rfl) rfl [.bool s203, .slice A203 n203 c203, .bool t203, .slice B203 m203 d203] rfl fun v429 hb431 u432 hs433 => ?_
            have hw12 : Ext w v429 := u432.ext hw11 ge17
            refine wl_nil ?_
            refine eo_block_normal ?_
            refine eo_then ?_
            -- region 11
            refine cw_region ?_
            refine wl_move rfl rfl (by decide) ?_
            refine wl_ar rfl rfl rfl ((k + 1 : Nat) : Int) (ar_i64 (by omega) (by omega) (by omega)) (by decide) ?_
            refine wl_assign rfl rfl (by decide) ?_
            refine wl_nil ?_
            refine eo_round (⟨v429, k + 1, ⟨s203, A203, n203, c203⟩, ⟨t203, B203, m203, d203⟩⟩ : World × Nat × ZC × ZC) ⟨hw12, (by omega), (by omega), hb431, ((((((((z203.ext e206).updT hb211 u213).ext e315).updT hb384 u386).ext (e389.trans e394)).updT hb399 u401).ext (e424.trans e427)).updT hb430 u432), ((((((((y203.ext e206).updT hb211 u213).ext e315).updT hb384 u386).ext (e389.trans e394)).updT hb399 u401).ext (e424.trans e427)).updT hb430 u432)⟩ (show n - (k + 1) < n - k by omega) rfl ⟨rfl, rfl, rfl, rfl, trivial⟩
      ·
        -- region 10
        refine cw_region ?_
        refine wl_move rfl rfl (by decide) ?_
        refine wl_move rfl rfl (by decide) ?_
        refine wl_pure rfl rfl (v := .int .i64 ((n : Nat) : Int)) (by decide) (by kernel_rfl) ?_
        refine wl_cmp rfl rfl rfl false (lt_nat_f (by omega)) (by decide) ?_
        refine wl_nil ?_
        refine eo_then ?_
        refine cw_false rfl ?_
        refine cw_exit ?_
        refine eo_thenX ?_
        refine eo_loopX ?_
        refine eo_block_here ?_
        refine eo_then ?_
        refine cw_seq ?_
        -- region 20
        refine cw_region ?_
        refine wl_assign rfl rfl (by decide) ?_
        refine wl_nil ?_
        refine eo_then ?_
        refine cw_ret ?_
        refine eo_ret [.bool true] rfl ⟨rfl, trivial⟩ ?_
        exact bool_of _ _ ⟨_, rfl, rfl, hw1⟩
  ·
    -- region 3
    refine cw_region ?_
    refine wl_move rfl rfl (by decide) ?_
    refine wl_call rfl rfl (vs := [.slice A n cap]) (by kernel_rfl) (by decide) (g_law8_fit (hl0.ext hw1) hln hs (b := false) ⟨fun h => (by cases h), fun h => absurd h hf⟩) ?_
    rintro _ v434 ⟨xr436, rfl, r436, e435⟩
    refine ret_intro ?_
    have hw2 : Ext w v434 := hw1.trans e435
    obtain rfl := r436
    refine wl_pure rfl rfl (v := .bool true) (by decide) (by kernel_rfl) ?_
    refine wl_nil ?_
    refine eo_then ?_
    refine cw_true rfl ?_
    refine cw_seq ?_
    -- region 4
    refine cw_region ?_
    refine wl_move rfl rfl (by decide) ?_
    refine wl_call rfl rfl (vs := [.slice A n cap]) (by kernel_rfl) (by decide) (g_frac_Unchain_bad hw2.size (hl0.ext hw2) hln hs hf) ?_
    rintro _ v437 ⟨xr439, rfl, r439, e438⟩
    refine ret_intro ?_
    have hw3 : Ext w v437 := hw2.trans e438
    obtain ⟨a440_0, a440_1, rfl, r440_0, r440_1⟩ := r439
    obtain ⟨s441, A441, n441, c441, t441, B441, m441, d441, rfl, z441, y441⟩ := r440_0
    obtain rfl := r440_1
    refine wl_move rfl rfl (by decide) ?_
    refine wl_pure rfl rfl (v := .agg #[.bool s441, .slice A441 n441 c441, .bool t441, .slice B441 m441 d441]) (by decide) (by kernel_rfl) ?_
    refine wl_pure rfl rfl (v := .int .i64 3) (by decide) (by kernel_rfl) ?_
    refine wl_alloc rfl (z := .agg #[.bool false, .slice none 0 0, .bool false, .slice none 0 0]) (vs := [.bool false, .slice none 0 0, .bool false, .slice none 0 0]) (fun _ => by kernel_rfl) rfl (by decide) fun g442 v443 nb => ?_
    have hb445 := nb.bk
    have ge446 : w.heap.size ≤ g442 := by rw [← nb.at_]; exact hw3.size
    have e444 := nb.ext
    clear nb
    have hw4 : Ext w v443 := hw3.trans e444
    have hb448 := hb445
    refine wl_stored rfl rfl rfl aggFrac rfl hb448 (Nat.le_of_ble_eq_true rfl) rfl [.bool s441, .slice A441 n441 c441, .bool t441, .slice B441 m441 d441] rfl fun v447 hb449 u450 hs451 => ?_
    have hw5 : Ext w v447 := u450.ext hw4 ge446
    refine wl_assign rfl rfl (by decide) ?_
    refine wl_nil ?_
    refine eo_then ?_
    refine cw_seq ?_
    -- region 5
    refine cw_region ?_
    refine wl_move rfl rfl (by decide) ?_
    refine wl_pure rfl rfl (v := .bool true) (by decide) (by kernel_rfl) ?_
    refine wl_assign rfl rfl (by decide) ?_
    refine wl_nil ?_
    refine eo_then ?_
    refine cw_ret ?_
    refine eo_thenR ?_
    refine eo_ret [.bool true] rfl ⟨rfl, trivial⟩ ?_
    exact bool_of _ _ ⟨_, rfl, rfl, hw5⟩

end Go.Proofs.Ytmaconeeonkdgaa
