/- Parts Law6c, joined. -/
import Derived.Test.YtmaconeeonkdgaaC5

namespace Go.Proofs.Ytmaconeeonkdgaa
open Go.RowKit
theorem sum_le_of : ∀ (a b : List Nat), a.length = b.length → (∀ i, i < a.length → a.getD i 0 ≤ b.getD i 0) → a.sum ≤ b.sum
  | [], [], _, _ => Nat.le_refl _
  | x :: a, y :: b, h, k => by
    have h0 := k 0 (by simp)
    have h1 := sum_le_of a b (by simpa using h) (fun i hi => by have := k (i + 1) (by simpa using hi); simpa using this)
    simp at h0
    simp only [List.sum_cons]; omega
  | [], y :: b, h, _ => by simp at h
  | x :: a, [], h, _ => by simp at h
theorem sum_ln_le {zs : List Int} {w : World} {A : Option Addr} {n cap : Nat} {ms : List Nat} (h : Zl w A n cap zs ms) : (zs.map ln).sum ≤ ms.sum := by
  refine sum_le_of _ _ (by rw [List.length_map, h.len, h.mlen]) fun i hi => ?_
  rw [List.length_map, h.len] at hi
  obtain ⟨p, s, B, c, _, _, hz⟩ := h.at hi
  have e : (zs.map ln).getD i 0 = ln (zs.getD i 0) := by simp [List.getD_eq_getElem?_getD, List.getElem?_map, List.getElem?_eq_getElem (show i < zs.length by rw [h.len]; exact hi)]
  rw [e]; exact hz.ln
theorem emod_inC {a z : Int} (h : z ≠ 0) : 0 ≤ a % z ∧ a % z < z.natAbs := ⟨Int.emod_nonneg _ h, by have := Int.emod_lt a h; omega⟩
/-- what the lists keep: the numbers, each with a modulus that is not 0, leave what x leaves -/
structure Chi (rs gs : List Int) (p : Nat) (x : Int) : Prop where
  rl : rs.length = p
  gl : gs.length = p
  nz : ∀ q, q < p → gs.getD q 0 ≠ 0
  dv : ∀ q, q < p → gs.getD q 0 ∣ rs.getD q 0 - x
theorem Chi.nil (x : Int) : Chi [] [] 0 x := ⟨rfl, rfl, fun q h => by omega, fun q h => by omega⟩
theorem Chi.snoc {rs gs : List Int} {p : Nat} {x r m : Int} (h : Chi rs gs p x) (hm : m ≠ 0) (hd : m ∣ r - x) : Chi (rs ++ [r]) (gs ++ [m]) (p + 1) x := by
  have e : ∀ q, q < p + 1 → ¬ q < p → (rs ++ [r]).getD q 0 = r ∧ (gs ++ [m]).getD q 0 = m := fun q h1 h2 => by
    obtain rfl : q = p := by omega
    exact ⟨by rw [← h.rl]; exact getD_app_m, by rw [← h.gl]; exact getD_app_m⟩
  refine ⟨by simp [h.rl], by simp [h.gl], fun q hq => ?_, fun q hq => ?_⟩
  · by_cases hp : q < p
    · rw [getD_app_l (by rw [h.gl]; exact hp)]; exact h.nz q hp
    · rw [(e q hq hp).2]; exact hm
  · by_cases hp : q < p
    · rw [getD_app_l (by rw [h.gl]; exact hp), getD_app_l (by rw [h.rl]; exact hp)]; exact h.dv q hp
    · rw [(e q hq hp).1, (e q hq hp).2]; exact hd
theorem lns_snoc (gs : List Int) (m : Int) : ((gs ++ [m]).map ln).sum = (gs.map ln).sum + ln m := by simp
theorem lns_take {zs : List Int} {k : Nat} (h : k < zs.length) : ((zs.take (k + 1)).map ln).sum = ((zs.take k).map ln).sum + ln (zs.getD k 0) := by rw [getD_snoc (d := 0) h, lns_snoc]
theorem lns_le (zs : List Int) (k : Nat) : ((zs.take k).map ln).sum ≤ (zs.map ln).sum := sum_take_ln zs k
theorem dvd_self_sub (m x : Int) : m ∣ x - x := by rw [Int.sub_self]; exact Int.dvd_zero m
theorem dvd_muladd (m k x : Int) : m ∣ m * k + x - x := ⟨k, by omega⟩
theorem one_lcmL : ((1 : Nat) : Int) = lcmL [] := rfl
theorem ln_lcmA (zs : List Int) {N : Nat} (h : (zs.map ln).sum ≤ N) : ln (lcmL zs) ≤ N + 1 := by
  have := ln_lcmL_le h zs.length
  rwa [List.take_length] at this
theorem lcmA_ne {zs : List Int} (h : ∀ i, i < zs.length → zs.getD i 0 ≠ 0) : lcmL zs ≠ 0 := by
  have := lcmL_ne h zs.length
  rwa [List.take_length] at this
theorem dvd_lcmA {zs : List Int} {i : Nat} (h : i < zs.length) : zs.getD i 0 ∣ lcmL zs := by
  have := dvd_lcmL (zs := zs) (k := zs.length) i h h
  rwa [List.take_length] at this
set_option maxHeartbeats 8000000 in
set_option maxRecDepth 20000 in
theorem law_BezoutChinese {w : World} {sb : Bool} {Ab : Option Addr} {nb cb : Nat} {x : Int} (hx : Zi w sb Ab nb cb x) (lb : nb ≤ 1048576) {A A2 : Option Addr} {n n2 cap cap2 : Nat} {zs ys : List Int} {ms ns : List Nat} (hl : Zl w A n cap zs ms) (hn : n ≤ 1048576) (hs : ms.sum ≤ 1048576) (hl2 : Zl w A2 n2 cap2 ys ns) (hn2 : n2 ≤ 1048576) (hs2 : ns.sum ≤ 1048576) :
    Calls Try.prog 9 #[.agg #[.bool sb, .slice Ab nb cb], .slice A n cap, .slice A2 n2 cap2] w (BoolP true w) := by
  have Lx : ln x ≤ 1048576 := Nat.le_trans hx.ln lb
  have hmb : ∀ i, ms.getD i 0 ≤ 1048576 := fun i => Nat.le_trans (getD_le_sum _ _) hs
  have hmb2 : ∀ i, ns.getD i 0 ≤ 1048576 := fun i => Nat.le_trans (getD_le_sum _ _) hs2
  have hsum : (zs.map ln).sum ≤ 1048576 := Nat.le_trans (sum_ln_le hl) hs
  refine sx_enter Try.func9 rfl (n := 112) rfl (Nat.le_of_ble_eq_true rfl) (args := [.agg #[.bool sb, .slice Ab nb cb], .slice A n cap, .slice A2 n2 cap2]) ?_
  refine cw_keep [(0, .agg #[.bool sb, .slice Ab nb cb]), (1, .slice A n cap), (2, .slice A2 n2 cap2)] ⟨rfl, rfl, rfl, trivial⟩ ?_
  refine cw_seq ?_
  refine cw_region ?_
  refine wl_box rfl rfl (vs := [.bool sb, .slice Ab nb cb]) rfl (by decide) fun g1 v2 nb => ?_
  have hb4 := nb.bk
  have ge5 : w.heap.size ≤ g1 := by rw [← nb.at_]; exact (Ext.refl w).size
  have e3 := nb.ext
  clear nb
  have hw1 : Ext w v2 := (Ext.refl w).trans e3
  refine wl_assign rfl rfl (by decide) ?_
  refine wl_nil ?_
  refine eo_then ?_
  refine cw_seq ?_
  refine cw_seq ?_
  refine cw_region ?_
  refine wl_call rfl rfl (vs := []) (by kernel_rfl) (by decide) (g_law6_wakes _) ?_
  rintro _ v6 ⟨xr8, rfl, r8, e7⟩
  refine ret_intro ?_
  have hw2 : Ext w v6 := hw1.trans e7
  obtain rfl := r8
  refine wl_pure rfl rfl (v := .bool false) (by decide) (by kernel_rfl) ?_
  refine wl_nil ?_
  refine eo_then ?_
  refine cw_false rfl ?_
  refine cw_skip ?_
  refine eo_then ?_
  refine cw_seq ?_
  refine cw_region ?_
  refine wl_assign rfl rfl (by decide) ?_
  refine wl_nil ?_
  refine eo_then ?_
  refine cw_seq ?_
  refine cw_region ?_
  refine wl_assign rfl rfl (by decide) ?_
  refine wl_nil ?_
  refine eo_then ?_
  refine cw_seq ?_
  refine cw_region ?_
  refine wl_call rfl rfl (vs := [.int .u64 1]) (by kernel_rfl) (by decide) ((g_law6_of hw2.size (by decide : 1 ≤ 18446744073709551615)).mono (Gv.imp (ZO.zr (by decide : 1 ≤ 18446744073709551615) (by decide : 1 ≠ 0)))) ?_
  rintro _ v9 ⟨xr11, rfl, r11, e10⟩
  refine ret_intro ?_
  have hw3 : Ext w v9 := hw2.trans e10
  obtain ⟨s12, A12, n12, c12, rfl, z12⟩ := r11
  refine wl_alloc rfl (z := .agg #[.bool false, .slice none 0 0]) (vs := [.bool false, .slice none 0 0]) (fun _ => by kernel_rfl) rfl (by decide) fun g13 v14 nb => ?_
  have hb16 := nb.bk
  have ge17 : w.heap.size ≤ g13 := by rw [← nb.at_]; exact hw3.size
  have q18 : g1 < g13 := by rw [← nb.at_]; exact (hb4.ext (e7.trans e10)).lt
  have e15 := nb.ext
  clear nb
  have hw4 : Ext w v14 := hw3.trans e15
  have hb20 := hb16
  refine wl_stored rfl rfl rfl aggInt rfl hb20 (Nat.le_of_ble_eq_true rfl) rfl [.bool s12, .slice A12 n12 c12] rfl fun v19 hb21 u22 hs23 => ?_
  have hw5 : Ext w v19 := u22.ext hw4 ge17
  refine wl_nil ?_
  refine eo_then ?_
  refine cw_seq ?_
  refine cw_seq ?_
  refine cw_region ?_
  refine wl_assign rfl rfl (by decide) ?_
  refine wl_nil ?_
  refine eo_then ?_
  refine cw_block ?_
  obtain ⟨lb24, hlb24, hlelb24, hgl24, hq24_0, hq24_1⟩ : ∃ lb, lb ≤ v19.heap.size ∧ v19.heap.size ≤ lb ∧ w.heap.size ≤ lb ∧ g1 < lb ∧ g13 < lb := ⟨v19.heap.size, Nat.le_refl _, Nat.le_refl _, hw5.size, ((hb4.ext (e7.trans (e10.trans e15))).updN u22 (by omega)).lt, hb21.lt⟩
  refine cw_loop (T := World × Nat × Nat × List Int × List Int × ZC × Option Addr × Nat × Option Addr × Nat)
    (fun ⟨wr, k, p, rs, gs, kl, RA, rc, GA, gc⟩ => [(1, .slice A n cap), (2, .slice A2 n2 cap2), (3, .pointer (some ⟨g1, 0, none⟩)), (9, .pointer (some ⟨g13, 0, none⟩)), (7, .slice RA p rc), (8, .slice GA p gc), (10, .int .i64 ((k : Nat) : Int))])
    (fun ⟨wr, k, p, rs, gs, kl, RA, rc, GA, gc⟩ => wr)
    (fun ⟨wr, k, p, rs, gs, kl, RA, rc, GA, gc⟩ => (Ext w wr) ∧ (k ≤ n) ∧ (p ≤ k) ∧ (Chi rs gs p x) ∧ ((gs.map ln).sum ≤ ((zs.take k).map ln).sum) ∧ (Bk wr g1 27 [.bool sb, .slice Ab nb cb]) ∧ (Bk wr g13 27 [.bool kl.s, .slice kl.A kl.n kl.c]) ∧ (Zr wr w.heap.size kl.s kl.A kl.n kl.c (lcmL gs)) ∧ (lb24 ≤ wr.heap.size) ∧ (Lz (some w) 4194304 w.heap.size wr lb24 RA p rc rs) ∧ (Lz (some w) 1048576 w.heap.size wr lb24 GA p gc gs) ∧ (∀ a b, RA = some a → GA = some b → a.block ≠ b.block))
    (fun ⟨wr, k, p, rs, gs, kl, RA, rc, GA, gc⟩ => n - k)
    (⟨v19, 0, 0, [], [], ⟨s12, A12, n12, c12⟩, none, 0, none, 0⟩ : World × Nat × Nat × List Int × List Int × ZC × Option Addr × Nat × Option Addr × Nat) ⟨hw5, Nat.zero_le _, Nat.le_refl _, (Chi.nil x), (Nat.zero_le _), ((hb4.ext (e7.trans (e10.trans e15))).updN u22 (by omega)), hb21, (((z12.ext e15).updT hb20 u22)).cast one_lcmL, hlb24, (Lz.nil _ _ _ _ _), (Lz.nil _ _ _ _ _), (fun a b ha => by cases ha)⟩ rfl ⟨rfl, rfl, rfl, rfl, rfl, rfl, rfl, trivial⟩ ?_
  rintro ⟨wr, k, p, rs, gs, kl, RA, rc, GA, gc⟩ ⟨hw1, hk, hp, hC, hS, b_3, b_9, zl9, hlb, hlr, hlg, hdis⟩
  refine cw_re [(1, .slice A n cap), (2, .slice A2 n2 cap2), (3, .pointer (some ⟨g1, 0, none⟩)), (9, .pointer (some ⟨g13, 0, none⟩)), (7, .slice RA p rc), (8, .slice GA p gc), (10, .int .i64 ((k : Nat) : Int))] wr rfl ⟨rfl, rfl, rfl, rfl, rfl, rfl, rfl, trivial⟩ ?_
  have blk25 := hlr.block
  have blk26 := hlg.block
  have hSS : (gs.map ln).sum ≤ 1048576 := Nat.le_trans hS (Nat.le_trans (lns_le zs k) hsum)
  have hLl : ln (lcmL gs) ≤ 1048577 := ln_lcmA gs hSS
  refine cw_seq ?_
  refine cw_seq ?_
  by_cases hkn : k < n
  ·
    refine cw_region ?_
    refine wl_move rfl rfl (by decide) ?_
    refine wl_move rfl rfl (by decide) ?_
    refine wl_pure rfl rfl (v := .int .i64 ((n : Nat) : Int)) (by decide) (by kernel_rfl) ?_
    refine wl_cmp rfl rfl rfl true (cb_lt_t (a := k) (b := n) rfl rfl (by omega)) (by decide) ?_
    refine wl_nil ?_
    refine eo_then ?_
    refine cw_true rfl ?_
    refine cw_skip ?_
    refine eo_then ?_
    refine cw_seq ?_
    refine cw_block ?_
    refine cw_seq ?_
    refine cw_seq ?_
    by_cases hz0 : zs.getD k 0 = 0
    ·
      refine cw_region ?_
      refine wl_move rfl rfl (by decide) ?_
      refine wl_move rfl rfl (by decide) ?_
      obtain ⟨pz27, sz27, Bz27, cz27, hpz27, ldz27, ez27⟩ := hl.at (i := k) (by omega)
      refine wl_idx rfl rfl rfl elemI aggInt.size k rfl (by omega) pz27 hpz27 (by decide) ?_
      refine wl_load rfl rfl (ldz27 _ hw1 _ _ aggInt) (by decide) ?_
      refine wl_call rfl rfl (vs := [.agg #[.bool sz27, .slice Bz27 (ms.getD k 0) cz27]]) (by kernel_rfl) (by decide) (g_ref5_Sign (ez27.ext hw1) (Nat.le_trans (hmb k) (by decide))) ?_
      rintro _ v28 ⟨xr30, rfl, r30, e29⟩
      refine ret_intro ?_
      have hw2 : Ext w v28 := hw1.trans e29
      obtain rfl := r30
      refine wl_cmp rfl rfl rfl true (scmp_eq_t hz0) (by decide) ?_
      refine wl_nil ?_
      refine eo_then ?_
      refine cw_true rfl ?_
      refine cw_exit ?_
      refine eo_thenX ?_
      refine eo_block_here ?_
      refine eo_then ?_
      refine cw_region ?_
      refine wl_move rfl rfl (by decide) ?_
      refine wl_ar rfl rfl rfl ((k + 1 : Nat) : Int) (ai_add (a := k) (b := 1) rfl rfl (by omega)) (by decide) ?_
      refine wl_assign rfl rfl (by decide) ?_
      refine wl_nil ?_
      refine eo_round (⟨v28, k + 1, p, _, _, ⟨kl.s, kl.A, kl.n, kl.c⟩, RA, rc, GA, gc⟩ : World × Nat × Nat × List Int × List Int × ZC × Option Addr × Nat × Option Addr × Nat) ⟨hw2, (by omega), (by omega), hC, (by rw [lns_take (by rw [hl.len]; omega)]; omega), (b_3.ext e29), (b_9.ext e29), (zl9.ext e29), (Nat.le_trans hlb e29.size), (hlr.ext e29), (hlg.ext e29), hdis⟩ (show n - (k + 1) < n - k by omega) rfl ⟨rfl, rfl, rfl, rfl, rfl, rfl, rfl, trivial⟩
    ·
      refine cw_region ?_
      refine wl_move rfl rfl (by decide) ?_
      refine wl_move rfl rfl (by decide) ?_
      obtain ⟨pz31, sz31, Bz31, cz31, hpz31, ldz31, ez31⟩ := hl.at (i := k) (by omega)
      refine wl_idx rfl rfl rfl elemI aggInt.size k rfl (by omega) pz31 hpz31 (by decide) ?_
      refine wl_load rfl rfl (ldz31 _ hw1 _ _ aggInt) (by decide) ?_
      refine wl_call rfl rfl (vs := [.agg #[.bool sz31, .slice Bz31 (ms.getD k 0) cz31]]) (by kernel_rfl) (by decide) (g_ref5_Sign (ez31.ext hw1) (Nat.le_trans (hmb k) (by decide))) ?_
      rintro _ v32 ⟨xr34, rfl, r34, e33⟩
      refine ret_intro ?_
      have hw2 : Ext w v32 := hw1.trans e33
      obtain rfl := r34
      refine wl_cmp rfl rfl rfl false (scmp_eq_f hz0) (by decide) ?_
      refine wl_nil ?_
      refine eo_then ?_
      refine cw_false rfl ?_
      refine cw_skip ?_
      refine eo_then ?_
      refine cw_seq ?_
      refine cw_region ?_
      refine wl_load rfl rfl (load_agg aggInt (b_3.ext e33) [.bool sb, .slice Ab nb cb] rfl (Nat.le_of_ble_eq_true rfl) rfl) (by decide) ?_
      refine wl_alloc rfl (z := .agg #[.bool false, .slice none 0 0]) (vs := [.bool false, .slice none 0 0]) (fun _ => by kernel_rfl) rfl (by decide) fun g35 v36 nb => ?_
      have hb38 := nb.bk
      have ge39 : w.heap.size ≤ g35 := by rw [← nb.at_]; exact hw2.size
      have q40 : g13 < g35 := by rw [← nb.at_]; exact (b_9.ext e33).lt
      have ne41 : ∀ p, RA = some p → p.block ≠ g35 := fun p hp => by have := ((hlr.ext e33)).block p hp; have := nb.at_; omega
      have ne42 : ∀ p, GA = some p → p.block ≠ g35 := fun p hp => by have := ((hlg.ext e33)).block p hp; have := nb.at_; omega
      have e37 := nb.ext
      clear nb
      have hw3 : Ext w v36 := hw2.trans e37
      have hb44 := hb38
      refine wl_stored rfl rfl rfl aggInt rfl hb44 (Nat.le_of_ble_eq_true rfl) rfl [.bool sb, .slice Ab nb cb] rfl fun v43 hb45 u46 hs47 => ?_
      have hw4 : Ext w v43 := u46.ext hw3 ge39
      refine wl_nil ?_
      refine eo_then ?_
      refine cw_seq ?_
      refine cw_seq ?_
      by_cases hkn2 : k < n2
      ·
        refine cw_region ?_
        refine wl_move rfl rfl (by decide) ?_
        refine wl_move rfl rfl (by decide) ?_
        refine wl_pure rfl rfl (v := .int .i64 ((n2 : Nat) : Int)) (by decide) (by kernel_rfl) ?_
        refine wl_cmp rfl rfl rfl true (cb_lt_t (a := k) (b := n2) rfl rfl (by omega)) (by decide) ?_
        refine wl_nil ?_
        refine eo_then ?_
        refine cw_true rfl ?_
        obtain ⟨pz48, sz48, Bz48, cz48, hpz48, ldz48, ez48⟩ := hl2.at (i := k) (by omega)
        have L49 : ln ((zs.getD k 0) * (ys.getD k 0) + x) ≤ 2097153 := Nat.le_trans (ln_add (ln_mul (Nat.le_trans ez31.ln (hmb k)) (Nat.le_trans ez48.ln (hmb2 k))) Lx) (by decide)
        refine cw_draw mix 10 [] [Is (.slice A n cap), Is (.int .i64 ((k : Nat) : Int)), Is (.pointer (some pz31)), Is (.agg #[.bool sz31, .slice Bz31 (ms.getD k 0) cz31]), Is (.slice A2 n2 cap2), Is (.int .i64 ((k : Nat) : Int)), Is (.pointer (some pz48)), Is (.agg #[.bool sz48, .slice Bz48 (ns.getD k 0) cz48]), Is (.agg #[.bool sb, .slice Ab nb cb]), ZR w.heap.size ((zs.getD k 0) * (ys.getD k 0) + x)] [[], [], [0, 1], [2], [], [], [4, 5], [6], [], [3, 7, 8]] [[], [], [0, 1], [0, 1, 2], [], [], [4, 5], [4, 5, 6], [], [0, 1, 2, 3, 4, 5, 6, 7, 8], [0, 1, 2, 3, 4, 5, 6, 7, 8, 9]] rfl
          (obs_cons rfl rfl (hob rfl rfl ?_) (obs_cons rfl rfl (hob rfl rfl ?_) (obs_cons rfl rfl (hob rfl rfl ?_) (obs_cons rfl rfl (hob rfl rfl ?_) (obs_cons rfl rfl (hob rfl rfl ?_) (obs_cons rfl rfl (hob rfl rfl ?_) (obs_cons rfl rfl (hob rfl rfl ?_) (obs_cons rfl rfl (hob rfl rfl ?_) (obs_cons rfl rfl (hob rfl rfl ?_) (obs_cons rfl rfl (hob rfl rfl ?_) obs_nil)))))))))) ?_
        · -- 0
          intro v51 e52
          have hw5 : Ext w v51 := hw4.trans e52
          refine deps_nil ?_
          refine wl_move rfl rfl (by decide) ?_
          exact pi_done rfl (Ext.refl _) rfl
        · -- 1
          intro v53 e54
          have hw5 : Ext w v53 := hw4.trans e54
          refine deps_nil ?_
          refine wl_move rfl rfl (by decide) ?_
          exact pi_done rfl (Ext.refl _) rfl
        · -- 2
          intro v55 e56
          have hw5 : Ext w v55 := hw4.trans e56
          refine deps_cons rfl rfl fun x57 y58 h59 e60 f61 => ?_
          obtain rfl := h59
          refine deps_cons rfl rfl fun x62 y63 h64 e65 f66 => ?_
          obtain rfl := h64
          refine deps_nil ?_
          refine wl_idx rfl rfl rfl elemI aggInt.size k rfl (by omega) pz31 hpz31 (by decide) ?_
          exact pi_done rfl (Ext.refl _) rfl
        · -- 3
          intro v67 e68
          have hw5 : Ext w v67 := hw4.trans e68
          refine deps_cons rfl rfl fun x69 y70 h71 e72 f73 => ?_
          obtain rfl := h71
          refine deps_nil ?_
          refine wl_load rfl rfl (ldz31 _ hw5 _ _ aggInt) (by decide) ?_
          exact pi_done rfl (Ext.refl _) rfl
        · -- 4
          intro v74 e75
          have hw5 : Ext w v74 := hw4.trans e75
          refine deps_nil ?_
          refine wl_move rfl rfl (by decide) ?_
          exact pi_done rfl (Ext.refl _) rfl
        · -- 5
          intro v76 e77
          have hw5 : Ext w v76 := hw4.trans e77
          refine deps_nil ?_
          refine wl_move rfl rfl (by decide) ?_
          exact pi_done rfl (Ext.refl _) rfl
        · -- 6
          intro v78 e79
          have hw5 : Ext w v78 := hw4.trans e79
          refine deps_cons rfl rfl fun x80 y81 h82 e83 f84 => ?_
          obtain rfl := h82
          refine deps_cons rfl rfl fun x85 y86 h87 e88 f89 => ?_
          obtain rfl := h87
          refine deps_nil ?_
          refine wl_idx rfl rfl rfl elemI aggInt.size k rfl (by omega) pz48 hpz48 (by decide) ?_
          exact pi_done rfl (Ext.refl _) rfl
        · -- 7
          intro v90 e91
          have hw5 : Ext w v90 := hw4.trans e91
          refine deps_cons rfl rfl fun x92 y93 h94 e95 f96 => ?_
          obtain rfl := h94
          refine deps_nil ?_
          refine wl_load rfl rfl (ldz48 _ hw5 _ _ aggInt) (by decide) ?_
          exact pi_done rfl (Ext.refl _) rfl
        · -- 8
          intro v97 e98
          have hw5 : Ext w v97 := hw4.trans e98
          refine deps_nil ?_
          refine wl_load rfl rfl (load_agg aggInt (((b_3.ext (e33.trans e37)).updN u46 (by omega)).ext e98) [.bool sb, .slice Ab nb cb] rfl (Nat.le_of_ble_eq_true rfl) rfl) (by decide) ?_
          exact pi_done rfl (Ext.refl _) rfl
        · -- 9
          intro v99 e100
          have hw5 : Ext w v99 := hw4.trans e100
          refine deps_cons rfl rfl fun x101 y102 h103 e104 f105 => ?_
          obtain rfl := h103
          refine deps_cons rfl rfl fun x106 y107 h108 e109 f110 => ?_
          obtain rfl := h108
          refine deps_cons rfl rfl fun x111 y112 h113 e114 f115 => ?_
          obtain rfl := h113
          refine deps_nil ?_
          have L116 : ln ((zs.getD k 0) * (ys.getD k 0) + x) ≤ 2097153 := Nat.le_trans (ln_add (ln_mul (Nat.le_trans ez31.ln (hmb k)) (Nat.le_trans ez48.ln (hmb2 k))) Lx) (by decide)
          refine wl_call rfl rfl (vs := [.agg #[.bool sz31, .slice Bz31 (ms.getD k 0) cz31], .agg #[.bool sz48, .slice Bz48 (ns.getD k 0) cz48], .agg #[.bool sb, .slice Ab nb cb]]) (by kernel_rfl) (by decide) (g_ref5_MulAdd hw5.size (ez31.ext hw5) (Nat.le_trans (hmb k) (by decide)) (ez48.ext hw5) (Nat.le_trans (hmb2 k) (by decide)) (hx.ext hw5) (Nat.le_trans lb (by decide))) ?_
          rintro _ v117 ⟨xr119, rfl, r119, e118⟩
          refine ret_intro ?_
          have hw6 : Ext w v117 := hw5.trans e118
          obtain ⟨s120, A120, n120, c120, rfl, z120⟩ := r119
          exact pi_done rfl e118 ⟨_, _, _, _, rfl, z120⟩
        · -- all
          intro v121 e122
          have hw5 : Ext w v121 := hw4.trans e122
          refine deps_cons rfl rfl fun x123 y124 h125 e126 f127 => ?_
          obtain rfl := h125
          refine deps_cons rfl rfl fun x128 y129 h130 e131 f132 => ?_
          obtain rfl := h130
          refine deps_cons rfl rfl fun x133 y134 h135 e136 f137 => ?_
          obtain rfl := h135
          refine deps_cons rfl rfl fun x138 y139 h140 e141 f142 => ?_
          obtain rfl := h140
          refine deps_cons rfl rfl fun x143 y144 h145 e146 f147 => ?_
          obtain rfl := h145
          refine deps_cons rfl rfl fun x148 y149 h150 e151 f152 => ?_
          obtain rfl := h150
          refine deps_cons rfl rfl fun x153 y154 h155 e156 f157 => ?_
          obtain rfl := h155
          refine deps_cons rfl rfl fun x158 y159 h160 e161 f162 => ?_
          obtain rfl := h160
          refine deps_cons rfl rfl fun x163 y164 h165 e166 f167 => ?_
          obtain rfl := h165
          refine deps_cons rfl rfl fun x168 y169 h170 e171 f172 => ?_
          obtain ⟨s173, A173, n173, c173, rfl, z173⟩ := h170
          have z173 := z173.ext f172
          refine deps_nil ?_
          have hb175 := (hb45.ext e122)
          refine wl_stored rfl rfl rfl aggInt rfl hb175 (Nat.le_of_ble_eq_true rfl) rfl [.bool s173, .slice A173 n173 c173] rfl fun v174 hb176 u177 hs178 => ?_
          have hw6 : Ext w v174 := u177.ext hw5 ge39
          refine wl_nil ?_
          refine eo_np ?_
          refine eo_then ?_
          refine cw_seq ?_
          refine cw_region ?_
          refine wl_move rfl rfl (by decide) ?_
          refine wl_load rfl rfl (load_agg aggInt hb176 [.bool s173, .slice A173 n173 c173] rfl (Nat.le_of_ble_eq_true rfl) rfl) (by decide) ?_
          refine wl_bslice rfl rfl (by decide) (k := 1) (e := 27) [.bool s173, .slice A173 n173 c173] (fun _ => by kernel_rfl) fun g179 v180 nb => ?_
          have hb182 := nb.bk
          have ge183 : w.heap.size ≤ g179 := by rw [← nb.at_]; exact hw6.size
          have q184 : g35 < g179 := by rw [← nb.at_]; exact hb176.lt
          have ne185 : ∀ p, RA = some p → p.block ≠ g179 := fun p hp => by have := (((((hlr.ext (e33.trans e37)).updT hb44 u46 ne41).ext e122).updT hb175 u177 ne41)).block p hp; have := nb.at_; omega
          have ne186 : ∀ p, GA = some p → p.block ≠ g179 := fun p hp => by have := (((((hlg.ext (e33.trans e37)).updT hb44 u46 ne42).ext e122).updT hb175 u177 ne42)).block p hp; have := nb.at_; omega
          have e181 := nb.ext
          clear nb
          have hw7 : Ext w v180 := hw6.trans e181
          have lt192 := (((((hlr.ext (e33.trans e37)).updT hb44 u46 ne41).ext e122).updT hb175 u177 ne41).ext e181)
          obtain ⟨us190, own191⟩ := lt192.own
          refine wl_appI (e := ⟨s173, A173, n173, c173⟩) (z := (zs.getD k 0) * (ys.getD k 0) + x) rfl rfl rfl lt192 (Nat.le_trans (Nat.le_trans (Nat.le_trans (Nat.le_trans (Nat.le_trans (Nat.le_trans hlb e33.size) e37.size) u46.by_.size) e122.size) u177.by_.size) e181.size) hb182 (Or.inl ((z173.updT hb175 u177).ext e181)) (z173.le (Nat.le_trans L49 (by decide))) (by omega) (by decide) fun A193 c194 v187 lz188 uo189 kp195 => ?_
          have hw8 : Ext w v187 := uo189.ext hw7 (fun p hp => by have := blk25 p hp; omega)
          have hlblz188 : lb24 ≤ v187.heap.size := Nat.le_trans (Nat.le_trans (Nat.le_trans (Nat.le_trans (Nat.le_trans (Nat.le_trans (Nat.le_trans hlb e33.size) e37.size) u46.by_.size) e122.size) u177.by_.size) e181.size) uo189.size
          have ne196 := kept_ne kp195 (hb176.ext e181).lt ne41
          have ne197 := kept_ne kp195 hb182.lt ne185
          have di198 := kept_dis kp195 (fun q hq => (((((((hlg.ext (e33.trans e37)).updT hb44 u46 ne42).ext e122).updT hb175 u177 ne42).ext e181)).block q hq).2) hdis
          have blk199 := lz188.block
          refine wl_assign rfl rfl (by decide) ?_
          refine wl_nil ?_
          refine eo_then ?_
          refine cw_seq ?_
          refine cw_region ?_
          refine wl_move rfl rfl (by decide) ?_
          refine wl_move rfl rfl (by decide) ?_
          refine wl_move rfl rfl (by decide) ?_
          refine wl_idx rfl rfl rfl elemI aggInt.size k rfl (by omega) pz31 hpz31 (by decide) ?_
          refine wl_load rfl rfl (ldz31 _ hw8 _ _ aggInt) (by decide) ?_
          refine wl_bslice rfl rfl (by decide) (k := 1) (e := 27) [.bool sz31, .slice Bz31 (ms.getD k 0) cz31] (fun _ => by kernel_rfl) fun g200 v201 nb => ?_
          have hb203 := nb.bk
          have ge204 : w.heap.size ≤ g200 := by rw [← nb.at_]; exact hw8.size
          have q205 : g179 < g200 := by rw [← nb.at_]; exact (hb182.updO uo189 ne185).lt
          have ne206 : ∀ p, GA = some p → p.block ≠ g200 := fun p hp => by have := (((((((hlg.ext (e33.trans e37)).updT hb44 u46 ne42).ext e122).updT hb175 u177 ne42).ext e181).updO own191 uo189 hdis)).block p hp; have := nb.at_; omega
          have ne207 : ∀ p, A193 = some p → p.block ≠ g200 := fun p hp => by have := (lz188).block p hp; have := nb.at_; omega
          have e202 := nb.ext
          clear nb
          have hw9 : Ext w v201 := hw8.trans e202
          have lt213 := (((((((hlg.ext (e33.trans e37)).updT hb44 u46 ne42).ext e122).updT hb175 u177 ne42).ext e181).updO own191 uo189 hdis).ext e202)
          obtain ⟨us211, own212⟩ := lt213.own
          refine wl_appI (e := ⟨sz31, Bz31, (ms.getD k 0), cz31⟩) (z := zs.getD k 0) rfl rfl rfl lt213 (Nat.le_trans (Nat.le_trans (Nat.le_trans (Nat.le_trans (Nat.le_trans (Nat.le_trans (Nat.le_trans (Nat.le_trans hlb e33.size) e37.size) u46.by_.size) e122.size) u177.by_.size) e181.size) uo189.size) e202.size) hb203 (Or.inr ⟨_, rfl, ez31⟩) (Nat.le_trans (hmb k) (by decide)) (by omega) (by decide) fun A214 c215 v208 lz209 uo210 kp216 => ?_
          have hw10 : Ext w v208 := uo210.ext hw9 (fun p hp => by have := blk26 p hp; omega)
          have hlblz209 : lb24 ≤ v208.heap.size := Nat.le_trans (Nat.le_trans (Nat.le_trans (Nat.le_trans (Nat.le_trans (Nat.le_trans (Nat.le_trans (Nat.le_trans (Nat.le_trans hlb e33.size) e37.size) u46.by_.size) e122.size) u177.by_.size) e181.size) uo189.size) e202.size) uo210.size
          have ne217 := kept_ne kp216 (((hb176.ext e181).updO uo189 ne41).ext e202).lt ne42
          have ne218 := kept_ne kp216 ((hb182.updO uo189 ne185).ext e202).lt ne186
          have ne219 := kept_ne kp216 hb203.lt ne206
          have di220 := kept_dis kp216 (fun q hq => (((lz188.ext e202)).block q hq).2) (fun p q hp hq e => di198 q p hq hp e.symm)
          have blk221 := lz209.block
          refine wl_assign rfl rfl (by decide) ?_
          refine wl_nil ?_
          refine eo_then ?_
          have L222 : ln ((Int.lcm (lcmL gs) (zs.getD k 0) : Int)) ≤ 2097153 := Nat.le_trans (ln_lcmC _ _) (Nat.add_le_add hLl (Nat.le_trans ez31.ln (hmb k)))
          refine cw_draw mix 6 [] [Is (.agg #[.bool kl.s, .slice kl.A kl.n kl.c]), Is (.slice A n cap), Is (.int .i64 ((k : Nat) : Int)), Is (.pointer (some pz31)), Is (.agg #[.bool sz31, .slice Bz31 (ms.getD k 0) cz31]), ZR w.heap.size ((Int.lcm (lcmL gs) (zs.getD k 0) : Int))] [[], [], [], [1, 2], [3], [0, 4]] [[], [], [], [1, 2], [1, 2, 3], [0, 1, 2, 3, 4], [0, 1, 2, 3, 4, 5]] rfl
            (obs_cons rfl rfl (hob rfl rfl ?_) (obs_cons rfl rfl (hob rfl rfl ?_) (obs_cons rfl rfl (hob rfl rfl ?_) (obs_cons rfl rfl (hob rfl rfl ?_) (obs_cons rfl rfl (hob rfl rfl ?_) (obs_cons rfl rfl (hob rfl rfl ?_) obs_nil)))))) ?_
          · -- 0
            intro v224 e225
            have hw11 : Ext w v224 := hw10.trans e225
            refine deps_nil ?_
            refine wl_load rfl rfl (load_agg aggInt (((((((((b_9.ext (e33.trans e37)).updN u46 (by omega)).ext e122).updN u177 (by omega)).ext e181).updO uo189 (fun p hp => by have := blk25 p hp; omega)).ext e202).updO uo210 (fun p hp => by have := blk26 p hp; omega)).ext e225) [.bool kl.s, .slice kl.A kl.n kl.c] rfl (Nat.le_of_ble_eq_true rfl) rfl) (by decide) ?_
            exact pi_done rfl (Ext.refl _) rfl
          · -- 1
            intro v226 e227
            have hw11 : Ext w v226 := hw10.trans e227
            refine deps_nil ?_
            refine wl_move rfl rfl (by decide) ?_
            exact pi_done rfl (Ext.refl _) rfl
          · -- 2
            intro v228 e229
            have hw11 : Ext w v228 := hw10.trans e229
            refine deps_nil ?_
            refine wl_move rfl rfl (by decide) ?_
            exact pi_done rfl (Ext.refl _) rfl
          · -- 3
            intro v230 e231
            have hw11 : Ext w v230 := hw10.trans e231
            refine deps_cons rfl rfl fun x232 y233 h234 e235 f236 => ?_
            obtain rfl := h234
            refine deps_cons rfl rfl fun x237 y238 h239 e240 f241 => ?_
            obtain rfl := h239
            refine deps_nil ?_
            refine wl_idx rfl rfl rfl elemI aggInt.size k rfl (by omega) pz31 hpz31 (by decide) ?_
            exact pi_done rfl (Ext.refl _) rfl
          · -- 4
            intro v242 e243
            have hw11 : Ext w v242 := hw10.trans e243
            refine deps_cons rfl rfl fun x244 y245 h246 e247 f248 => ?_
            obtain rfl := h246
            refine deps_nil ?_
            refine wl_load rfl rfl (ldz31 _ hw11 _ _ aggInt) (by decide) ?_
            exact pi_done rfl (Ext.refl _) rfl
          · -- 5
            intro v249 e250
            have hw11 : Ext w v249 := hw10.trans e250
            refine deps_cons rfl rfl fun x251 y252 h253 e254 f255 => ?_
            obtain rfl := h253
            refine deps_cons rfl rfl fun x256 y257 h258 e259 f260 => ?_
            obtain rfl := h258
            refine deps_nil ?_
            have L261 : ln ((Int.lcm (lcmL gs) (zs.getD k 0) : Int)) ≤ 2097153 := Nat.le_trans (ln_lcmC _ _) (Nat.add_le_add hLl (Nat.le_trans ez31.ln (hmb k)))
            refine wl_call rfl rfl (vs := [.agg #[.bool kl.s, .slice kl.A kl.n kl.c], .agg #[.bool sz31, .slice Bz31 (ms.getD k 0) cz31]]) (by kernel_rfl) (by decide) (g_bezout_Lcm hw11.size (((((((((zl9.ext (e33.trans e37)).updT hb44 u46).ext e122).updT hb175 u177).ext e181).updOT own191 uo189).ext e202).updOT own212 uo210).ext e250).zi (zl9.le (Nat.le_trans hLl (by decide))) (ez31.ext hw11) (Nat.le_trans (hmb k) (by decide))) ?_
            rintro _ v262 ⟨xr264, rfl, r264, e263⟩
            refine ret_intro ?_
            have hw12 : Ext w v262 := hw11.trans e263
            obtain ⟨s265, A265, n265, c265, rfl, z265⟩ := r264
            exact pi_done rfl e263 ⟨_, _, _, _, rfl, z265⟩
          · -- all
            intro v266 e267
            have hw11 : Ext w v266 := hw10.trans e267
            refine deps_cons rfl rfl fun x268 y269 h270 e271 f272 => ?_
            obtain rfl := h270
            refine deps_cons rfl rfl fun x273 y274 h275 e276 f277 => ?_
            obtain rfl := h275
            refine deps_cons rfl rfl fun x278 y279 h280 e281 f282 => ?_
            obtain rfl := h280
            refine deps_cons rfl rfl fun x283 y284 h285 e286 f287 => ?_
            obtain rfl := h285
            refine deps_cons rfl rfl fun x288 y289 h290 e291 f292 => ?_
            obtain rfl := h290
            refine deps_cons rfl rfl fun x293 y294 h295 e296 f297 => ?_
            obtain ⟨s298, A298, n298, c298, rfl, z298⟩ := h295
            have z298 := z298.ext f297
            refine deps_nil ?_
            have hb300 := (((((((((b_9.ext (e33.trans e37)).updN u46 (by omega)).ext e122).updN u177 (by omega)).ext e181).updO uo189 (fun p hp => by have := blk25 p hp; omega)).ext e202).updO uo210 (fun p hp => by have := blk26 p hp; omega)).ext e267)
            refine wl_stored rfl rfl rfl aggInt rfl hb300 (Nat.le_of_ble_eq_true rfl) rfl [.bool s298, .slice A298 n298 c298] rfl fun v299 hb301 u302 hs303 => ?_
            have hw12 : Ext w v299 := u302.ext hw11 ge17
            refine wl_nil ?_
            refine eo_np ?_
            refine eo_block_normal ?_
            refine eo_then ?_
            refine cw_region ?_
            refine wl_move rfl rfl (by decide) ?_
            refine wl_ar rfl rfl rfl ((k + 1 : Nat) : Int) (ai_add (a := k) (b := 1) rfl rfl (by omega)) (by decide) ?_
            refine wl_assign rfl rfl (by decide) ?_
            refine wl_nil ?_
            refine eo_round (⟨v299, k + 1, p + 1, _, _, ⟨s298, A298, n298, c298⟩, A193, c194, A214, c215⟩ : World × Nat × Nat × List Int × List Int × ZC × Option Addr × Nat × Option Addr × Nat) ⟨hw12, (by omega), (by omega), (hC.snoc hz0 (dvd_muladd _ _ _)), (by rw [lns_snoc, lns_take (by rw [hl.len]; omega)]; omega), ((((((((((b_3.ext (e33.trans e37)).updN u46 (by omega)).ext e122).updN u177 (by omega)).ext e181).updO uo189 (fun p hp => by have := blk25 p hp; omega)).ext e202).updO uo210 (fun p hp => by have := blk26 p hp; omega)).ext e267).updN u302 (by omega)), hb301, ((z298.updT hb300 u302)).cast (by rw [lcmL_snoc]), (Nat.le_trans (Nat.le_trans (Nat.le_trans (Nat.le_trans hlblz188 e202.size) uo210.size) e267.size) u302.by_.size), ((((lz188.ext e202).updO own212 uo210 (fun p q hp hq e => di198 q p hq hp e.symm)).ext e267).updT hb300 u302 (fun p hp => by have := blk199 p hp; omega)), ((lz209.ext e267).updT hb300 u302 (fun p hp => by have := blk221 p hp; omega)), (fun p q hp hq e => di220 q p hq hp e.symm)⟩ (show n - (k + 1) < n - k by omega) rfl ⟨rfl, rfl, rfl, rfl, rfl, rfl, rfl, trivial⟩
      ·
        refine cw_region ?_
        refine wl_move rfl rfl (by decide) ?_
        refine wl_move rfl rfl (by decide) ?_
        refine wl_pure rfl rfl (v := .int .i64 ((n2 : Nat) : Int)) (by decide) (by kernel_rfl) ?_
        refine wl_cmp rfl rfl rfl false (cb_lt_f (a := k) (b := n2) rfl rfl (by omega)) (by decide) ?_
        refine wl_nil ?_
        refine eo_then ?_
        refine cw_false rfl ?_
        refine cw_skip ?_
        refine eo_then ?_
        refine cw_seq ?_
        refine cw_region ?_
        refine wl_move rfl rfl (by decide) ?_
        refine wl_load rfl rfl (load_agg aggInt hb45 [.bool sb, .slice Ab nb cb] rfl (Nat.le_of_ble_eq_true rfl) rfl) (by decide) ?_
        refine wl_bslice rfl rfl (by decide) (k := 1) (e := 27) [.bool sb, .slice Ab nb cb] (fun _ => by kernel_rfl) fun g304 v305 nb => ?_
        have hb307 := nb.bk
        have ge308 : w.heap.size ≤ g304 := by rw [← nb.at_]; exact hw4.size
        have q309 : g35 < g304 := by rw [← nb.at_]; exact hb45.lt
        have ne310 : ∀ p, RA = some p → p.block ≠ g304 := fun p hp => by have := (((hlr.ext (e33.trans e37)).updT hb44 u46 ne41)).block p hp; have := nb.at_; omega
        have ne311 : ∀ p, GA = some p → p.block ≠ g304 := fun p hp => by have := (((hlg.ext (e33.trans e37)).updT hb44 u46 ne42)).block p hp; have := nb.at_; omega
        have e306 := nb.ext
        clear nb
        have hw5 : Ext w v305 := hw4.trans e306
        have lt317 := (((hlr.ext (e33.trans e37)).updT hb44 u46 ne41).ext e306)
        obtain ⟨us315, own316⟩ := lt317.own
        refine wl_appI (e := ⟨sb, Ab, nb, cb⟩) (z := x) rfl rfl rfl lt317 (Nat.le_trans (Nat.le_trans (Nat.le_trans (Nat.le_trans hlb e33.size) e37.size) u46.by_.size) e306.size) hb307 (Or.inr ⟨_, rfl, hx⟩) (Nat.le_trans lb (by decide)) (by omega) (by decide) fun A318 c319 v312 lz313 uo314 kp320 => ?_
        have hw6 : Ext w v312 := uo314.ext hw5 (fun p hp => by have := blk25 p hp; omega)
        have hlblz313 : lb24 ≤ v312.heap.size := Nat.le_trans (Nat.le_trans (Nat.le_trans (Nat.le_trans (Nat.le_trans hlb e33.size) e37.size) u46.by_.size) e306.size) uo314.size
        have ne321 := kept_ne kp320 (hb45.ext e306).lt ne41
        have ne322 := kept_ne kp320 hb307.lt ne310
        have di323 := kept_dis kp320 (fun q hq => (((((hlg.ext (e33.trans e37)).updT hb44 u46 ne42).ext e306)).block q hq).2) hdis
        have blk324 := lz313.block
        refine wl_assign rfl rfl (by decide) ?_
        refine wl_nil ?_
        refine eo_then ?_
        refine cw_seq ?_
        refine cw_region ?_
        refine wl_move rfl rfl (by decide) ?_
        refine wl_move rfl rfl (by decide) ?_
        refine wl_move rfl rfl (by decide) ?_
        refine wl_idx rfl rfl rfl elemI aggInt.size k rfl (by omega) pz31 hpz31 (by decide) ?_
        refine wl_load rfl rfl (ldz31 _ hw6 _ _ aggInt) (by decide) ?_
        refine wl_bslice rfl rfl (by decide) (k := 1) (e := 27) [.bool sz31, .slice Bz31 (ms.getD k 0) cz31] (fun _ => by kernel_rfl) fun g325 v326 nb => ?_
        have hb328 := nb.bk
        have ge329 : w.heap.size ≤ g325 := by rw [← nb.at_]; exact hw6.size
        have q330 : g304 < g325 := by rw [← nb.at_]; exact (hb307.updO uo314 ne310).lt
        have ne331 : ∀ p, GA = some p → p.block ≠ g325 := fun p hp => by have := (((((hlg.ext (e33.trans e37)).updT hb44 u46 ne42).ext e306).updO own316 uo314 hdis)).block p hp; have := nb.at_; omega
        have ne332 : ∀ p, A318 = some p → p.block ≠ g325 := fun p hp => by have := (lz313).block p hp; have := nb.at_; omega
        have e327 := nb.ext
        clear nb
        have hw7 : Ext w v326 := hw6.trans e327
        have lt338 := (((((hlg.ext (e33.trans e37)).updT hb44 u46 ne42).ext e306).updO own316 uo314 hdis).ext e327)
        obtain ⟨us336, own337⟩ := lt338.own
        refine wl_appI (e := ⟨sz31, Bz31, (ms.getD k 0), cz31⟩) (z := zs.getD k 0) rfl rfl rfl lt338 (Nat.le_trans (Nat.le_trans (Nat.le_trans (Nat.le_trans (Nat.le_trans (Nat.le_trans hlb e33.size) e37.size) u46.by_.size) e306.size) uo314.size) e327.size) hb328 (Or.inr ⟨_, rfl, ez31⟩) (Nat.le_trans (hmb k) (by decide)) (by omega) (by decide) fun A339 c340 v333 lz334 uo335 kp341 => ?_
        have hw8 : Ext w v333 := uo335.ext hw7 (fun p hp => by have := blk26 p hp; omega)
        have hlblz334 : lb24 ≤ v333.heap.size := Nat.le_trans (Nat.le_trans (Nat.le_trans (Nat.le_trans (Nat.le_trans (Nat.le_trans (Nat.le_trans hlb e33.size) e37.size) u46.by_.size) e306.size) uo314.size) e327.size) uo335.size
        have ne342 := kept_ne kp341 (((hb45.ext e306).updO uo314 ne41).ext e327).lt ne42
        have ne343 := kept_ne kp341 ((hb307.updO uo314 ne310).ext e327).lt ne311
        have ne344 := kept_ne kp341 hb328.lt ne331
        have di345 := kept_dis kp341 (fun q hq => (((lz313.ext e327)).block q hq).2) (fun p q hp hq e => di323 q p hq hp e.symm)
        have blk346 := lz334.block
        refine wl_assign rfl rfl (by decide) ?_
        refine wl_nil ?_
        refine eo_then ?_
        have L347 : ln ((Int.lcm (lcmL gs) (zs.getD k 0) : Int)) ≤ 2097153 := Nat.le_trans (ln_lcmC _ _) (Nat.add_le_add hLl (Nat.le_trans ez31.ln (hmb k)))
        refine cw_draw mix 6 [] [Is (.agg #[.bool kl.s, .slice kl.A kl.n kl.c]), Is (.slice A n cap), Is (.int .i64 ((k : Nat) : Int)), Is (.pointer (some pz31)), Is (.agg #[.bool sz31, .slice Bz31 (ms.getD k 0) cz31]), ZR w.heap.size ((Int.lcm (lcmL gs) (zs.getD k 0) : Int))] [[], [], [], [1, 2], [3], [0, 4]] [[], [], [], [1, 2], [1, 2, 3], [0, 1, 2, 3, 4], [0, 1, 2, 3, 4, 5]] rfl
          (obs_cons rfl rfl (hob rfl rfl ?_) (obs_cons rfl rfl (hob rfl rfl ?_) (obs_cons rfl rfl (hob rfl rfl ?_) (obs_cons rfl rfl (hob rfl rfl ?_) (obs_cons rfl rfl (hob rfl rfl ?_) (obs_cons rfl rfl (hob rfl rfl ?_) obs_nil)))))) ?_
        · -- 0
          intro v349 e350
          have hw9 : Ext w v349 := hw8.trans e350
          refine deps_nil ?_
          refine wl_load rfl rfl (load_agg aggInt (((((((b_9.ext (e33.trans e37)).updN u46 (by omega)).ext e306).updO uo314 (fun p hp => by have := blk25 p hp; omega)).ext e327).updO uo335 (fun p hp => by have := blk26 p hp; omega)).ext e350) [.bool kl.s, .slice kl.A kl.n kl.c] rfl (Nat.le_of_ble_eq_true rfl) rfl) (by decide) ?_
          exact pi_done rfl (Ext.refl _) rfl
        · -- 1
          intro v351 e352
          have hw9 : Ext w v351 := hw8.trans e352
          refine deps_nil ?_
          refine wl_move rfl rfl (by decide) ?_
          exact pi_done rfl (Ext.refl _) rfl
        · -- 2
          intro v353 e354
          have hw9 : Ext w v353 := hw8.trans e354
          refine deps_nil ?_
          refine wl_move rfl rfl (by decide) ?_
          exact pi_done rfl (Ext.refl _) rfl
        · -- 3
          intro v355 e356
          have hw9 : Ext w v355 := hw8.trans e356
          refine deps_cons rfl rfl fun x357 y358 h359 e360 f361 => ?_
          obtain rfl := h359
          refine deps_cons rfl rfl fun x362 y363 h364 e365 f366 => ?_
          obtain rfl := h364
          refine deps_nil ?_
          refine wl_idx rfl rfl rfl elemI aggInt.size k rfl (by omega) pz31 hpz31 (by decide) ?_
          exact pi_done rfl (Ext.refl _) rfl
        · -- 4
          intro v367 e368
          have hw9 : Ext w v367 := hw8.trans e368
          refine deps_cons rfl rfl fun x369 y370 h371 e372 f373 => ?_
          obtain rfl := h371
          refine deps_nil ?_
          refine wl_load rfl rfl (ldz31 _ hw9 _ _ aggInt) (by decide) ?_
          exact pi_done rfl (Ext.refl _) rfl
        · -- 5
          intro v374 e375
          have hw9 : Ext w v374 := hw8.trans e375
          refine deps_cons rfl rfl fun x376 y377 h378 e379 f380 => ?_
          obtain rfl := h378
          refine deps_cons rfl rfl fun x381 y382 h383 e384 f385 => ?_
          obtain rfl := h383
          refine deps_nil ?_
          have L386 : ln ((Int.lcm (lcmL gs) (zs.getD k 0) : Int)) ≤ 2097153 := Nat.le_trans (ln_lcmC _ _) (Nat.add_le_add hLl (Nat.le_trans ez31.ln (hmb k)))
          refine wl_call rfl rfl (vs := [.agg #[.bool kl.s, .slice kl.A kl.n kl.c], .agg #[.bool sz31, .slice Bz31 (ms.getD k 0) cz31]]) (by kernel_rfl) (by decide) (g_bezout_Lcm hw9.size (((((((zl9.ext (e33.trans e37)).updT hb44 u46).ext e306).updOT own316 uo314).ext e327).updOT own337 uo335).ext e375).zi (zl9.le (Nat.le_trans hLl (by decide))) (ez31.ext hw9) (Nat.le_trans (hmb k) (by decide))) ?_
          rintro _ v387 ⟨xr389, rfl, r389, e388⟩
          refine ret_intro ?_
          have hw10 : Ext w v387 := hw9.trans e388
          obtain ⟨s390, A390, n390, c390, rfl, z390⟩ := r389
          exact pi_done rfl e388 ⟨_, _, _, _, rfl, z390⟩
        · -- all
          intro v391 e392
          have hw9 : Ext w v391 := hw8.trans e392
          refine deps_cons rfl rfl fun x393 y394 h395 e396 f397 => ?_
          obtain rfl := h395
          refine deps_cons rfl rfl fun x398 y399 h400 e401 f402 => ?_
          obtain rfl := h400
          refine deps_cons rfl rfl fun x403 y404 h405 e406 f407 => ?_
          obtain rfl := h405
          refine deps_cons rfl rfl fun x408 y409 h410 e411 f412 => ?_
          obtain rfl := h410
          refine deps_cons rfl rfl fun x413 y414 h415 e416 f417 => ?_
          obtain rfl := h415
          refine deps_cons rfl rfl fun x418 y419 h420 e421 f422 => ?_
          obtain ⟨s423, A423, n423, c423, rfl, z423⟩ := h420
          have z423 := z423.ext f422
          refine deps_nil ?_
          have hb425 := (((((((b_9.ext (e33.trans e37)).updN u46 (by omega)).ext e306).updO uo314 (fun p hp => by have := blk25 p hp; omega)).ext e327).updO uo335 (fun p hp => by have := blk26 p hp; omega)).ext e392)
          refine wl_stored rfl rfl rfl aggInt rfl hb425 (Nat.le_of_ble_eq_true rfl) rfl [.bool s423, .slice A423 n423 c423] rfl fun v424 hb426 u427 hs428 => ?_
          have hw10 : Ext w v424 := u427.ext hw9 ge17
          refine wl_nil ?_
          refine eo_np ?_
          refine eo_block_normal ?_
          refine eo_then ?_
          refine cw_region ?_
          refine wl_move rfl rfl (by decide) ?_
          refine wl_ar rfl rfl rfl ((k + 1 : Nat) : Int) (ai_add (a := k) (b := 1) rfl rfl (by omega)) (by decide) ?_
          refine wl_assign rfl rfl (by decide) ?_
          refine wl_nil ?_
          refine eo_round (⟨v424, k + 1, p + 1, _, _, ⟨s423, A423, n423, c423⟩, A318, c319, A339, c340⟩ : World × Nat × Nat × List Int × List Int × ZC × Option Addr × Nat × Option Addr × Nat) ⟨hw10, (by omega), (by omega), (hC.snoc hz0 (dvd_self_sub _ _)), (by rw [lns_snoc, lns_take (by rw [hl.len]; omega)]; omega), ((((((((b_3.ext (e33.trans e37)).updN u46 (by omega)).ext e306).updO uo314 (fun p hp => by have := blk25 p hp; omega)).ext e327).updO uo335 (fun p hp => by have := blk26 p hp; omega)).ext e392).updN u427 (by omega)), hb426, ((z423.updT hb425 u427)).cast (by rw [lcmL_snoc]), (Nat.le_trans (Nat.le_trans (Nat.le_trans (Nat.le_trans hlblz313 e327.size) uo335.size) e392.size) u427.by_.size), ((((lz313.ext e327).updO own337 uo335 (fun p q hp hq e => di323 q p hq hp e.symm)).ext e392).updT hb425 u427 (fun p hp => by have := blk324 p hp; omega)), ((lz334.ext e392).updT hb425 u427 (fun p hp => by have := blk346 p hp; omega)), (fun p q hp hq e => di345 q p hq hp e.symm)⟩ (show n - (k + 1) < n - k by omega) rfl ⟨rfl, rfl, rfl, rfl, rfl, rfl, rfl, trivial⟩
  ·
    refine cw_region ?_
    refine wl_move rfl rfl (by decide) ?_
    refine wl_move rfl rfl (by decide) ?_
    refine wl_pure rfl rfl (v := .int .i64 ((n : Nat) : Int)) (by decide) (by kernel_rfl) ?_
    refine wl_cmp rfl rfl rfl false (cb_lt_f (a := k) (b := n) rfl rfl (by omega)) (by decide) ?_
    refine wl_nil ?_
    refine eo_then ?_
    refine cw_false rfl ?_
    refine cw_exit ?_
    refine eo_thenX ?_
    refine eo_loopX ?_
    refine eo_block_here ?_
    refine eo_then ?_
    refine cw_seq ?_
    obtain ⟨pm429, zl429, hm429⟩ := (hlr).zl hw1
    obtain ⟨pm430, zl430, hm430⟩ := (hlg).zl hw1
    have hL0 : lcmL gs ≠ 0 := lcmA_ne (by rw [hC.gl]; exact hC.nz)
    refine cw_region ?_
    refine wl_move rfl rfl (by decide) ?_
    refine wl_move rfl rfl (by decide) ?_
    have L431 : ln (x % lcmL gs) ≤ 1048577 := Nat.le_trans (ln_emod hL0) hLl
    refine wl_call rfl rfl (vs := [.slice RA p rc, .slice GA p gc]) (by kernel_rfl) (by decide) (g_bezout_CrtAll_ok hw1.size zl429 zl430 (by omega) (fun i => Nat.le_trans (hm429 i) (by decide)) (fun i => Nat.le_trans (hm430 i) (by decide)) hSS (by rw [hC.gl]; exact hC.nz) (by rw [hC.gl]; exact hC.dv)) ?_
    rintro _ v432 ⟨xr434, rfl, r434, e433⟩
    refine ret_intro ?_
    have hw2 : Ext w v432 := hw1.trans e433
    obtain ⟨a435_0, a435_1, a435_2, rfl, r435_0, r435_1, r435_2⟩ := r434
    obtain ⟨s436, A436, n436, c436, rfl, z436⟩ := r435_0
    obtain ⟨s437, A437, n437, c437, rfl, z437⟩ := r435_1
    obtain rfl := r435_2
    refine wl_move rfl rfl (by decide) ?_
    refine wl_pure rfl rfl (v := .agg #[.bool s436, .slice A436 n436 c436]) (by decide) (by kernel_rfl) ?_
    refine wl_pure rfl rfl (v := .agg #[.bool s437, .slice A437 n437 c437]) (by decide) (by kernel_rfl) ?_
    refine wl_pure rfl rfl (v := .int .i64 0) (by decide) (by kernel_rfl) ?_
    refine wl_alloc rfl (z := .agg #[.bool false, .slice none 0 0]) (vs := [.bool false, .slice none 0 0]) (fun _ => by kernel_rfl) rfl (by decide) fun g438 v439 nb => ?_
    have hb441 := nb.bk
    have ge442 : w.heap.size ≤ g438 := by rw [← nb.at_]; exact hw2.size
    have q443 : g13 < g438 := by rw [← nb.at_]; exact (b_9.ext e433).lt
    have ne444 : ∀ p, RA = some p → p.block ≠ g438 := fun p hp => by have := ((hlr.ext e433)).block p hp; have := nb.at_; omega
    have ne445 : ∀ p, GA = some p → p.block ≠ g438 := fun p hp => by have := ((hlg.ext e433)).block p hp; have := nb.at_; omega
    have e440 := nb.ext
    clear nb
    have hw3 : Ext w v439 := hw2.trans e440
    refine wl_alloc rfl (z := .agg #[.bool false, .slice none 0 0]) (vs := [.bool false, .slice none 0 0]) (fun _ => by kernel_rfl) rfl (by decide) fun g446 v447 nb => ?_
    have hb449 := nb.bk
    have ge450 : w.heap.size ≤ g446 := by rw [← nb.at_]; exact hw3.size
    have q451 : g438 < g446 := by rw [← nb.at_]; exact hb441.lt
    have ne452 : ∀ p, RA = some p → p.block ≠ g446 := fun p hp => by have := ((hlr.ext (e433.trans e440))).block p hp; have := nb.at_; omega
    have ne453 : ∀ p, GA = some p → p.block ≠ g446 := fun p hp => by have := ((hlg.ext (e433.trans e440))).block p hp; have := nb.at_; omega
    have e448 := nb.ext
    clear nb
    have hw4 : Ext w v447 := hw3.trans e448
    have hb455 := (hb441.ext e448)
    refine wl_stored rfl rfl rfl aggInt rfl hb455 (Nat.le_of_ble_eq_true rfl) rfl [.bool s436, .slice A436 n436 c436] rfl fun v454 hb456 u457 hs458 => ?_
    have hw5 : Ext w v454 := u457.ext hw4 ge442
    have hb460 := (hb449.updN u457 (by omega))
    refine wl_stored rfl rfl rfl aggInt rfl hb460 (Nat.le_of_ble_eq_true rfl) rfl [.bool s437, .slice A437 n437 c437] rfl fun v459 hb461 u462 hs463 => ?_
    have hw6 : Ext w v459 := u462.ext hw5 ge450
    refine wl_assign rfl rfl (by decide) ?_
    refine wl_nil ?_
    refine eo_then ?_
    refine cw_seq ?_
    refine cw_seq ?_
    refine cw_region ?_
    refine wl_move rfl rfl (by decide) ?_
    refine wl_cmp rfl rfl rfl false (by decide) (by decide) ?_
    refine wl_move rfl rfl (by decide) ?_
    refine wl_load rfl rfl (load_agg aggInt (hb456.updN u462 (by omega)) [.bool s436, .slice A436 n436 c436] rfl (Nat.le_of_ble_eq_true rfl) rfl) (by decide) ?_
    refine wl_call rfl rfl (vs := [.agg #[.bool s436, .slice A436 n436 c436]]) (by kernel_rfl) (by decide) (g_law6_least (((z436.ext (e440.trans e448)).updT hb455 u457).updT hb460 u462)) ?_
    rintro _ v464 ⟨xr466, rfl, r466, e465⟩
    refine ret_intro ?_
    have hw7 : Ext w v464 := hw6.trans e465
    obtain rfl := r466
    refine wl_pure rfl rfl (v := .bool false) (by decide) (by kernel_rfl) ?_
    refine wl_pure rfl rfl (v := .bool false) (by decide) (by kernel_rfl) ?_
    refine wl_move rfl rfl (by decide) ?_
    refine wl_load rfl rfl (load_agg aggInt (hb461.ext e465) [.bool s437, .slice A437 n437 c437] rfl (Nat.le_of_ble_eq_true rfl) rfl) (by decide) ?_
    refine wl_load rfl rfl (load_agg aggInt ((((b_9.ext (e433.trans (e440.trans e448))).updN u457 (by omega)).updN u462 (by omega)).ext e465) [.bool kl.s, .slice kl.A kl.n kl.c] rfl (Nat.le_of_ble_eq_true rfl) rfl) (by decide) ?_
    refine wl_call rfl rfl (vs := [.agg #[.bool s437, .slice A437 n437 c437], .agg #[.bool kl.s, .slice kl.A kl.n kl.c]]) (by kernel_rfl) (by decide) (g_law6_alike ((((z437.ext (e440.trans e448)).updT hb455 u457).updT hb460 u462).ext e465) (z437.le (Nat.le_trans hLl (by decide))) ((((zl9.ext (e433.trans (e440.trans e448))).updT hb455 u457).updT hb460 u462).ext e465) (zl9.le (Nat.le_trans hLl (by decide)))) ?_
    rintro _ v467 ⟨xr469, rfl, r469, e468⟩
    refine ret_intro ?_
    have hw8 : Ext w v467 := hw7.trans e468
    obtain rfl := r469
    refine wl_pure rfl rfl (v := .bool false) (by decide) (by kernel_rfl) ?_
    refine wl_pure rfl rfl (v := .bool false) (by decide) (by kernel_rfl) ?_
    refine wl_move rfl rfl (by decide) ?_
    refine wl_load rfl rfl (load_agg aggInt (hb461.ext (e465.trans e468)) [.bool s437, .slice A437 n437 c437] rfl (Nat.le_of_ble_eq_true rfl) rfl) (by decide) ?_
    refine wl_call rfl rfl (vs := [.agg #[.bool s437, .slice A437 n437 c437]]) (by kernel_rfl) (by decide) (g_ref5_Sign ((((z437.ext (e440.trans e448)).updT hb455 u457).updT hb460 u462).ext (e465.trans e468)).zi (z437.le (Nat.le_trans hLl (by decide)))) ?_
    rintro _ v470 ⟨xr472, rfl, r472, e471⟩
    refine ret_intro ?_
    have hw9 : Ext w v470 := hw8.trans e471
    obtain rfl := r472
    refine wl_cmp rfl rfl rfl false (scmp_le_f (lcmL_pos (by rw [hC.gl]; exact hC.nz))) (by decide) ?_
    refine wl_pure rfl rfl (v := .bool false) (by decide) (by kernel_rfl) ?_
    refine wl_move rfl rfl (by decide) ?_
    refine wl_load rfl rfl (load_agg aggInt ((hb456.updN u462 (by omega)).ext (e465.trans (e468.trans e471))) [.bool s436, .slice A436 n436 c436] rfl (Nat.le_of_ble_eq_true rfl) rfl) (by decide) ?_
    refine wl_load rfl rfl (load_agg aggInt (hb461.ext (e465.trans (e468.trans e471))) [.bool s437, .slice A437 n437 c437] rfl (Nat.le_of_ble_eq_true rfl) rfl) (by decide) ?_
    refine wl_call rfl rfl (vs := [.agg #[.bool s436, .slice A436 n436 c436], .agg #[.bool s437, .slice A437 n437 c437]]) (by kernel_rfl) (by decide) (g_law6_within ((((z436.ext (e440.trans e448)).updT hb455 u457).updT hb460 u462).ext (e465.trans (e468.trans e471))).zi (z436.le (Nat.le_trans L431 (by decide))) ((((z437.ext (e440.trans e448)).updT hb455 u457).updT hb460 u462).ext (e465.trans (e468.trans e471))).zi (z437.le (Nat.le_trans hLl (by decide))) (emod_inC hL0).1 (emod_inC hL0).2) ?_
    rintro _ v473 ⟨xr475, rfl, r475, e474⟩
    refine ret_intro ?_
    have hw10 : Ext w v473 := hw9.trans e474
    obtain rfl := r475
    refine wl_pure rfl rfl (v := .bool false) (by decide) (by kernel_rfl) ?_
    refine wl_pure rfl rfl (v := .bool false) (by decide) (by kernel_rfl) ?_
    refine wl_nil ?_
    refine eo_then ?_
    refine cw_false rfl ?_
    refine cw_skip ?_
    refine eo_then ?_
    refine cw_seq ?_
    refine cw_seq ?_
    refine cw_region ?_
    refine wl_assign rfl rfl (by decide) ?_
    refine wl_nil ?_
    refine eo_then ?_
    refine cw_block ?_
    refine cw_loop (T := World × Nat)
      (fun ⟨wi, j⟩ => [(3, .pointer (some ⟨g1, 0, none⟩)), (12, .pointer (some ⟨g438, 0, none⟩)), (13, .pointer (some ⟨g446, 0, none⟩)), (8, .slice GA p gc), (15, .int .i64 ((j : Nat) : Int))])
      (fun ⟨wi, j⟩ => wi)
      (fun ⟨wi, j⟩ => (Ext w wi) ∧ (j ≤ p) ∧ (Bk wi g1 27 [.bool sb, .slice Ab nb cb]) ∧ (Bk wi g438 27 [.bool s436, .slice A436 n436 c436]) ∧ (Bk wi g446 27 [.bool s437, .slice A437 n437 c437]) ∧ (Zr wi w.heap.size s436 A436 n436 c436 (x % lcmL gs)) ∧ (Zr wi w.heap.size s437 A437 n437 c437 (lcmL gs)) ∧ (lb24 ≤ wi.heap.size) ∧ (Lz (some w) 1048576 w.heap.size wi lb24 GA p gc gs))
      (fun ⟨wi, j⟩ => p - j)
      (⟨v473, 0⟩ : World × Nat) ⟨hw10, Nat.zero_le _, ((((b_3.ext (e433.trans (e440.trans e448))).updN u457 (by omega)).updN u462 (by omega)).ext (e465.trans (e468.trans (e471.trans e474)))), ((hb456.updN u462 (by omega)).ext (e465.trans (e468.trans (e471.trans e474)))), (hb461.ext (e465.trans (e468.trans (e471.trans e474)))), ((((z436.ext (e440.trans e448)).updT hb455 u457).updT hb460 u462).ext (e465.trans (e468.trans (e471.trans e474)))), ((((z437.ext (e440.trans e448)).updT hb455 u457).updT hb460 u462).ext (e465.trans (e468.trans (e471.trans e474)))), (Nat.le_trans (Nat.le_trans (Nat.le_trans (Nat.le_trans (Nat.le_trans (Nat.le_trans (Nat.le_trans (Nat.le_trans (Nat.le_trans hlb e433.size) e440.size) e448.size) u457.by_.size) u462.by_.size) e465.size) e468.size) e471.size) e474.size), ((((hlg.ext (e433.trans (e440.trans e448))).updT hb455 u457 ne445).updT hb460 u462 ne453).ext (e465.trans (e468.trans (e471.trans e474))))⟩ rfl ⟨rfl, rfl, rfl, rfl, rfl, trivial⟩ ?_
    rintro ⟨wi, j⟩ ⟨hw1, hj, b_3, b_12, b_13, z_12, z_13, hlb, hlg⟩
    refine cw_re [(3, .pointer (some ⟨g1, 0, none⟩)), (12, .pointer (some ⟨g438, 0, none⟩)), (13, .pointer (some ⟨g446, 0, none⟩)), (8, .slice GA p gc), (15, .int .i64 ((j : Nat) : Int))] wi rfl ⟨rfl, rfl, rfl, rfl, rfl, trivial⟩ ?_
    have blk476 := hlg.block
    refine cw_seq ?_
    refine cw_seq ?_
    by_cases hjp : j < p
    ·
      refine cw_region ?_
      refine wl_move rfl rfl (by decide) ?_
      refine wl_move rfl rfl (by decide) ?_
      refine wl_pure rfl rfl (v := .int .i64 ((p : Nat) : Int)) (by decide) (by kernel_rfl) ?_
      refine wl_cmp rfl rfl rfl true (cb_lt_t (a := j) (b := p) rfl rfl (by omega)) (by decide) ?_
      refine wl_nil ?_
      refine eo_then ?_
      refine cw_true rfl ?_
      refine cw_skip ?_
      refine eo_then ?_
      refine cw_seq ?_
      refine cw_block ?_
      refine cw_seq ?_
      obtain ⟨pz477, sz477, Bz477, nz477, cz477, hpz477, ldz477, hKz477, ez477⟩ := (hlg).at (i := j) (by omega)
      have Lz477 : ln (gs.getD j 0) ≤ 1048576 := Nat.le_trans (ez477.zi hw1).ln hKz477
      refine cw_draw mix 7 [] [Is (.slice GA p gc), Is (.int .i64 ((j : Nat) : Int)), Is (.pointer (some pz477)), Is (.agg #[.bool sz477, .slice Bz477 nz477 cz477]), Is (.agg #[.bool s437, .slice A437 n437 c437]), Is (.bool true), Is (.bool false)] [[], [], [0, 1], [2], [], [3, 4], [5]] [[], [], [0, 1], [0, 1, 2], [], [0, 1, 2, 3, 4], [0, 1, 2, 3, 4, 5]] rfl
        (obs_cons rfl rfl (hob rfl rfl ?_) (obs_cons rfl rfl (hob rfl rfl ?_) (obs_cons rfl rfl (hob rfl rfl ?_) (obs_cons rfl rfl (hob rfl rfl ?_) (obs_cons rfl rfl (hob rfl rfl ?_) (obs_cons rfl rfl (hob rfl rfl ?_) (obs_cons rfl rfl (hob rfl rfl ?_) obs_nil))))))) ?_
      · -- 0
        intro v478 e479
        have hw2 : Ext w v478 := hw1.trans e479
        refine deps_nil ?_
        refine wl_move rfl rfl (by decide) ?_
        exact pi_done rfl (Ext.refl _) rfl
      · -- 1
        intro v480 e481
        have hw2 : Ext w v480 := hw1.trans e481
        refine deps_nil ?_
        refine wl_move rfl rfl (by decide) ?_
        exact pi_done rfl (Ext.refl _) rfl
      · -- 2
        intro v482 e483
        have hw2 : Ext w v482 := hw1.trans e483
        refine deps_cons rfl rfl fun x484 y485 h486 e487 f488 => ?_
        obtain rfl := h486
        refine deps_cons rfl rfl fun x489 y490 h491 e492 f493 => ?_
        obtain rfl := h491
        refine deps_nil ?_
        refine wl_idx rfl rfl rfl elemI aggInt.size j rfl (by omega) pz477 hpz477 (by decide) ?_
        exact pi_done rfl (Ext.refl _) rfl
      · -- 3
        intro v494 e495
        have hw2 : Ext w v494 := hw1.trans e495
        refine deps_cons rfl rfl fun x496 y497 h498 e499 f500 => ?_
        obtain rfl := h498
        refine deps_nil ?_
        refine wl_load rfl rfl (ldz477 _ e495 _ _ aggInt) (by decide) ?_
        exact pi_done rfl (Ext.refl _) rfl
      · -- 4
        intro v501 e502
        have hw2 : Ext w v501 := hw1.trans e502
        refine deps_nil ?_
        refine wl_load rfl rfl (load_agg aggInt (b_13.ext e502) [.bool s437, .slice A437 n437 c437] rfl (Nat.le_of_ble_eq_true rfl) rfl) (by decide) ?_
        exact pi_done rfl (Ext.refl _) rfl
      · -- 5
        intro v503 e504
        have hw2 : Ext w v503 := hw1.trans e504
        refine deps_cons rfl rfl fun x505 y506 h507 e508 f509 => ?_
        obtain rfl := h507
        refine deps_cons rfl rfl fun x510 y511 h512 e513 f514 => ?_
        obtain rfl := h512
        refine deps_nil ?_
        refine wl_call rfl rfl (vs := [.agg #[.bool sz477, .slice Bz477 nz477 cz477], .agg #[.bool s437, .slice A437 n437 c437]]) (by kernel_rfl) (by decide) (g_law6_divides ((ez477.ext e504).zi hw2) (Nat.le_trans hKz477 (by decide)) (z_13.ext e504).zi (z_13.le (Nat.le_trans hLl (by decide))) (dvd_lcmA (by rw [hC.gl]; omega))) ?_
        rintro _ v515 ⟨xr517, rfl, r517, e516⟩
        refine ret_intro ?_
        have hw3 : Ext w v515 := hw2.trans e516
        obtain rfl := r517
        exact pi_done rfl e516 rfl
      · -- 6
        intro v518 e519
        have hw2 : Ext w v518 := hw1.trans e519
        refine deps_cons rfl rfl fun x520 y521 h522 e523 f524 => ?_
        obtain rfl := h522
        refine deps_nil ?_
        refine wl_pure rfl rfl (v := .bool false) (by decide) (by kernel_rfl) ?_
        exact pi_done rfl (Ext.refl _) rfl
      · -- all
        intro v525 e526
        have hw2 : Ext w v525 := hw1.trans e526
        refine deps_cons rfl rfl fun x527 y528 h529 e530 f531 => ?_
        obtain rfl := h529
        refine deps_cons rfl rfl fun x532 y533 h534 e535 f536 => ?_
        obtain rfl := h534
        refine deps_cons rfl rfl fun x537 y538 h539 e540 f541 => ?_
        obtain rfl := h539
        refine deps_cons rfl rfl fun x542 y543 h544 e545 f546 => ?_
        obtain rfl := h544
        refine deps_cons rfl rfl fun x547 y548 h549 e550 f551 => ?_
        obtain rfl := h549
        refine deps_cons rfl rfl fun x552 y553 h554 e555 f556 => ?_
        obtain rfl := h554
        refine deps_cons rfl rfl fun x557 y558 h559 e560 f561 => ?_
        obtain rfl := h559
        refine deps_nil ?_
        refine wl_nil ?_
        refine eo_np ?_
        refine eo_then ?_
        refine cw_false rfl ?_
        refine cw_skip ?_
        refine eo_block_normal ?_
        refine eo_then ?_
        refine cw_region ?_
        refine wl_move rfl rfl (by decide) ?_
        refine wl_ar rfl rfl rfl ((j + 1 : Nat) : Int) (ai_add (a := j) (b := 1) rfl rfl (by omega)) (by decide) ?_
        refine wl_assign rfl rfl (by decide) ?_
        refine wl_nil ?_
        refine eo_round (⟨v525, j + 1⟩ : World × Nat) ⟨hw2, (by omega), (b_3.ext e526), (b_12.ext e526), (b_13.ext e526), (z_12.ext e526), (z_13.ext e526), (Nat.le_trans hlb e526.size), (hlg.ext e526)⟩ (show p - (j + 1) < p - j by omega) rfl ⟨rfl, rfl, rfl, rfl, rfl, trivial⟩
    ·
      refine cw_region ?_
      refine wl_move rfl rfl (by decide) ?_
      refine wl_move rfl rfl (by decide) ?_
      refine wl_pure rfl rfl (v := .int .i64 ((p : Nat) : Int)) (by decide) (by kernel_rfl) ?_
      refine wl_cmp rfl rfl rfl false (cb_lt_f (a := j) (b := p) rfl rfl (by omega)) (by decide) ?_
      refine wl_nil ?_
      refine eo_then ?_
      refine cw_false rfl ?_
      refine cw_exit ?_
      refine eo_thenX ?_
      refine eo_loopX ?_
      refine eo_block_here ?_
      refine eo_then ?_
      refine cw_seq ?_
      have L562 : ln ((x % lcmL gs) - x) ≤ 1048578 := Nat.le_trans (ln_sub L431 Lx) (by decide)
      refine cw_draw mix 5 [] [Is (.agg #[.bool s437, .slice A437 n437 c437]), Is (.agg #[.bool s436, .slice A436 n436 c436]), Is (.agg #[.bool sb, .slice Ab nb cb]), ZR w.heap.size ((x % lcmL gs) - x), Is (.bool true)] [[], [], [], [1, 2], [0, 3]] [[], [], [], [1, 2], [0, 1, 2, 3], [0, 1, 2, 3, 4]] rfl
        (obs_cons rfl rfl (hob rfl rfl ?_) (obs_cons rfl rfl (hob rfl rfl ?_) (obs_cons rfl rfl (hob rfl rfl ?_) (obs_cons rfl rfl (hob rfl rfl ?_) (obs_cons rfl rfl (hob rfl rfl ?_) obs_nil))))) ?_
      · -- 0
        intro v564 e565
        have hw2 : Ext w v564 := hw1.trans e565
        refine deps_nil ?_
        refine wl_load rfl rfl (load_agg aggInt (b_13.ext e565) [.bool s437, .slice A437 n437 c437] rfl (Nat.le_of_ble_eq_true rfl) rfl) (by decide) ?_
        exact pi_done rfl (Ext.refl _) rfl
      · -- 1
        intro v566 e567
        have hw2 : Ext w v566 := hw1.trans e567
        refine deps_nil ?_
        refine wl_load rfl rfl (load_agg aggInt (b_12.ext e567) [.bool s436, .slice A436 n436 c436] rfl (Nat.le_of_ble_eq_true rfl) rfl) (by decide) ?_
        exact pi_done rfl (Ext.refl _) rfl
      · -- 2
        intro v568 e569
        have hw2 : Ext w v568 := hw1.trans e569
        refine deps_nil ?_
        refine wl_load rfl rfl (load_agg aggInt (b_3.ext e569) [.bool sb, .slice Ab nb cb] rfl (Nat.le_of_ble_eq_true rfl) rfl) (by decide) ?_
        exact pi_done rfl (Ext.refl _) rfl
      · -- 3
        intro v570 e571
        have hw2 : Ext w v570 := hw1.trans e571
        refine deps_cons rfl rfl fun x572 y573 h574 e575 f576 => ?_
        obtain rfl := h574
        refine deps_cons rfl rfl fun x577 y578 h579 e580 f581 => ?_
        obtain rfl := h579
        refine deps_nil ?_
        have L582 : ln ((x % lcmL gs) - x) ≤ 1048578 := Nat.le_trans (ln_sub L431 Lx) (by decide)
        refine wl_call rfl rfl (vs := [.agg #[.bool s436, .slice A436 n436 c436], .agg #[.bool sb, .slice Ab nb cb]]) (by kernel_rfl) (by decide) (g_ref5_Sub hw2.size (z_12.ext e571).zi (z_12.le (Nat.le_trans L431 (by decide))) (hx.ext hw2) (Nat.le_trans lb (by decide))) ?_
        rintro _ v583 ⟨xr585, rfl, r585, e584⟩
        refine ret_intro ?_
        have hw3 : Ext w v583 := hw2.trans e584
        obtain ⟨s586, A586, n586, c586, rfl, z586⟩ := r585
        exact pi_done rfl e584 ⟨_, _, _, _, rfl, z586⟩
      · -- 4
        intro v587 e588
        have hw2 : Ext w v587 := hw1.trans e588
        refine deps_cons rfl rfl fun x589 y590 h591 e592 f593 => ?_
        obtain rfl := h591
        refine deps_cons rfl rfl fun x594 y595 h596 e597 f598 => ?_
        obtain ⟨s599, A599, n599, c599, rfl, z599⟩ := h596
        have z599 := z599.ext f598
        refine deps_nil ?_
        refine wl_call rfl rfl (vs := [.agg #[.bool s437, .slice A437 n437 c437], .agg #[.bool s599, .slice A599 n599 c599]]) (by kernel_rfl) (by decide) (g_law6_divides (z_13.ext e588).zi (z_13.le (Nat.le_trans hLl (by decide))) z599.zi (z599.le (Nat.le_trans L562 (by decide))) (dvd_emod_sub _ _)) ?_
        rintro _ v600 ⟨xr602, rfl, r602, e601⟩
        refine ret_intro ?_
        have hw3 : Ext w v600 := hw2.trans e601
        obtain rfl := r602
        exact pi_done rfl e601 rfl
      · -- all
        intro v603 e604
        have hw2 : Ext w v603 := hw1.trans e604
        refine deps_cons rfl rfl fun x605 y606 h607 e608 f609 => ?_
        obtain rfl := h607
        refine deps_cons rfl rfl fun x610 y611 h612 e613 f614 => ?_
        obtain rfl := h612
        refine deps_cons rfl rfl fun x615 y616 h617 e618 f619 => ?_
        obtain rfl := h617
        refine deps_cons rfl rfl fun x620 y621 h622 e623 f624 => ?_
        obtain ⟨s625, A625, n625, c625, rfl, z625⟩ := h622
        have z625 := z625.ext f624
        refine deps_cons rfl rfl fun x626 y627 h628 e629 f630 => ?_
        obtain rfl := h628
        refine deps_nil ?_
        refine wl_assign rfl rfl (by decide) ?_
        refine wl_nil ?_
        refine eo_np ?_
        refine eo_then ?_
        refine cw_ret ?_
        refine eo_ret [.bool true] rfl ⟨rfl, trivial⟩ ?_
        exact bool_of _ _ ⟨_, rfl, rfl, hw2⟩
end Go.Proofs.Ytmaconeeonkdgaa
