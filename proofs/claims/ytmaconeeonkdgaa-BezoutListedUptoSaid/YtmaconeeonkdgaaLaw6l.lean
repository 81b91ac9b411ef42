/- trellislaw06: BezoutListed, printed by p_law6l.py -/
import Derived.Test.YtmaconeeonkdgaaGa
import Derived.Test.YtmaconeeonkdgaaK7
namespace Go.Proofs.Ytmaconeeonkdgaa
open Go.RowKit

theorem snocRec {α : Type} {p : List α → Prop} (nil : p []) (snoc : ∀ r a, p r → p (r ++ [a])) (l : List α) : p l := by
  have h : ∀ r : List α, p r.reverse := by
    intro r
    induction r with
    | nil => exact nil
    | cons a r ih => rw [List.reverse_cons]; exact snoc _ _ ih
  have := h l.reverse
  rwa [List.reverse_reverse] at this

theorem gcdL_nn (zs : List Int) : 0 ≤ gcdL zs := by
  rcases zs.eq_nil_or_concat with rfl | ⟨r, a, rfl⟩
  · decide
  · rw [List.concat_eq_append, gcdL_snoc]; omega
theorem dvd_gcdL {d : Int} : ∀ zs : List Int, (∀ z, z ∈ zs → d ∣ z) → d ∣ gcdL zs := by
  intro zs
  induction zs using snocRec with
  | nil => intro _; exact Int.dvd_zero d
  | snoc r a ih => intro h; rw [gcdL_snoc]; exact Int.dvd_coe_gcd (ih fun z hz => h z (by simp [hz])) (h a (by simp))
theorem gcdL_dvd : ∀ zs : List Int, ∀ z, z ∈ zs → gcdL zs ∣ z := by
  intro zs
  induction zs using snocRec with
  | nil => intro z hz; simp at hz
  | snoc r a ih =>
    intro z hz
    rw [gcdL_snoc]
    rcases List.mem_append.1 hz with h | h
    · exact Int.dvd_trans (Int.gcd_dvd_left _ _) (ih z h)
    · rw [List.mem_singleton] at h; subst h; exact Int.gcd_dvd_right _ _
theorem gcdL_rev (zs : List Int) : gcdL zs.reverse = gcdL zs := by
  refine Int.dvd_antisymm (gcdL_nn _) (gcdL_nn _) (dvd_gcdL _ fun z hz => gcdL_dvd _ z (by simpa using hz)) (dvd_gcdL _ fun z hz => gcdL_dvd _ z (by simpa using hz))
theorem gcdL_get {zs : List Int} {k : Nat} (h : k < zs.length) : gcdL zs ∣ zs.getD k 0 := gcdL_dvd zs _ (by rw [List.getD_eq_getElem?_getD, List.getElem?_eq_getElem h]; exact List.getElem_mem h)
theorem rev_succ {zs : List Int} {n k : Nat} (hl : zs.length = n) (h : k < n) : zs.reverse.take (k + 1) = zs.reverse.take k ++ [zs.getD (n - 1 - k) 0] := by
  rw [getD_snoc (d := 0) (by simpa [hl] using h)]
  congr 2
  simp only [List.getD_eq_getElem?_getD]
  rw [List.getElem?_reverse (by omega), hl]
theorem rev_full {zs : List Int} {n k : Nat} (hl : zs.length = n) (h : k = n) : zs.reverse.take k = zs.reverse := List.take_of_length_le (by rw [List.length_reverse]; omega)
theorem dot_succ {zs cs : List Int} {k : Nat} (h1 : k < zs.length) (h2 : k < cs.length) : zs.getD k 0 * cs.getD k 0 + dotL (zs.take k) (cs.take k) = dotL (zs.take (k + 1)) (cs.take (k + 1)) := by
  rw [getD_snoc (d := 0) h1, getD_snoc (d := 0) h2, dotL_snoc _ _ _ _ (by simp; omega)]; omega
theorem dot_full {zs cs : List Int} {n k : Nat} (h1 : zs.length = n) (h2 : cs.length = n) (h : k = n) : dotL (zs.take k) (cs.take k) = dotL zs cs := by
  rw [List.take_of_length_le (by omega), List.take_of_length_le (by omega)]
theorem ln_revD {zs : List Int} {N : Nat} (h : ∀ i, ln (zs.getD i 0) ≤ N) (i : Nat) : ln (zs.reverse.getD i 0) ≤ N := by
  by_cases hi : i < zs.length
  · rw [List.getD_eq_getElem?_getD, List.getElem?_reverse hi, ← List.getD_eq_getElem?_getD]; exact h _
  · rw [List.getD_eq_getElem?_getD, List.getElem?_eq_none (by simp; omega)]; exact Nat.zero_le _
theorem dot_ln {a b s : Int} {k : Nat} (ha : ln a ≤ 1048576) (hb : ln b ≤ 3145730) (hs : ln s ≤ 4194306 + k) : ln (a * b + s) ≤ 4194306 + (k + 1) :=
  Nat.le_trans (ln_add (ln_mul ha hb) hs) (by omega)

theorem sum_le_of : ∀ (a b : List Nat), a.length = b.length → (∀ i, i < a.length → a.getD i 0 ≤ b.getD i 0) → a.sum ≤ b.sum
  | [], [], _, _ => Nat.le_refl _
  | x :: a, y :: b, h, k => by
    have h0 := k 0 (by simp)
    have h1 := sum_le_of a b (by simpa using h) (fun i hi => by have := k (i + 1) (by simpa using hi); simpa using this)
    simp at h0
    simp only [List.sum_cons]; omega
  | [], y :: b, h, _ => by simp at h
  | x :: a, [], h, _ => by simp at h
theorem sum_ln_le {zs : List Int} {w : World} {A : Option Addr} {n cap : Nat} {ms : List Nat} (h : Zl w A n cap zs ms) : (zs.map ln).sum ≤ ms.sum := by
  refine sum_le_of _ _ (by rw [List.length_map, h.len, h.mlen]) fun i hi => ?_
  rw [List.length_map, h.len] at hi
  obtain ⟨p, s, B, c, _, _, hz⟩ := h.at hi
  have e : (zs.map ln).getD i 0 = ln (zs.getD i 0) := by simp [List.getD_eq_getElem?_getD, List.getElem?_map, List.getElem?_eq_getElem (show i < zs.length by rw [h.len]; exact hi)]
  rw [e]; exact hz.ln

set_option maxHeartbeats 4000000 in
set_option maxRecDepth 20000 in
theorem law_BezoutListed {w : World} {A : Option Addr} {n cap : Nat} {zs : List Int} {ms : List Nat} (hl : Zl w A n cap zs ms) (hn : n ≤ 1048576) (hs : ms.sum ≤ 1048576) {sb : Bool} {Ab : Option Addr} {nb cb : Nat} {x : Int} (hx : Zi w sb Ab nb cb x) (lb : nb ≤ 1048576) :
    Calls Try.prog 7 #[.slice A n cap, .agg #[.bool sb, .slice Ab nb cb]] w (BoolP true w) := by
  have Lx : ln x ≤ 1048576 := Nat.le_trans hx.ln lb
  have hmb : ∀ i, ms.getD i 0 ≤ 1048576 := fun i => Nat.le_trans (getD_le_sum _ _) hs
  have hln : ∀ i, ln (zs.getD i 0) ≤ 1048576 := ln_getD hl hmb
  have hsum : (zs.map ln).sum ≤ 1048576 := Nat.le_trans (sum_ln_le hl) hs
  have hlg : ln (gcdL zs) ≤ 1048576 := by have := ln_gcdL hln n; rwa [zl_full hl] at this
  refine sx_enter Try.func7 rfl (n := 103) rfl (Nat.le_of_ble_eq_true rfl) (args := [.slice A n cap, .agg #[.bool sb, .slice Ab nb cb]]) ?_
  refine cw_keep [(0, .slice A n cap), (1, .agg #[.bool sb, .slice Ab nb cb])] ⟨rfl, rfl, trivial⟩ ?_
  refine cw_seq ?_
  -- region 0
  refine cw_region ?_
  refine wl_box rfl rfl (vs := [.bool sb, .slice Ab nb cb]) rfl (by decide) fun g1 v2 nb => ?_
  have hb4 := nb.bk
  have ge5 : w.heap.size ≤ g1 := by rw [← nb.at_]; exact (Ext.refl w).size
  have e3 := nb.ext
  clear nb
  have hw1 : Ext w v2 := (Ext.refl w).trans e3
  refine wl_assign rfl rfl (by decide) ?_
  refine wl_nil ?_
  refine eo_then ?_
  refine cw_seq ?_
  refine cw_seq ?_
  -- region 1
  refine cw_region ?_
  refine wl_call rfl rfl (vs := []) (by kernel_rfl) (by decide) (g_law6_wakes _) ?_
  rintro _ v6 ⟨xr8, rfl, r8, e7⟩
  refine ret_intro ?_
  have hw2 : Ext w v6 := hw1.trans e7
  obtain rfl := r8
  refine wl_pure rfl rfl (v := .bool false) (by decide) (by kernel_rfl) ?_
  refine wl_nil ?_
  refine eo_then ?_
  refine cw_false rfl ?_
  refine cw_skip ?_
  refine eo_then ?_
  refine cw_seq ?_
  -- region 3
  refine cw_region ?_
  refine wl_move rfl rfl (by decide) ?_
  have q9 : g1 < v6.heap.size := (hb4.ext e7).lt
  have hgl0 : w.heap.size ≤ v6.heap.size := hw2.size
  refine wl_call rfl rfl (vs := [.slice A n cap]) (by kernel_rfl) (by decide) (g_bezout_ExtAll hw2.size (Nat.le_refl _) (hl.ext hw2) (by omega) hmb hsum) ?_
  rintro _ v10 ⟨cs13, p14, xr12, rfl, r12, e11⟩
  refine ret_intro ?_
  have hw3 : Ext w v10 := hw2.trans e11
  obtain ⟨a15_0, a15_1, rfl, r15_0, r15_1⟩ := r12
  obtain ⟨s16, A16, n16, c16, rfl, z16⟩ := r15_0
  obtain ⟨A17, c17, rfl, lz17⟩ := r15_1
  have blk18 := lz17.block
  refine wl_move rfl rfl (by decide) ?_
  refine wl_pure rfl rfl (v := .agg #[.bool s16, .slice A16 n16 c16]) (by decide) (by kernel_rfl) ?_
  refine wl_pure rfl rfl (v := .slice A17 n c17) (by decide) (by kernel_rfl) ?_
  refine wl_alloc rfl (z := .agg #[.bool false, .slice none 0 0]) (vs := [.bool false, .slice none 0 0]) (fun _ => by kernel_rfl) rfl (by decide) fun g19 v20 nb => ?_
  have hb22 := nb.bk
  have ge23 : w.heap.size ≤ g19 := by rw [← nb.at_]; exact hw3.size
  have q24 : g1 < g19 := by rw [← nb.at_]; exact (hb4.ext (e7.trans e11)).lt
  have ne25 : ∀ p, A17 = some p → p.block ≠ g19 := fun p hp => by have := (lz17).block p hp; have := nb.at_; omega
  have e21 := nb.ext
  clear nb
  have hw4 : Ext w v20 := hw3.trans e21
  have hb27 := hb22
  refine wl_stored rfl rfl rfl aggInt rfl hb27 (Nat.le_of_ble_eq_true rfl) rfl [.bool s16, .slice A16 n16 c16] rfl fun v26 hb28 u29 hs30 => ?_
  have hw5 : Ext w v26 := u29.ext hw4 ge23
  refine wl_assign rfl rfl (by decide) ?_
  refine wl_nil ?_
  refine eo_then ?_
  refine cw_seq ?_
  -- region 4
  refine cw_region ?_
  refine wl_move rfl rfl (by decide) ?_
  refine wl_call rfl rfl (vs := [.slice A n cap]) (by kernel_rfl) (by decide) (g_bezout_GcdAll hw5.size (hl.ext hw5) (by omega) (fun i => Nat.le_trans (hmb i) (by decide))) ?_
  rintro _ v31 ⟨xr33, rfl, r33, e32⟩
  refine ret_intro ?_
  have hw6 : Ext w v31 := hw5.trans e32
  obtain ⟨s34, A34, n34, c34, rfl, z34⟩ := r33
  refine wl_alloc rfl (z := .agg #[.bool false, .slice none 0 0]) (vs := [.bool false, .slice none 0 0]) (fun _ => by kernel_rfl) rfl (by decide) fun g35 v36 nb => ?_
  have hb38 := nb.bk
  have ge39 : w.heap.size ≤ g35 := by rw [← nb.at_]; exact hw6.size
  have q40 : g19 < g35 := by rw [← nb.at_]; exact (hb28.ext e32).lt
  have ne41 : ∀ p, A17 = some p → p.block ≠ g35 := fun p hp => by have := ((((lz17.ext e21).updT hb27 u29 ne25).ext e32)).block p hp; have := nb.at_; omega
  have e37 := nb.ext
  clear nb
  have hw7 : Ext w v36 := hw6.trans e37
  have hb43 := hb38
  refine wl_stored rfl rfl rfl aggInt rfl hb43 (Nat.le_of_ble_eq_true rfl) rfl [.bool s34, .slice A34 n34 c34] rfl fun v42 hb44 u45 hs46 => ?_
  have hw8 : Ext w v42 := u45.ext hw7 ge39
  refine wl_nil ?_
  refine eo_then ?_
  refine cw_seq ?_
  refine cw_seq ?_
  have hcl := p14.len
  -- region 5
  refine cw_region ?_
  refine wl_move rfl rfl (by decide) ?_
  refine wl_pure rfl rfl (v := .int .i64 ((n : Nat) : Int)) (by decide) (by kernel_rfl) ?_
  refine wl_move rfl rfl (by decide) ?_
  refine wl_pure rfl rfl (v := .int .i64 ((n : Nat) : Int)) (by decide) (by kernel_rfl) ?_
  refine wl_cmp rfl rfl rfl false (cb_ne_f (a := n) (b := n) rfl rfl (by omega)) (by decide) ?_
  refine wl_move rfl rfl (by decide) ?_
  refine wl_load rfl rfl (load_agg aggInt ((hb28.ext (e32.trans e37)).updN u45 (by omega)) [.bool s16, .slice A16 n16 c16] rfl (Nat.le_of_ble_eq_true rfl) rfl) (by decide) ?_
  refine wl_call rfl rfl (vs := [.agg #[.bool s16, .slice A16 n16 c16]]) (by kernel_rfl) (by decide) (g_law6_least ((((z16.ext e21).updT hb27 u29).ext (e32.trans e37)).updT hb43 u45)) ?_
  rintro _ v47 ⟨xr49, rfl, r49, e48⟩
  refine ret_intro ?_
  have hw9 : Ext w v47 := hw8.trans e48
  obtain rfl := r49
  refine wl_pure rfl rfl (v := .bool false) (by decide) (by kernel_rfl) ?_
  refine wl_pure rfl rfl (v := .bool false) (by decide) (by kernel_rfl) ?_
  refine wl_move rfl rfl (by decide) ?_
  refine wl_load rfl rfl (load_agg aggInt (((hb28.ext (e32.trans e37)).updN u45 (by omega)).ext e48) [.bool s16, .slice A16 n16 c16] rfl (Nat.le_of_ble_eq_true rfl) rfl) (by decide) ?_
  refine wl_load rfl rfl (load_agg aggInt (hb44.ext e48) [.bool s34, .slice A34 n34 c34] rfl (Nat.le_of_ble_eq_true rfl) rfl) (by decide) ?_
  refine wl_call rfl rfl (vs := [.agg #[.bool s16, .slice A16 n16 c16], .agg #[.bool s34, .slice A34 n34 c34]]) (by kernel_rfl) (by decide) (g_law6_alike (((((z16.ext e21).updT hb27 u29).ext (e32.trans e37)).updT hb43 u45).ext e48) (z16.le (Nat.le_trans hlg (by decide))) (((z34.ext e37).updT hb43 u45).ext e48) (z34.le (Nat.le_trans hlg (by decide)))) ?_
  rintro _ v50 ⟨xr52, rfl, r52, e51⟩
  refine ret_intro ?_
  have hw10 : Ext w v50 := hw9.trans e51
  obtain rfl := r52
  refine wl_pure rfl rfl (v := .bool false) (by decide) (by kernel_rfl) ?_
  refine wl_pure rfl rfl (v := .bool false) (by decide) (by kernel_rfl) ?_
  refine wl_move rfl rfl (by decide) ?_
  refine wl_load rfl rfl (load_agg aggInt (((hb28.ext (e32.trans e37)).updN u45 (by omega)).ext (e48.trans e51)) [.bool s16, .slice A16 n16 c16] rfl (Nat.le_of_ble_eq_true rfl) rfl) (by decide) ?_
  refine wl_call rfl rfl (vs := [.agg #[.bool s16, .slice A16 n16 c16]]) (by kernel_rfl) (by decide) (g_ref5_Sign (((((z16.ext e21).updT hb27 u29).ext (e32.trans e37)).updT hb43 u45).ext (e48.trans e51)).zi (z16.le (Nat.le_trans hlg (by decide)))) ?_
  rintro _ v53 ⟨xr55, rfl, r55, e54⟩
  refine ret_intro ?_
  have hw11 : Ext w v53 := hw10.trans e54
  obtain rfl := r55
  refine wl_cmp rfl rfl rfl false (scmp_lt_f (gcdL_nn zs)) (by decide) ?_
  refine wl_pure rfl rfl (v := .bool false) (by decide) (by kernel_rfl) ?_
  refine wl_nil ?_
  refine eo_then ?_
  refine cw_false rfl ?_
  refine cw_skip ?_
  refine eo_then ?_
  refine cw_seq ?_
  -- region 7
  refine cw_region ?_
  refine wl_pure rfl rfl (v := .agg #[.bool false, .slice none 0 0]) (by decide) (by kernel_rfl) ?_
  refine wl_alloc rfl (z := .agg #[.bool false, .slice none 0 0]) (vs := [.bool false, .slice none 0 0]) (fun _ => by kernel_rfl) rfl (by decide) fun g56 v57 nb => ?_
  have hb59 := nb.bk
  have ge60 : w.heap.size ≤ g56 := by rw [← nb.at_]; exact hw11.size
  have q61 : g35 < g56 := by rw [← nb.at_]; exact (hb44.ext (e48.trans (e51.trans e54))).lt
  have ne62 : ∀ p, A17 = some p → p.block ≠ g56 := fun p hp => by have := ((((((lz17.ext e21).updT hb27 u29 ne25).ext (e32.trans e37)).updT hb43 u45 ne41).ext (e48.trans (e51.trans e54)))).block p hp; have := nb.at_; omega
  have e58 := nb.ext
  clear nb
  have hw12 : Ext w v57 := hw11.trans e58
  have hb64 := hb59
  refine wl_stored rfl rfl rfl aggInt rfl hb64 (Nat.le_of_ble_eq_true rfl) rfl [.bool false, .slice none 0 0] rfl fun v63 hb65 u66 hs67 => ?_
  have hw13 : Ext w v63 := u66.ext hw12 ge60
  refine wl_nil ?_
  refine eo_then ?_
  refine cw_seq ?_
  -- region 8
  refine cw_region ?_
  refine wl_assign rfl rfl (by decide) ?_
  refine wl_nil ?_
  refine eo_then ?_
  refine cw_seq ?_
  refine cw_seq ?_
  -- region 9
  refine cw_region ?_
  refine wl_assign rfl rfl (by decide) ?_
  refine wl_nil ?_
  refine eo_then ?_
  refine cw_block ?_
  obtain ⟨lb68, hlb68, hlelb68, hgl68, hq68_0, hq68_1, hq68_2, hq68_3⟩ : ∃ lb, lb ≤ v63.heap.size ∧ v63.heap.size ≤ lb ∧ w.heap.size ≤ lb ∧ g1 < lb ∧ g19 < lb ∧ g35 < lb ∧ g56 < lb := ⟨v63.heap.size, Nat.le_refl _, Nat.le_refl _, hw13.size, ((((((hb4.ext (e7.trans (e11.trans e21))).updN u29 (by omega)).ext (e32.trans e37)).updN u45 (by omega)).ext (e48.trans (e51.trans (e54.trans e58)))).updN u66 (by omega)).lt, ((((hb28.ext (e32.trans e37)).updN u45 (by omega)).ext (e48.trans (e51.trans (e54.trans e58)))).updN u66 (by omega)).lt, ((hb44.ext (e48.trans (e51.trans (e54.trans e58)))).updN u66 (by omega)).lt, hb65.lt⟩
  have hcb : ∀ p, A17 = some p → p.block < lb68 := fun p hp => Nat.lt_of_lt_of_le ((((((((lz17.ext e21).updT hb27 u29 ne25).ext (e32.trans e37)).updT hb43 u45 ne41).ext (e48.trans (e51.trans (e54.trans e58)))).updT hb64 u66 ne62)).block p hp).2 hlelb68
  refine cw_loop (T := World × Nat × ZC × Option Addr × Nat)
    (fun ⟨wr, k, kS, LB, lc⟩ => [(0, .slice A n cap), (3, .pointer (some ⟨g1, 0, none⟩)), (5, .pointer (some ⟨g19, 0, none⟩)), (6, .slice A17 n c17), (7, .pointer (some ⟨g35, 0, none⟩)), (8, .pointer (some ⟨g56, 0, none⟩)), (9, .slice LB k lc), (10, .int .i64 ((k : Nat) : Int))])
    (fun ⟨wr, k, kS, LB, lc⟩ => wr)
    (fun ⟨wr, k, kS, LB, lc⟩ => (Ext w wr) ∧ (k ≤ n) ∧ (ln (dotL (zs.take k) (cs13.take k)) ≤ 4194306 + k) ∧ (Bk wr g1 27 [.bool sb, .slice Ab nb cb]) ∧ (Bk wr g19 27 [.bool s16, .slice A16 n16 c16]) ∧ (Bk wr g35 27 [.bool s34, .slice A34 n34 c34]) ∧ (Bk wr g56 27 [.bool kS.s, .slice kS.A kS.n kS.c]) ∧ (Zr wr w.heap.size s16 A16 n16 c16 (gcdL zs)) ∧ (Zr wr w.heap.size s34 A34 n34 c34 (gcdL zs)) ∧ (Zr wr w.heap.size kS.s kS.A kS.n kS.c (dotL (zs.take k) (cs13.take k))) ∧ (Lz none 8388608 w.heap.size wr v6.heap.size A17 n c17 cs13) ∧ (v6.heap.size ≤ wr.heap.size) ∧ (lb68 ≤ wr.heap.size) ∧ (Lz (some w) 1048576 w.heap.size wr lb68 LB k lc (zs.reverse.take k)))
    (fun ⟨wr, k, kS, LB, lc⟩ => n - k)
    (⟨v63, 0, ⟨false, none, 0, 0⟩, none, 0⟩ : World × Nat × ZC × Option Addr × Nat) ⟨hw13, Nat.zero_le _, Nat.zero_le _, ((((((hb4.ext (e7.trans (e11.trans e21))).updN u29 (by omega)).ext (e32.trans e37)).updN u45 (by omega)).ext (e48.trans (e51.trans (e54.trans e58)))).updN u66 (by omega)), ((((hb28.ext (e32.trans e37)).updN u45 (by omega)).ext (e48.trans (e51.trans (e54.trans e58)))).updN u66 (by omega)), ((hb44.ext (e48.trans (e51.trans (e54.trans e58)))).updN u66 (by omega)), hb65, ((((((z16.ext e21).updT hb27 u29).ext (e32.trans e37)).updT hb43 u45).ext (e48.trans (e51.trans (e54.trans e58)))).updT hb64 u66), ((((z34.ext e37).updT hb43 u45).ext (e48.trans (e51.trans (e54.trans e58)))).updT hb64 u66), Zr.zero, ((((((lz17.ext e21).updT hb27 u29 ne25).ext (e32.trans e37)).updT hb43 u45 ne41).ext (e48.trans (e51.trans (e54.trans e58)))).updT hb64 u66 ne62), (Nat.le_trans (Nat.le_trans (Nat.le_trans (Nat.le_trans (Nat.le_trans (Nat.le_trans (Nat.le_trans (Nat.le_trans (Nat.le_trans (Nat.le_trans e11.size e21.size) u29.by_.size) e32.size) e37.size) u45.by_.size) e48.size) e51.size) e54.size) e58.size) u66.by_.size), hlb68, (Lz.nil _ _ _ _ _)⟩ rfl ⟨rfl, rfl, rfl, rfl, rfl, rfl, rfl, rfl, trivial⟩ ?_
  rintro ⟨wr, k, kS, LB, lc⟩ ⟨hw1, hk, hS, b_3, b_5, b_7, b_8, z_5, z_7, zS, hlc, hlcb, hlb, hlz⟩
  refine cw_re [(0, .slice A n cap), (3, .pointer (some ⟨g1, 0, none⟩)), (5, .pointer (some ⟨g19, 0, none⟩)), (6, .slice A17 n c17), (7, .pointer (some ⟨g35, 0, none⟩)), (8, .pointer (some ⟨g56, 0, none⟩)), (9, .slice LB k lc), (10, .int .i64 ((k : Nat) : Int))] wr rfl ⟨rfl, rfl, rfl, rfl, rfl, rfl, rfl, rfl, trivial⟩ ?_
  have blk69 := hlc.block
  have blk70 := hlz.block
  have hS5 : ln (dotL (zs.take k) (cs13.take k)) ≤ 5300000 := by omega
  have di1 : ∀ p q, A17 = some p → LB = some q → p.block ≠ q.block := fun p q hp hq => by have := hcb p hp; have := blk70 q hq; omega
  refine cw_seq ?_
  refine cw_seq ?_
  by_cases hkn : k < n
  ·
    -- region 10
    refine cw_region ?_
    refine wl_move rfl rfl (by decide) ?_
    refine wl_move rfl rfl (by decide) ?_
    refine wl_pure rfl rfl (v := .int .i64 ((n : Nat) : Int)) (by decide) (by kernel_rfl) ?_
    refine wl_cmp rfl rfl rfl true (cb_lt_t (a := k) (b := n) rfl rfl (by omega)) (by decide) ?_
    refine wl_nil ?_
    refine eo_then ?_
    refine cw_true rfl ?_
    refine cw_skip ?_
    refine eo_then ?_
    refine cw_seq ?_
    refine cw_block ?_
    refine cw_seq ?_
    refine cw_seq ?_
    -- region 12, in whatever order
    obtain ⟨pz71, sz71, Bz71, nz71, cz71, hpz71, ldz71, hKz71, ez71⟩ := (hlc).at (i := k) (by omega)
    have zz71 := ez71.zr
    have Lz71 : ln (cs13.getD k 0) ≤ 3145730 := (p14.ln _)
    obtain ⟨pz72, sz72, Bz72, cz72, hpz72, ldz72, ez72⟩ := hl.at (i := k) (by omega)
    refine cw_draw mix 15 [] [Is (.slice A17 n c17), Is (.int .i64 ((k : Nat) : Int)), Is (.pointer (some pz71)), Is (.agg #[.bool sz71, .slice Bz71 nz71 cz71]), Is (.bool true), Is (.bool false), Is (.bool false), Is (.agg #[.bool s16, .slice A16 n16 c16]), Is (.slice A n cap), Is (.int .i64 ((k : Nat) : Int)), Is (.pointer (some pz72)), Is (.agg #[.bool sz72, .slice Bz72 (ms.getD k 0) cz72]), Is (.bool true), Is (.bool false), Is (.bool false)] [[], [], [0, 1], [2], [3], [4], [5], [6], [6], [6], [6, 8, 9], [6, 10], [6, 7, 11], [6, 12], [6, 13]] [[], [], [0, 1], [0, 1, 2], [0, 1, 2, 3], [0, 1, 2, 3, 4], [0, 1, 2, 3, 4, 5], [0, 1, 2, 3, 4, 5, 6], [0, 1, 2, 3, 4, 5, 6], [0, 1, 2, 3, 4, 5, 6], [0, 1, 2, 3, 4, 5, 6, 8, 9], [0, 1, 2, 3, 4, 5, 6, 8, 9, 10], [0, 1, 2, 3, 4, 5, 6, 7, 8, 9, 10, 11], [0, 1, 2, 3, 4, 5, 6, 7, 8, 9, 10, 11, 12], [0, 1, 2, 3, 4, 5, 6, 7, 8, 9, 10, 11, 12, 13]] rfl
      (obs_cons rfl rfl (hob rfl rfl ?_) (obs_cons rfl rfl (hob rfl rfl ?_) (obs_cons rfl rfl (hob rfl rfl ?_) (obs_cons rfl rfl (hob rfl rfl ?_) (obs_cons rfl rfl (hob rfl rfl ?_) (obs_cons rfl rfl (hob rfl rfl ?_) (obs_cons rfl rfl (hob rfl rfl ?_) (obs_cons rfl rfl (hob rfl rfl ?_) (obs_cons rfl rfl (hob rfl rfl ?_) (obs_cons rfl rfl (hob rfl rfl ?_) (obs_cons rfl rfl (hob rfl rfl ?_) (obs_cons rfl rfl (hob rfl rfl ?_) (obs_cons rfl rfl (hob rfl rfl ?_) (obs_cons rfl rfl (hob rfl rfl ?_) (obs_cons rfl rfl (hob rfl rfl ?_) obs_nil))))))))))))))) ?_
    · -- 0
      intro v73 e74
      have hw2 : Ext w v73 := hw1.trans e74
      refine deps_nil ?_
      refine wl_move rfl rfl (by decide) ?_
      exact pi_done rfl (Ext.refl _) rfl
    · -- 1
      intro v75 e76
      have hw2 : Ext w v75 := hw1.trans e76
      refine deps_nil ?_
      refine wl_move rfl rfl (by decide) ?_
      exact pi_done rfl (Ext.refl _) rfl
    · -- 2
      intro v77 e78
      have hw2 : Ext w v77 := hw1.trans e78
      refine deps_cons rfl rfl fun x79 y80 h81 e82 f83 => ?_
      obtain rfl := h81
      refine deps_cons rfl rfl fun x84 y85 h86 e87 f88 => ?_
      obtain rfl := h86
      refine deps_nil ?_
      refine wl_idx rfl rfl rfl elemI aggInt.size k rfl (by omega) pz71 hpz71 (by decide) ?_
      exact pi_done rfl (Ext.refl _) rfl
    · -- 3
      intro v89 e90
      have hw2 : Ext w v89 := hw1.trans e90
      refine deps_cons rfl rfl fun x91 y92 h93 e94 f95 => ?_
      obtain rfl := h93
      refine deps_nil ?_
      refine wl_load rfl rfl (ldz71 _ e90 _ _ aggInt) (by decide) ?_
      exact pi_done rfl (Ext.refl _) rfl
    · -- 4
      intro v96 e97
      have hw2 : Ext w v96 := hw1.trans e97
      refine deps_cons rfl rfl fun x98 y99 h100 e101 f102 => ?_
      obtain rfl := h100
      refine deps_nil ?_
      refine wl_call rfl rfl (vs := [.agg #[.bool sz71, .slice Bz71 nz71 cz71]]) (by kernel_rfl) (by decide) (g_law6_least (zz71.ext e97)) ?_
      rintro _ v103 ⟨xr105, rfl, r105, e104⟩
      refine ret_intro ?_
      have hw3 : Ext w v103 := hw2.trans e104
      obtain rfl := r105
      exact pi_done rfl e104 rfl
    · -- 5
      intro v106 e107
      have hw2 : Ext w v106 := hw1.trans e107
      refine deps_cons rfl rfl fun x108 y109 h110 e111 f112 => ?_
      obtain rfl := h110
      refine deps_nil ?_
      refine wl_pure rfl rfl (v := .bool false) (by decide) (by kernel_rfl) ?_
      exact pi_done rfl (Ext.refl _) rfl
    · -- 6
      intro v113 e114
      have hw2 : Ext w v113 := hw1.trans e114
      refine deps_cons rfl rfl fun x115 y116 h117 e118 f119 => ?_
      obtain rfl := h117
      refine deps_nil ?_
      refine wl_move rfl rfl (by decide) ?_
      exact pi_done rfl (Ext.refl _) rfl
    · -- 7
      intro v120 e121
      have hw2 : Ext w v120 := hw1.trans e121
      refine deps_cons rfl rfl fun x122 y123 h124 e125 f126 => ?_
      obtain rfl := h124
      refine deps_nil ?_
      refine wl_load rfl rfl (load_agg aggInt (b_5.ext e121) [.bool s16, .slice A16 n16 c16] rfl (Nat.le_of_ble_eq_true rfl) rfl) (by decide) ?_
      exact pi_done rfl (Ext.refl _) rfl
    · -- 8
      intro v127 e128
      have hw2 : Ext w v127 := hw1.trans e128
      refine deps_cons rfl rfl fun x129 y130 h131 e132 f133 => ?_
      obtain rfl := h131
      refine deps_nil ?_
      refine wl_move rfl rfl (by decide) ?_
      exact pi_done rfl (Ext.refl _) rfl
    · -- 9
      intro v134 e135
      have hw2 : Ext w v134 := hw1.trans e135
      refine deps_cons rfl rfl fun x136 y137 h138 e139 f140 => ?_
      obtain rfl := h138
      refine deps_nil ?_
      refine wl_move rfl rfl (by decide) ?_
      exact pi_done rfl (Ext.refl _) rfl
    · -- 10
      intro v141 e142
      have hw2 : Ext w v141 := hw1.trans e142
      refine deps_cons rfl rfl fun x143 y144 h145 e146 f147 => ?_
      obtain rfl := h145
      refine deps_cons rfl rfl fun x148 y149 h150 e151 f152 => ?_
      obtain rfl := h150
      refine deps_cons rfl rfl fun x153 y154 h155 e156 f157 => ?_
      obtain rfl := h155
      refine deps_nil ?_
      refine wl_idx rfl rfl rfl elemI aggInt.size k rfl (by omega) pz72 hpz72 (by decide) ?_
      exact pi_done rfl (Ext.refl _) rfl
    · -- 11
      intro v158 e159
      have hw2 : Ext w v158 := hw1.trans e159
      refine deps_cons rfl rfl fun x160 y161 h162 e163 f164 => ?_
      obtain rfl := h162
      refine deps_cons rfl rfl fun x165 y166 h167 e168 f169 => ?_
      obtain rfl := h167
      refine deps_nil ?_
      refine wl_load rfl rfl (ldz72 _ hw2 _ _ aggInt) (by decide) ?_
      exact pi_done rfl (Ext.refl _) rfl
    · -- 12
      intro v170 e171
      have hw2 : Ext w v170 := hw1.trans e171
      refine deps_cons rfl rfl fun x172 y173 h174 e175 f176 => ?_
      obtain rfl := h174
      refine deps_cons rfl rfl fun x177 y178 h179 e180 f181 => ?_
      obtain rfl := h179
      refine deps_cons rfl rfl fun x182 y183 h184 e185 f186 => ?_
      obtain rfl := h184
      refine deps_nil ?_
      refine wl_call rfl rfl (vs := [.agg #[.bool s16, .slice A16 n16 c16], .agg #[.bool sz72, .slice Bz72 (ms.getD k 0) cz72]]) (by kernel_rfl) (by decide) (g_law6_divides (z_5.ext e171).zi (z_5.le (Nat.le_trans hlg (by decide))) (ez72.ext hw2) (Nat.le_trans (hmb k) (by decide)) (gcdL_get (by rw [hl.len]; omega))) ?_
      rintro _ v187 ⟨xr189, rfl, r189, e188⟩
      refine ret_intro ?_
      have hw3 : Ext w v187 := hw2.trans e188
      obtain rfl := r189
      exact pi_done rfl e188 rfl
    · -- 13
      intro v190 e191
      have hw2 : Ext w v190 := hw1.trans e191
      refine deps_cons rfl rfl fun x192 y193 h194 e195 f196 => ?_
      obtain rfl := h194
      refine deps_cons rfl rfl fun x197 y198 h199 e200 f201 => ?_
      obtain rfl := h199
      refine deps_nil ?_
      refine wl_pure rfl rfl (v := .bool false) (by decide) (by kernel_rfl) ?_
      exact pi_done rfl (Ext.refl _) rfl
    · -- 14
      intro v202 e203
      have hw2 : Ext w v202 := hw1.trans e203
      refine deps_cons rfl rfl fun x204 y205 h206 e207 f208 => ?_
      obtain rfl := h206
      refine deps_cons rfl rfl fun x209 y210 h211 e212 f213 => ?_
      obtain rfl := h211
      refine deps_nil ?_
      refine wl_pure rfl rfl (v := .bool false) (by decide) (by kernel_rfl) ?_
      exact pi_done rfl (Ext.refl _) rfl
    · -- all
      intro v214 e215
      have hw2 : Ext w v214 := hw1.trans e215
      refine deps_cons rfl rfl fun x216 y217 h218 e219 f220 => ?_
      obtain rfl := h218
      refine deps_cons rfl rfl fun x221 y222 h223 e224 f225 => ?_
      obtain rfl := h223
      refine deps_cons rfl rfl fun x226 y227 h228 e229 f230 => ?_
      obtain rfl := h228
      refine deps_cons rfl rfl fun x231 y232 h233 e234 f235 => ?_
      obtain rfl := h233
      refine deps_cons rfl rfl fun x236 y237 h238 e239 f240 => ?_
      obtain rfl := h238
      refine deps_cons rfl rfl fun x241 y242 h243 e244 f245 => ?_
      obtain rfl := h243
      refine deps_cons rfl rfl fun x246 y247 h248 e249 f250 => ?_
      obtain rfl := h248
      refine deps_cons rfl rfl fun x251 y252 h253 e254 f255 => ?_
      obtain rfl := h253
      refine deps_cons rfl rfl fun x256 y257 h258 e259 f260 => ?_
      obtain rfl := h258
      refine deps_cons rfl rfl fun x261 y262 h263 e264 f265 => ?_
      obtain rfl := h263
      refine deps_cons rfl rfl fun x266 y267 h268 e269 f270 => ?_
      obtain rfl := h268
      refine deps_cons rfl rfl fun x271 y272 h273 e274 f275 => ?_
      obtain rfl := h273
      refine deps_cons rfl rfl fun x276 y277 h278 e279 f280 => ?_
      obtain rfl := h278
      refine deps_cons rfl rfl fun x281 y282 h283 e284 f285 => ?_
      obtain rfl := h283
      refine deps_cons rfl rfl fun x286 y287 h288 e289 f290 => ?_
      obtain rfl := h288
      refine deps_nil ?_
      refine wl_nil ?_
      refine eo_np ?_
      refine eo_then ?_
      refine cw_false rfl ?_
      refine cw_skip ?_
      refine eo_then ?_
      refine cw_seq ?_
      -- region 14, in whatever order
      have L291 : ln ((zs.getD k 0) * (cs13.getD k 0) + (dotL (zs.take k) (cs13.take k))) ≤ 5300001 := Nat.le_trans (ln_add (ln_mul (Nat.le_trans ez72.ln (hmb k)) Lz71) hS5) (by decide)
      refine cw_draw mix 10 [] [Is (.slice A n cap), Is (.int .i64 ((k : Nat) : Int)), Is (.pointer (some pz72)), Is (.agg #[.bool sz72, .slice Bz72 (ms.getD k 0) cz72]), Is (.slice A17 n c17), Is (.int .i64 ((k : Nat) : Int)), Is (.pointer (some pz71)), Is (.agg #[.bool sz71, .slice Bz71 nz71 cz71]), Is (.agg #[.bool kS.s, .slice kS.A kS.n kS.c]), ZR w.heap.size ((zs.getD k 0) * (cs13.getD k 0) + (dotL (zs.take k) (cs13.take k)))] [[], [], [0, 1], [2], [], [], [4, 5], [6], [], [3, 7, 8]] [[], [], [0, 1], [0, 1, 2], [], [], [4, 5], [4, 5, 6], [], [0, 1, 2, 3, 4, 5, 6, 7, 8], [0, 1, 2, 3, 4, 5, 6, 7, 8, 9]] rfl
        (obs_cons rfl rfl (hob rfl rfl ?_) (obs_cons rfl rfl (hob rfl rfl ?_) (obs_cons rfl rfl (hob rfl rfl ?_) (obs_cons rfl rfl (hob rfl rfl ?_) (obs_cons rfl rfl (hob rfl rfl ?_) (obs_cons rfl rfl (hob rfl rfl ?_) (obs_cons rfl rfl (hob rfl rfl ?_) (obs_cons rfl rfl (hob rfl rfl ?_) (obs_cons rfl rfl (hob rfl rfl ?_) (obs_cons rfl rfl (hob rfl rfl ?_) obs_nil)))))))))) ?_
      · -- 0
        intro v293 e294
        have hw3 : Ext w v293 := hw2.trans e294
        refine deps_nil ?_
        refine wl_move rfl rfl (by decide) ?_
        exact pi_done rfl (Ext.refl _) rfl
      · -- 1
        intro v295 e296
        have hw3 : Ext w v295 := hw2.trans e296
        refine deps_nil ?_
        refine wl_move rfl rfl (by decide) ?_
        exact pi_done rfl (Ext.refl _) rfl
      · -- 2
        intro v297 e298
        have hw3 : Ext w v297 := hw2.trans e298
        refine deps_cons rfl rfl fun x299 y300 h301 e302 f303 => ?_
        obtain rfl := h301
        refine deps_cons rfl rfl fun x304 y305 h306 e307 f308 => ?_
        obtain rfl := h306
        refine deps_nil ?_
        refine wl_idx rfl rfl rfl elemI aggInt.size k rfl (by omega) pz72 hpz72 (by decide) ?_
        exact pi_done rfl (Ext.refl _) rfl
      · -- 3
        intro v309 e310
        have hw3 : Ext w v309 := hw2.trans e310
        refine deps_cons rfl rfl fun x311 y312 h313 e314 f315 => ?_
        obtain rfl := h313
        refine deps_nil ?_
        refine wl_load rfl rfl (ldz72 _ hw3 _ _ aggInt) (by decide) ?_
        exact pi_done rfl (Ext.refl _) rfl
      · -- 4
        intro v316 e317
        have hw3 : Ext w v316 := hw2.trans e317
        refine deps_nil ?_
        refine wl_move rfl rfl (by decide) ?_
        exact pi_done rfl (Ext.refl _) rfl
      · -- 5
        intro v318 e319
        have hw3 : Ext w v318 := hw2.trans e319
        refine deps_nil ?_
        refine wl_move rfl rfl (by decide) ?_
        exact pi_done rfl (Ext.refl _) rfl
      · -- 6
        intro v320 e321
        have hw3 : Ext w v320 := hw2.trans e321
        refine deps_cons rfl rfl fun x322 y323 h324 e325 f326 => ?_
        obtain rfl := h324
        refine deps_cons rfl rfl fun x327 y328 h329 e330 f331 => ?_
        obtain rfl := h329
        refine deps_nil ?_
        refine wl_idx rfl rfl rfl elemI aggInt.size k rfl (by omega) pz71 hpz71 (by decide) ?_
        exact pi_done rfl (Ext.refl _) rfl
      · -- 7
        intro v332 e333
        have hw3 : Ext w v332 := hw2.trans e333
        refine deps_cons rfl rfl fun x334 y335 h336 e337 f338 => ?_
        obtain rfl := h336
        refine deps_nil ?_
        refine wl_load rfl rfl (ldz71 _ (e215.trans e333) _ _ aggInt) (by decide) ?_
        exact pi_done rfl (Ext.refl _) rfl
      · -- 8
        intro v339 e340
        have hw3 : Ext w v339 := hw2.trans e340
        refine deps_nil ?_
        refine wl_load rfl rfl (load_agg aggInt (b_8.ext (e215.trans e340)) [.bool kS.s, .slice kS.A kS.n kS.c] rfl (Nat.le_of_ble_eq_true rfl) rfl) (by decide) ?_
        exact pi_done rfl (Ext.refl _) rfl
      · -- 9
        intro v341 e342
        have hw3 : Ext w v341 := hw2.trans e342
        refine deps_cons rfl rfl fun x343 y344 h345 e346 f347 => ?_
        obtain rfl := h345
        refine deps_cons rfl rfl fun x348 y349 h350 e351 f352 => ?_
        obtain rfl := h350
        refine deps_cons rfl rfl fun x353 y354 h355 e356 f357 => ?_
        obtain rfl := h355
        refine deps_nil ?_
        have L358 : ln ((zs.getD k 0) * (cs13.getD k 0) + (dotL (zs.take k) (cs13.take k))) ≤ 5300001 := Nat.le_trans (ln_add (ln_mul (Nat.le_trans ez72.ln (hmb k)) Lz71) hS5) (by decide)
        refine wl_call rfl rfl (vs := [.agg #[.bool sz72, .slice Bz72 (ms.getD k 0) cz72], .agg #[.bool sz71, .slice Bz71 nz71 cz71], .agg #[.bool kS.s, .slice kS.A kS.n kS.c]]) (by kernel_rfl) (by decide) (g_ref5_MulAdd hw3.size (ez72.ext hw3) (Nat.le_trans (hmb k) (by decide)) (zz71.ext (e215.trans e342)).zi (zz71.le (Nat.le_trans Lz71 (by decide))) (zS.ext (e215.trans e342)).zi (zS.le (Nat.le_trans hS5 (by decide)))) ?_
        rintro _ v359 ⟨xr361, rfl, r361, e360⟩
        refine ret_intro ?_
        have hw4 : Ext w v359 := hw3.trans e360
        obtain ⟨s362, A362, n362, c362, rfl, z362⟩ := r361
        exact pi_done rfl e360 ⟨_, _, _, _, rfl, z362⟩
      · -- all
        intro v363 e364
        have hw3 : Ext w v363 := hw2.trans e364
        refine deps_cons rfl rfl fun x365 y366 h367 e368 f369 => ?_
        obtain rfl := h367
        refine deps_cons rfl rfl fun x370 y371 h372 e373 f374 => ?_
        obtain rfl := h372
        refine deps_cons rfl rfl fun x375 y376 h377 e378 f379 => ?_
        obtain rfl := h377
        refine deps_cons rfl rfl fun x380 y381 h382 e383 f384 => ?_
        obtain rfl := h382
        refine deps_cons rfl rfl fun x385 y386 h387 e388 f389 => ?_
        obtain rfl := h387
        refine deps_cons rfl rfl fun x390 y391 h392 e393 f394 => ?_
        obtain rfl := h392
        refine deps_cons rfl rfl fun x395 y396 h397 e398 f399 => ?_
        obtain rfl := h397
        refine deps_cons rfl rfl fun x400 y401 h402 e403 f404 => ?_
        obtain rfl := h402
        refine deps_cons rfl rfl fun x405 y406 h407 e408 f409 => ?_
        obtain rfl := h407
        refine deps_cons rfl rfl fun x410 y411 h412 e413 f414 => ?_
        obtain ⟨s415, A415, n415, c415, rfl, z415⟩ := h412
        have z415 := z415.ext f414
        refine deps_nil ?_
        have hb417 := (b_8.ext (e215.trans e364))
        refine wl_stored rfl rfl rfl aggInt rfl hb417 (Nat.le_of_ble_eq_true rfl) rfl [.bool s415, .slice A415 n415 c415] rfl fun v416 hb418 u419 hs420 => ?_
        have hw4 : Ext w v416 := u419.ext hw3 ge60
        refine wl_nil ?_
        refine eo_np ?_
        refine eo_then ?_
        -- region 15
        refine cw_region ?_
        refine wl_move rfl rfl (by decide) ?_
        refine wl_move rfl rfl (by decide) ?_
        refine wl_move rfl rfl (by decide) ?_
        refine wl_pure rfl rfl (v := .int .i64 ((n : Nat) : Int)) (by decide) (by kernel_rfl) ?_
        refine wl_ar rfl rfl rfl ((n - 1 : Nat) : Int) (ai_sub (a := n) (b := 1) rfl rfl (by omega) (by omega)) (by decide) ?_
        refine wl_move rfl rfl (by decide) ?_
        refine wl_ar rfl rfl rfl (((n - 1) - k : Nat) : Int) (ai_sub (a := n - 1) (b := k) rfl rfl (by omega) (by omega)) (by decide) ?_
        obtain ⟨pz421, sz421, Bz421, cz421, hpz421, ldz421, ez421⟩ := hl.at (i := (n - 1) - k) (by omega)
        refine wl_idx rfl rfl rfl elemI aggInt.size ((n - 1) - k) rfl (by omega) pz421 hpz421 (by decide) ?_
        refine wl_load rfl rfl (ldz421 _ hw4 _ _ aggInt) (by decide) ?_
        refine wl_bslice rfl rfl (by decide) (k := 1) (e := 27) [.bool sz421, .slice Bz421 (ms.getD ((n - 1) - k) 0) cz421] (fun _ => by kernel_rfl) fun g422 v423 nb => ?_
        have hb425 := nb.bk
        have ge426 : w.heap.size ≤ g422 := by rw [← nb.at_]; exact hw4.size
        have q427 : g56 < g422 := by rw [← nb.at_]; exact hb418.lt
        have ne428 : ∀ p, A17 = some p → p.block ≠ g422 := fun p hp => by have := (((hlc.ext (e215.trans e364)).updT hb417 u419 ne62)).block p hp; have := nb.at_; omega
        have ne429 : ∀ p, LB = some p → p.block ≠ g422 := fun p hp => by have := (((hlz.ext (e215.trans e364)).updT hb417 u419 (fun p hp => by have := blk70 p hp; omega))).block p hp; have := nb.at_; omega
        have e424 := nb.ext
        clear nb
        have hw5 : Ext w v423 := hw4.trans e424
        have lt435 := (((hlz.ext (e215.trans e364)).updT hb417 u419 (fun p hp => by have := blk70 p hp; omega)).ext e424)
        obtain ⟨us433, own434⟩ := lt435.own
        refine wl_appI (e := ⟨sz421, Bz421, (ms.getD ((n - 1) - k) 0), cz421⟩) (z := zs.getD ((n - 1) - k) 0) rfl rfl rfl lt435 (Nat.le_trans (Nat.le_trans (Nat.le_trans (Nat.le_trans hlb e215.size) e364.size) u419.by_.size) e424.size) hb425 (Or.inr ⟨_, rfl, ez421⟩) (Nat.le_trans (hmb ((n - 1) - k)) (by decide)) (by omega) (by decide) fun A436 c437 v430 lz431 uo432 kp438 => ?_
        have hw6 : Ext w v430 := uo432.ext hw5 (fun p hp => by have := blk70 p hp; omega)
        have hlblz431 : lb68 ≤ v430.heap.size := Nat.le_trans (Nat.le_trans (Nat.le_trans (Nat.le_trans (Nat.le_trans hlb e215.size) e364.size) u419.by_.size) e424.size) uo432.size
        have ne439 := kept_ne kp438 hb425.lt ne429
        have di440 := kept_dis kp438 (fun q hq => (((((hlc.ext (e215.trans e364)).updT hb417 u419 ne62).ext e424)).block q hq).2) (fun p q hp hq e => di1 q p hq hp e.symm)
        have blk441 := lz431.block
        refine wl_assign rfl rfl (by decide) ?_
        refine wl_nil ?_
        refine eo_block_normal ?_
        refine eo_then ?_
        -- region 11
        refine cw_region ?_
        refine wl_move rfl rfl (by decide) ?_
        refine wl_ar rfl rfl rfl ((k + 1 : Nat) : Int) (ai_add (a := k) (b := 1) rfl rfl (by omega)) (by decide) ?_
        refine wl_assign rfl rfl (by decide) ?_
        refine wl_nil ?_
        refine eo_round (⟨v430, k + 1, ⟨s415, A415, n415, c415⟩, A436, c437⟩ : World × Nat × ZC × Option Addr × Nat) ⟨hw6, (by omega), (by rw [← dot_succ (by rw [hl.len]; omega) (by rw [hcl]; omega)]; exact dot_ln (hln k) (p14.ln k) hS), ((((b_3.ext (e215.trans e364)).updN u419 (by omega)).ext e424).updO uo432 (fun p hp => by have := blk70 p hp; omega)), ((((b_5.ext (e215.trans e364)).updN u419 (by omega)).ext e424).updO uo432 (fun p hp => by have := blk70 p hp; omega)), ((((b_7.ext (e215.trans e364)).updN u419 (by omega)).ext e424).updO uo432 (fun p hp => by have := blk70 p hp; omega)), ((hb418.ext e424).updO uo432 (fun p hp => by have := blk70 p hp; omega)), ((((z_5.ext (e215.trans e364)).updT hb417 u419).ext e424).updOT own434 uo432), ((((z_7.ext (e215.trans e364)).updT hb417 u419).ext e424).updOT own434 uo432), ((((z415.updT hb417 u419).ext e424).updOT own434 uo432)).cast (dot_succ (by rw [hl.len]; omega) (by rw [hcl]; omega)), ((((hlc.ext (e215.trans e364)).updT hb417 u419 ne62).ext e424).updO own434 uo432 (fun p q hp hq e => di1 q p hq hp e.symm)), (Nat.le_trans (Nat.le_trans (Nat.le_trans (Nat.le_trans (Nat.le_trans hlcb e215.size) e364.size) u419.by_.size) e424.size) uo432.size), hlblz431, (by rw [rev_succ hl.len (by omega)]; exact lz431)⟩ (show n - (k + 1) < n - k by omega) rfl ⟨rfl, rfl, rfl, rfl, rfl, rfl, rfl, rfl, trivial⟩
  ·
    -- region 10
    refine cw_region ?_
    refine wl_move rfl rfl (by decide) ?_
    refine wl_move rfl rfl (by decide) ?_
    refine wl_pure rfl rfl (v := .int .i64 ((n : Nat) : Int)) (by decide) (by kernel_rfl) ?_
    refine wl_cmp rfl rfl rfl false (cb_lt_f (a := k) (b := n) rfl rfl (by omega)) (by decide) ?_
    refine wl_nil ?_
    refine eo_then ?_
    refine cw_false rfl ?_
    refine cw_exit ?_
    refine eo_thenX ?_
    refine eo_loopX ?_
    refine eo_block_here ?_
    refine eo_then ?_
    refine cw_seq ?_
    refine cw_seq ?_
    -- region 16
    refine cw_region ?_
    refine wl_load rfl rfl (load_agg aggInt b_8 [.bool kS.s, .slice kS.A kS.n kS.c] rfl (Nat.le_of_ble_eq_true rfl) rfl) (by decide) ?_
    refine wl_load rfl rfl (load_agg aggInt b_5 [.bool s16, .slice A16 n16 c16] rfl (Nat.le_of_ble_eq_true rfl) rfl) (by decide) ?_
    refine wl_call rfl rfl (vs := [.agg #[.bool kS.s, .slice kS.A kS.n kS.c], .agg #[.bool s16, .slice A16 n16 c16]]) (by kernel_rfl) (by decide) (g_law6_equal zS.zi (zS.le (Nat.le_trans hS5 (by decide))) z_5.zi (z_5.le (Nat.le_trans hlg (by decide))) (by rw [dot_full hl.len hcl (by omega), p14.dot])) ?_
    rintro _ v442 ⟨xr444, rfl, r444, e443⟩
    refine ret_intro ?_
    have hw2 : Ext w v442 := hw1.trans e443
    obtain rfl := r444
    refine wl_pure rfl rfl (v := .bool false) (by decide) (by kernel_rfl) ?_
    refine wl_nil ?_
    refine eo_then ?_
    refine cw_false rfl ?_
    refine cw_skip ?_
    refine eo_then ?_
    refine cw_seq ?_
    refine cw_seq ?_
    obtain ⟨pm445, zl445, hm445⟩ := ((hlz.ext e443)).zl hw2
    have hkn2 : k = n := by omega
    have hlr : ∀ j, ln (gcdL (zs.reverse.take j)) ≤ 1048577 := fun j => Nat.le_trans (ln_gcdL (ln_revD hln) j) (by decide)
    have hgr : gcdL (zs.reverse.take k) = gcdL zs := by rw [rev_full hl.len hkn2, gcdL_rev]
    -- region 18, in whatever order
    refine cw_draw mix 5 [] [Is (.slice LB k lc), ZR w.heap.size (gcdL (zs.reverse.take k)), Is (.agg #[.bool s16, .slice A16 n16 c16]), Is (.bool true), Is (.bool false)] [[], [0], [], [1, 2], [3]] [[], [0], [], [0, 1, 2], [0, 1, 2, 3]] rfl
      (obs_cons rfl rfl (hob rfl rfl ?_) (obs_cons rfl rfl (hob rfl rfl ?_) (obs_cons rfl rfl (hob rfl rfl ?_) (obs_cons rfl rfl (hob rfl rfl ?_) (obs_cons rfl rfl (hob rfl rfl ?_) obs_nil))))) ?_
    · -- 0
      intro v447 e448
      have hw3 : Ext w v447 := hw2.trans e448
      refine deps_nil ?_
      refine wl_move rfl rfl (by decide) ?_
      exact pi_done rfl (Ext.refl _) rfl
    · -- 1
      intro v449 e450
      have hw3 : Ext w v449 := hw2.trans e450
      refine deps_cons rfl rfl fun x451 y452 h453 e454 f455 => ?_
      obtain rfl := h453
      refine deps_nil ?_
      refine wl_call rfl rfl (vs := [.slice LB k lc]) (by kernel_rfl) (by decide) (g_bezout_GcdAll hw3.size (zl445.ext e450) (by omega) (fun i => Nat.le_trans (hm445 i) (by decide))) ?_
      rintro _ v456 ⟨xr458, rfl, r458, e457⟩
      refine ret_intro ?_
      have hw4 : Ext w v456 := hw3.trans e457
      obtain ⟨s459, A459, n459, c459, rfl, z459⟩ := r458
      exact pi_done rfl e457 ⟨_, _, _, _, rfl, z459⟩
    · -- 2
      intro v460 e461
      have hw3 : Ext w v460 := hw2.trans e461
      refine deps_nil ?_
      refine wl_load rfl rfl (load_agg aggInt (b_5.ext (e443.trans e461)) [.bool s16, .slice A16 n16 c16] rfl (Nat.le_of_ble_eq_true rfl) rfl) (by decide) ?_
      exact pi_done rfl (Ext.refl _) rfl
    · -- 3
      intro v462 e463
      have hw3 : Ext w v462 := hw2.trans e463
      refine deps_cons rfl rfl fun x464 y465 h466 e467 f468 => ?_
      obtain ⟨s469, A469, n469, c469, rfl, z469⟩ := h466
      have z469 := z469.ext f468
      refine deps_cons rfl rfl fun x470 y471 h472 e473 f474 => ?_
      obtain rfl := h472
      refine deps_nil ?_
      refine wl_call rfl rfl (vs := [.agg #[.bool s469, .slice A469 n469 c469], .agg #[.bool s16, .slice A16 n16 c16]]) (by kernel_rfl) (by decide) (g_law6_alike z469 (z469.le (Nat.le_trans (hlr _) (by decide))) ((z_5.ext (e443.trans e463)).cast hgr.symm) (z_5.le (Nat.le_trans hlg (by decide)))) ?_
      rintro _ v475 ⟨xr477, rfl, r477, e476⟩
      refine ret_intro ?_
      have hw4 : Ext w v475 := hw3.trans e476
      obtain rfl := r477
      exact pi_done rfl e476 rfl
    · -- 4
      intro v478 e479
      have hw3 : Ext w v478 := hw2.trans e479
      refine deps_cons rfl rfl fun x480 y481 h482 e483 f484 => ?_
      obtain rfl := h482
      refine deps_nil ?_
      refine wl_pure rfl rfl (v := .bool false) (by decide) (by kernel_rfl) ?_
      exact pi_done rfl (Ext.refl _) rfl
    · -- all
      intro v485 e486
      have hw3 : Ext w v485 := hw2.trans e486
      refine deps_cons rfl rfl fun x487 y488 h489 e490 f491 => ?_
      obtain rfl := h489
      refine deps_cons rfl rfl fun x492 y493 h494 e495 f496 => ?_
      obtain ⟨s497, A497, n497, c497, rfl, z497⟩ := h494
      have z497 := z497.ext f496
      refine deps_cons rfl rfl fun x498 y499 h500 e501 f502 => ?_
      obtain rfl := h500
      refine deps_cons rfl rfl fun x503 y504 h505 e506 f507 => ?_
      obtain rfl := h505
      refine deps_cons rfl rfl fun x508 y509 h510 e511 f512 => ?_
      obtain rfl := h510
      refine deps_nil ?_
      refine wl_nil ?_
      refine eo_np ?_
      refine eo_then ?_
      refine cw_false rfl ?_
      refine cw_skip ?_
      refine eo_then ?_
      refine cw_seq ?_
      -- region 20
      refine cw_region ?_
      refine wl_move rfl rfl (by decide) ?_
      refine wl_load rfl rfl (load_agg aggInt (b_3.ext (e443.trans e486)) [.bool sb, .slice Ab nb cb] rfl (Nat.le_of_ble_eq_true rfl) rfl) (by decide) ?_
      refine wl_bslice rfl rfl (by decide) (k := 1) (e := 27) [.bool sb, .slice Ab nb cb] (fun _ => by kernel_rfl) fun g513 v514 nb => ?_
      have hb516 := nb.bk
      have ge517 : w.heap.size ≤ g513 := by rw [← nb.at_]; exact hw3.size
      have q518 : g56 < g513 := by rw [← nb.at_]; exact (b_8.ext (e443.trans e486)).lt
      have ne519 : ∀ p, A17 = some p → p.block ≠ g513 := fun p hp => by have := ((hlc.ext (e443.trans e486))).block p hp; have := nb.at_; omega
      have ne520 : ∀ p, LB = some p → p.block ≠ g513 := fun p hp => by have := ((hlz.ext (e443.trans e486))).block p hp; have := nb.at_; omega
      have e515 := nb.ext
      clear nb
      have hw4 : Ext w v514 := hw3.trans e515
      have lt526 := (hlz.ext (e443.trans (e486.trans e515)))
      obtain ⟨us524, own525⟩ := lt526.own
      refine wl_appI (e := ⟨sb, Ab, nb, cb⟩) (z := x) rfl rfl rfl lt526 (Nat.le_trans (Nat.le_trans (Nat.le_trans hlb e443.size) e486.size) e515.size) hb516 (Or.inr ⟨_, rfl, hx⟩) (Nat.le_trans lb (by decide)) (by omega) (by decide) fun A527 c528 v521 lz522 uo523 kp529 => ?_
      have hw5 : Ext w v521 := uo523.ext hw4 (fun p hp => by have := blk70 p hp; omega)
      have hlblz522 : lb68 ≤ v521.heap.size := Nat.le_trans (Nat.le_trans (Nat.le_trans (Nat.le_trans hlb e443.size) e486.size) e515.size) uo523.size
      have ne530 := kept_ne kp529 hb516.lt ne520
      have di531 := kept_dis kp529 (fun q hq => (((hlc.ext (e443.trans (e486.trans e515)))).block q hq).2) (fun p q hp hq e => di1 q p hq hp e.symm)
      have blk532 := lz522.block
      refine wl_assign rfl rfl (by decide) ?_
      refine wl_nil ?_
      refine eo_then ?_
      refine cw_seq ?_
      obtain ⟨pm533, zl533, hm533⟩ := (lz522).zl hw5
      have hgr2 : gcdL (zs.reverse.take k ++ [x]) = (Int.gcd (gcdL zs) x : Int) := by rw [gcdL_snoc, hgr]
      have hlr2 : ln (gcdL (zs.reverse.take k ++ [x])) ≤ 1048577 := by rw [hgr2]; exact Nat.le_trans (ln_gcd _ _) (Nat.max_le.2 ⟨Nat.le_trans hlg (by decide), Nat.le_trans Lx (by decide)⟩)
      -- region 21, in whatever order
      have L535 : ln ((Int.gcd (gcdL zs) x : Int)) ≤ 1048576 := Nat.le_trans (ln_gcd _ _) (Nat.max_le.2 ⟨Nat.le_trans hlg (by decide), Nat.le_trans Lx (by decide)⟩)
      refine cw_draw mix 6 [] [Is (.slice A527 (k + 1) c528), ZR w.heap.size (gcdL ((zs.reverse.take k) ++ [x])), Is (.agg #[.bool s16, .slice A16 n16 c16]), Is (.agg #[.bool sb, .slice Ab nb cb]), ZR w.heap.size ((Int.gcd (gcdL zs) x : Int)), Is (.bool true)] [[], [0], [], [], [2, 3], [1, 4]] [[], [0], [], [], [0, 1, 2, 3], [0, 1, 2, 3, 4], [0, 1, 2, 3, 4, 5]] rfl
        (obs_cons rfl rfl (hob rfl rfl ?_) (obs_cons rfl rfl (hob rfl rfl ?_) (obs_cons rfl rfl (hob rfl rfl ?_) (obs_cons rfl rfl (hob rfl rfl ?_) (obs_cons rfl rfl (hob rfl rfl ?_) (obs_cons rfl rfl (hob rfl rfl ?_) obs_nil)))))) ?_
      · -- 0
        intro v537 e538
        have hw6 : Ext w v537 := hw5.trans e538
        refine deps_nil ?_
        refine wl_move rfl rfl (by decide) ?_
        exact pi_done rfl (Ext.refl _) rfl
      · -- 1
        intro v539 e540
        have hw6 : Ext w v539 := hw5.trans e540
        refine deps_cons rfl rfl fun x541 y542 h543 e544 f545 => ?_
        obtain rfl := h543
        refine deps_nil ?_
        refine wl_call rfl rfl (vs := [.slice A527 (k + 1) c528]) (by kernel_rfl) (by decide) (g_bezout_GcdAll hw6.size (zl533.ext e540) (by omega) (fun i => Nat.le_trans (hm533 i) (by decide))) ?_
        rintro _ v546 ⟨xr548, rfl, r548, e547⟩
        refine ret_intro ?_
        have hw7 : Ext w v546 := hw6.trans e547
        obtain ⟨s549, A549, n549, c549, rfl, z549⟩ := r548
        exact pi_done rfl e547 ⟨_, _, _, _, rfl, z549⟩
      · -- 2
        intro v550 e551
        have hw6 : Ext w v550 := hw5.trans e551
        refine deps_nil ?_
        refine wl_load rfl rfl (load_agg aggInt (((b_5.ext (e443.trans (e486.trans e515))).updO uo523 (fun p hp => by have := blk70 p hp; omega)).ext e551) [.bool s16, .slice A16 n16 c16] rfl (Nat.le_of_ble_eq_true rfl) rfl) (by decide) ?_
        exact pi_done rfl (Ext.refl _) rfl
      · -- 3
        intro v552 e553
        have hw6 : Ext w v552 := hw5.trans e553
        refine deps_nil ?_
        refine wl_load rfl rfl (load_agg aggInt (((b_3.ext (e443.trans (e486.trans e515))).updO uo523 (fun p hp => by have := blk70 p hp; omega)).ext e553) [.bool sb, .slice Ab nb cb] rfl (Nat.le_of_ble_eq_true rfl) rfl) (by decide) ?_
        exact pi_done rfl (Ext.refl _) rfl
      · -- 4
        intro v554 e555
        have hw6 : Ext w v554 := hw5.trans e555
        refine deps_cons rfl rfl fun x556 y557 h558 e559 f560 => ?_
        obtain rfl := h558
        refine deps_cons rfl rfl fun x561 y562 h563 e564 f565 => ?_
        obtain rfl := h563
        refine deps_nil ?_
        have L566 : ln ((Int.gcd (gcdL zs) x : Int)) ≤ 1048576 := Nat.le_trans (ln_gcd _ _) (Nat.max_le.2 ⟨Nat.le_trans hlg (by decide), Nat.le_trans Lx (by decide)⟩)
        refine wl_call rfl rfl (vs := [.agg #[.bool s16, .slice A16 n16 c16], .agg #[.bool sb, .slice Ab nb cb]]) (by kernel_rfl) (by decide) (g_bezout_Gcd hw6.size (((z_5.ext (e443.trans (e486.trans e515))).updOT own525 uo523).ext e555).zi (z_5.le (Nat.le_trans hlg (by decide))) (hx.ext hw6) (Nat.le_trans lb (by decide))) ?_
        rintro _ v567 ⟨xr569, rfl, r569, e568⟩
        refine ret_intro ?_
        have hw7 : Ext w v567 := hw6.trans e568
        obtain ⟨s570, A570, n570, c570, rfl, z570⟩ := r569
        exact pi_done rfl e568 ⟨_, _, _, _, rfl, z570⟩
      · -- 5
        intro v571 e572
        have hw6 : Ext w v571 := hw5.trans e572
        refine deps_cons rfl rfl fun x573 y574 h575 e576 f577 => ?_
        obtain ⟨s578, A578, n578, c578, rfl, z578⟩ := h575
        have z578 := z578.ext f577
        refine deps_cons rfl rfl fun x579 y580 h581 e582 f583 => ?_
        obtain ⟨s584, A584, n584, c584, rfl, z584⟩ := h581
        have z584 := z584.ext f583
        refine deps_nil ?_
        refine wl_call rfl rfl (vs := [.agg #[.bool s578, .slice A578 n578 c578], .agg #[.bool s584, .slice A584 n584 c584]]) (by kernel_rfl) (by decide) (g_law6_alike z578 (z578.le (Nat.le_trans hlr2 (by decide))) (z584.cast hgr2.symm) (z584.le (Nat.le_trans L535 (by decide)))) ?_
        rintro _ v585 ⟨xr587, rfl, r587, e586⟩
        refine ret_intro ?_
        have hw7 : Ext w v585 := hw6.trans e586
        obtain rfl := r587
        exact pi_done rfl e586 rfl
      · -- all
        intro v588 e589
        have hw6 : Ext w v588 := hw5.trans e589
        refine deps_cons rfl rfl fun x590 y591 h592 e593 f594 => ?_
        obtain rfl := h592
        refine deps_cons rfl rfl fun x595 y596 h597 e598 f599 => ?_
        obtain ⟨s600, A600, n600, c600, rfl, z600⟩ := h597
        have z600 := z600.ext f599
        refine deps_cons rfl rfl fun x601 y602 h603 e604 f605 => ?_
        obtain rfl := h603
        refine deps_cons rfl rfl fun x606 y607 h608 e609 f610 => ?_
        obtain rfl := h608
        refine deps_cons rfl rfl fun x611 y612 h613 e614 f615 => ?_
        obtain ⟨s616, A616, n616, c616, rfl, z616⟩ := h613
        have z616 := z616.ext f615
        refine deps_cons rfl rfl fun x617 y618 h619 e620 f621 => ?_
        obtain rfl := h619
        refine deps_nil ?_
        refine wl_assign rfl rfl (by decide) ?_
        refine wl_nil ?_
        refine eo_np ?_
        refine eo_then ?_
        refine cw_ret ?_
        refine eo_ret [.bool true] rfl ⟨rfl, trivial⟩ ?_
        exact bool_of _ _ ⟨_, rfl, rfl, hw6⟩

end Go.Proofs.Ytmaconeeonkdgaa
