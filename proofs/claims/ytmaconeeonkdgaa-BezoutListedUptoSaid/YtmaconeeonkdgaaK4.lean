/- Parts Ref3c, Ref3d, Sxb, Zh, joined. -/
import Derived.Test.YtmaconeeonkdgaaK3

/- trellisref03: divide, printed by p_ref3c.py -/
namespace Go.Proofs.Ytmaconeeonkdgaa
open Go.RowKit

theorem nb_digit_le {b : Nat} {l : List Nat} {i : Nat} (hi : i < l.length) : l.getD i 0 * b ^ i ≤ nb b l := by
  rw [nb_split b l i (by omega), drop_getD hi, Nat.mul_add, Nat.mul_comm (l.getD i 0)]
  omega
theorem divmod_of {x y q r : Nat} (h : q * y + r = x) (hr : r < y) : q = x / y ∧ r = x % y := by
  subst h
  rw [Nat.mul_comm]
  constructor
  · rw [Nat.mul_add_div (by omega), Nat.div_eq_of_lt hr]; rfl
  · rw [Nat.mul_add_mod, Nat.mod_eq_of_lt hr]
theorem nb_ge_of_top {b m : Nat} {es : List Nat} (hb : 0 < b) (hm : 0 < m) (hl : es.length = m) (ht : es.getD (m - 1) 0 ≠ 0) : b ^ (m - 1) ≤ nb b es := by
  refine Nat.le_trans ?_ (nb_digit_le (b := b) (l := es) (i := m - 1) (by omega))
  exact Nat.le_mul_of_pos_left _ (by omega)
theorem nb_pos_of_top {b m : Nat} {es : List Nat} (hb : 0 < b) (hm : 0 < m) (hl : es.length = m) (ht : es.getD (m - 1) 0 ≠ 0) : 0 < nb b es := Nat.lt_of_lt_of_le (Nat.pow_pos hb) (nb_ge_of_top hb hm hl ht)
theorem small_of_top {n m : Nat} {xs es : List Nat} (hw : Wfb 4294967296 xs) (hn : xs.length = n) (hl : es.length = m) (h : n < m) (ht : es.getD (m - 1) 0 ≠ 0) : nb 4294967296 xs < nb 4294967296 es := by
  have h1 := nb_lt hw
  rw [hn] at h1
  have h2 := nb_ge_of_top (b := 4294967296) (by decide) (by omega) hl ht
  have h3 : 4294967296 ^ n ≤ 4294967296 ^ (m - 1) := Nat.pow_le_pow_right (by decide) (by omega)
  omega
theorem ref3_goes' {w : World} {A D : Option Addr} {n cap m cd s : Nat} {xs es : List Nat} {b : Bool} (hx : Rd w A n cap xs) (hln : n ≤ 1099511627776) (hy : Rd w D m cd es) (hwx : Wfb 4294967296 xs) (hwe : Wfb 4294967296 es) (hs : s + m ≤ n) (hbig : nb 4294967296 xs < 4294967296 ^ (s + m + 1)) (hb : decide (nb 4294967296 es * 4294967296 ^ s ≤ nb 4294967296 xs) = b) :
    Calls Try.prog 125 #[.slice A n cap, .slice D m cd, .int .i64 (s : Int)] w (Gv w (Is (.bool b))) := hb ▸ ref3_goes hx hln hy hwx hwe hs hbig
theorem nb_digit2_le {b : Nat} {l : List Nat} {i i' : Nat} (h : i + 1 = i') (hi : i' < l.length) : (l.getD i 0 + l.getD i' 0 * b) * b ^ i ≤ nb b l := by
  subst h
  rw [nb_split b l i (by omega), drop_getD (k := i) (by omega), drop_getD (k := i + 1) hi, Nat.mul_comm, Nat.mul_comm (l.getD (i + 1) 0)]
  refine Nat.le_trans (Nat.mul_le_mul_left _ ?_) (Nat.le_add_left _ _)
  rw [Nat.mul_add]
  omega
theorem dv_head {l : List Nat} {k : Nat} (hw : Wfb 4294967296 l) (hk : k ≤ l.length) (h0 : 0 < k) (hv : nb 4294967296 (l.take k) = nb 4294967296 l) : nb 4294967296 l < (l.getD (k - 1) 0 + 1) * 4294967296 ^ (k - 1) := by
  obtain ⟨j, rfl⟩ : ∃ j, k = j + 1 := ⟨k - 1, by omega⟩
  rw [← hv, nb_take_snoc 4294967296 l j (by omega), Nat.add_sub_cancel, Nat.add_mul, Nat.one_mul, Nat.mul_comm (l.getD j 0)]
  have := nb_take_lt (by decide) hw j
  omega
theorem dv_fit {D hd k t j R : Nat} (hD : D < hd * 4294967296 ^ (k - 1)) (hk : 0 < k) (ht : t * 4294967296 ^ (j + k - 1) ≤ R) : t / hd * D * 4294967296 ^ j ≤ R := by
  have h1 : t / hd * D ≤ t / hd * (hd * 4294967296 ^ (k - 1)) := Nat.mul_le_mul_left _ (Nat.le_of_lt hD)
  have h2 : t / hd * (hd * 4294967296 ^ (k - 1)) ≤ t * 4294967296 ^ (k - 1) := by
    rw [← Nat.mul_assoc]
    exact Nat.mul_le_mul_right _ (Nat.div_mul_le_self t hd)
  have h3 := Nat.mul_le_mul_right (4294967296 ^ j) (Nat.le_trans h1 h2)
  rw [Nat.mul_assoc t, ← Nat.pow_add, show k - 1 + j = j + k - 1 by omega] at h3
  exact Nat.le_trans h3 ht
theorem dv_lt {n D j R : Nat} (h : n * D * 4294967296 ^ j ≤ R) (hR : R < D * 4294967296 ^ (j + 1)) : n < 4294967296 := by
  refine Nat.lt_of_not_le fun hn => ?_
  have h1 : 4294967296 * D * 4294967296 ^ j ≤ n * D * 4294967296 ^ j := Nat.mul_le_mul_right _ (Nat.mul_le_mul_right _ hn)
  have h2 : 4294967296 * D * 4294967296 ^ j = D * 4294967296 ^ (j + 1) := by rw [Nat.pow_succ]; grind
  omega
/-- between the places -/
structure DO (Z D k : Nat) (lq lr : List Nat) : Prop where
  wq : Wfb 4294967296 lq
  wr : Wfb 4294967296 lr
  v : nb 4294967296 lq * D + nb 4294967296 lr = Z
  lt : nb 4294967296 lr < D * 4294967296 ^ k
  z : ∀ i, i < k → lq.getD i 0 = 0
/-- within place j -/
structure DI (Z D j : Nat) (lq lr : List Nat) : Prop where
  wq : Wfb 4294967296 lq
  wr : Wfb 4294967296 lr
  v : nb 4294967296 lq * D + nb 4294967296 lr = Z
  lt : lq.getD j 0 * (D * 4294967296 ^ j) + nb 4294967296 lr < D * 4294967296 ^ (j + 1)
  z : ∀ i, i < j → lq.getD i 0 = 0
theorem getD_zeros (k i : Nat) : (List.replicate k 0).getD i 0 = 0 := by
  rw [List.getD_eq_getElem?_getD]
  by_cases h : i < k
  · rw [List.getElem?_replicate_of_lt h]; rfl
  · rw [List.getElem?_eq_none (by rw [List.length_replicate]; omega)]; rfl
theorem DO.start {X Y f n m : Nat} {lr ld : List Nat} (hw : Wfb 4294967296 lr) (hr : nb 4294967296 lr = X * f) (hd : nb 4294967296 ld = Y * f) (hf : 1 ≤ f) (hX : X < 4294967296 ^ n) (hY : 4294967296 ^ (m - 1) ≤ Y) (hm : 0 < m) (hmn : m ≤ n) :
    DO (X * f) (nb 4294967296 ld) (n - m + 1) (List.replicate (n - m + 1) 0) lr := by
  refine ⟨Wfb_zeros (by decide) _, hw, by rw [nb_zeros, hr]; omega, ?_, fun i _ => getD_zeros _ i⟩
  rw [hr, hd]
  have h1 : 4294967296 ^ n = 4294967296 ^ (m - 1) * 4294967296 ^ (n - m + 1) := by rw [← Nat.pow_add]; congr 1; omega
  have h2 : 4294967296 ^ (m - 1) * 4294967296 ^ (n - m + 1) ≤ Y * 4294967296 ^ (n - m + 1) := Nat.mul_le_mul_right _ hY
  rw [Nat.mul_right_comm]
  exact Nat.mul_lt_mul_of_pos_right (by omega) hf
theorem DO.enter {Z D j : Nat} {lq lr : List Nat} (h : DO Z D (j + 1) lq lr) : DI Z D j lq lr := ⟨h.wq, h.wr, h.v, by rw [h.z j (by omega), Nat.zero_mul, Nat.zero_add]; exact h.lt, fun i hi => h.z i (by omega)⟩
theorem DI.leave {Z D j : Nat} {lq lr : List Nat} (h : DI Z D j lq lr) (hn : ¬ D * 4294967296 ^ j ≤ nb 4294967296 lr) : DO Z D j lq lr := ⟨h.wq, h.wr, h.v, by omega, h.z⟩
theorem DI.sum {Z D j n : Nat} {lq lr l' : List Nat} (h : DI Z D j lq lr) (hv : nb 4294967296 l' + n * D * 4294967296 ^ j = nb 4294967296 lr) : (lq.getD j 0 + n) * (D * 4294967296 ^ j) + nb 4294967296 l' < D * 4294967296 ^ (j + 1) := by
  have h1 := h.lt
  rw [Nat.add_mul, ← Nat.mul_assoc n]
  omega
theorem DI.digit {Z D j n : Nat} {lq lr l' : List Nat} (h : DI Z D j lq lr) (hv : nb 4294967296 l' + n * D * 4294967296 ^ j = nb 4294967296 lr) : lq.getD j 0 + n < 4294967296 := by
  have h1 := h.sum hv
  refine dv_lt (R := (lq.getD j 0 + n) * D * 4294967296 ^ j) (Nat.le_refl _) ?_
  rw [Nat.mul_assoc]; omega
theorem DI.step {Z D j n : Nat} {lq lr l' : List Nat} (h : DI Z D j lq lr) (hj : j < lq.length) (hw : Wfb 4294967296 l') (hv : nb 4294967296 l' + n * D * 4294967296 ^ j = nb 4294967296 lr) : DI Z D j (lq.set j (lq.getD j 0 + n)) l' := by
  refine ⟨Wfb_set h.wq _ (h.digit hv), hw, ?_, ?_, fun i hi => by rw [getD_set_ne (by omega), h.z i hi]⟩
  · have h1 := nb_set 4294967296 hj (lq.getD j 0 + n)
    rw [Nat.mul_add] at h1
    have h2 : nb 4294967296 (lq.set j (lq.getD j 0 + n)) = nb 4294967296 lq + 4294967296 ^ j * n := by omega
    have h3 := h.v
    have h4 : 4294967296 ^ j * n * D = n * D * 4294967296 ^ j := by grind
    rw [h2, Nat.add_mul, h4]
    omega
  · rw [getD_set_eq hj]; exact h.sum hv
theorem dv_less {D j n : Nat} {lr l' : List Nat} (hn : 1 ≤ n) (hD : 0 < D) (hv : nb 4294967296 l' + n * D * 4294967296 ^ j = nb 4294967296 lr) : nb 4294967296 l' < nb 4294967296 lr := by
  have : 0 < n * D * 4294967296 ^ j := Nat.mul_pos (Nat.mul_pos hn hD) (Nat.pow_pos (by decide))
  omega
theorem dv_big {Z D j k : Nat} {lq lr ld : List Nat} (h : DI Z D j lq lr) (hd : nb 4294967296 ld = D) (hw : Wfb 4294967296 ld) (hv : nb 4294967296 (ld.take k) = nb 4294967296 ld) : nb 4294967296 lr < 4294967296 ^ (j + k + 1) := by
  have h1 := nb_take_lt (by decide) hw k
  rw [hv, hd] at h1
  have h2 := h.lt
  have h3 : D * 4294967296 ^ (j + 1) ≤ 4294967296 ^ k * 4294967296 ^ (j + 1) := Nat.mul_le_mul_right _ (Nat.le_of_lt h1)
  rw [← Nat.pow_add, show k + (j + 1) = j + k + 1 by omega] at h3
  omega
/-- the division by f -/
structure DF (f : Nat) (l0 : List Nat) (k rest : Nat) (l : List Nat) : Prop where
  len : l.length = l0.length
  wf : Wfb 4294967296 l
  rf : rest < f
  v : nb 4294967296 (l0.drop k) = nb 4294967296 (l.drop k) * f + rest
  same : ∀ i, i < k → l.getD i 0 = l0.getD i 0
theorem DF.start {f n : Nat} {l0 : List Nat} (hw : Wfb 4294967296 l0) (hf : 1 ≤ f) (hl : l0.length = n) : DF f l0 n 0 l0 := ⟨rfl, hw, hf, by rw [List.drop_of_length_le (by omega), nb_nil, Nat.zero_mul], fun _ _ => rfl⟩
theorem DF.step {f j rest : Nat} {l0 l : List Nat} (h : DF f l0 (j + 1) rest l) (hj : j < l0.length) (hd : (rest * 4294967296 + l.getD j 0) / f < 4294967296) (hf : 1 ≤ f) : DF f l0 j ((rest * 4294967296 + l.getD j 0) % f) (l.set j ((rest * 4294967296 + l.getD j 0) / f)) := by
  refine ⟨by rw [List.length_set, h.len], Wfb_set h.wf _ hd, Nat.mod_lt _ hf, ?_, fun i hi => by rw [getD_set_ne (by omega), h.same i (by omega)]⟩
  rw [drop_getD hj, drop_getD (xs := l.set j _) (k := j) (by rw [List.length_set, h.len]; exact hj), getD_set_eq (by rw [h.len]; exact hj), h.v, ← h.same j (by omega), List.drop_set_of_lt (by omega)]
  have e := Nat.div_add_mod (rest * 4294967296 + l.getD j 0) f
  generalize (rest * 4294967296 + l.getD j 0) / f = Q at *
  generalize (rest * 4294967296 + l.getD j 0) % f = R at *
  have e2 : (Q + 4294967296 * nb 4294967296 (List.drop (j + 1) l)) * f = f * Q + 4294967296 * (nb 4294967296 (List.drop (j + 1) l) * f) := by grind
  rw [e2]
  omega
theorem DF.digit {f j rest : Nat} {l0 l : List Nat} (h : DF f l0 (j + 1) rest l) : (rest * 4294967296 + l.getD j 0) / f < 4294967296 := by
  have h1 := Wfb_getD (b := 4294967296) (by decide) h.wf j
  have h2 := h.rf
  rw [Nat.div_lt_iff_lt_mul (by omega)]
  have h3 : (rest + 1) * 4294967296 ≤ f * 4294967296 := Nat.mul_le_mul_right _ h2
  rw [Nat.mul_comm 4294967296 f]
  omega
theorem dv_done {X Y f rest : Nat} {lq lr ld l : List Nat} (h : DO (X * f) (nb 4294967296 ld) 0 lq lr) (hd : nb 4294967296 ld = Y * f) (hF : DF f lr 0 rest l) : nb 4294967296 lq = X / Y ∧ nb 4294967296 l = X % Y := by
  have h1 := h.v
  have h2 := h.lt
  have h3 := hF.v
  have h4 := hF.rf
  rw [List.drop_zero, List.drop_zero] at h3
  rw [hd, Nat.pow_zero, Nat.mul_one] at h2
  rw [hd] at h1
  have e : (nb 4294967296 lq * Y + nb 4294967296 l) * f + rest = X * f := by rw [Nat.add_mul, Nat.mul_assoc]; omega
  have h0 : rest = 0 := by
    have := congrArg (· % f) e
    simp only [Nat.mul_mod_left, Nat.add_comm _ rest, Nat.add_mul_mod_self_right] at this
    rwa [Nat.mod_eq_of_lt h4] at this
  rw [h0, Nat.add_zero] at e h3
  have e2 := Nat.eq_of_mul_eq_mul_right (by omega : 0 < f) e
  have h5 : nb 4294967296 l < Y := by
    rw [h3] at h2
    exact Nat.lt_of_mul_lt_mul_right h2
  have := divmod_of (x := X) (y := Y) e2 h5
  exact this

set_option maxHeartbeats 4000000 in
theorem ref3_divide {w : World} {A D : Option Addr} {n cap m cd : Nat} {xs es : List Nat} (hx : Rd w A n cap xs) (hln : n ≤ 274877906944) (hy : Rd w D m cd es) (hlm : m ≤ 274877906944) (hwx : Wfb 4294967296 xs) (hwe : Wfb 4294967296 es) (hxt : n = 0 ∨ xs.getD (n - 1) 0 ≠ 0) (hm0 : 0 < m) (htop : es.getD (m - 1) 0 ≠ 0) :
    Calls Try.prog 110 #[.slice A n cap, .slice D m cd] w (Gv w (T2 (WD (nb 4294967296 xs / nb 4294967296 es)) (WD (nb 4294967296 xs % nb 4294967296 es)))) := by
  have hlen := hx.len
  have hle := hx.rv.le
  have hlem := hy.len
  have hle2 := hy.rv.le
  refine sx_enter Try.func110 rfl (n := 143) rfl (Nat.le_of_ble_eq_true rfl) (args := [.slice A n cap, .slice D m cd]) ?_
  refine cw_keep [(0, .slice A n cap), (1, .slice D m cd)] ⟨rfl, rfl, trivial⟩ ?_
  refine cw_seq ?_
  -- region 0
  refine cw_region ?_
  refine wl_assign rfl rfl (by decide) ?_
  refine wl_assign rfl rfl (by decide) ?_
  refine wl_nil ?_
  refine eo_then ?_
  refine cw_seq ?_
  refine cw_seq ?_
  by_cases hnm : n < m
  ·
    -- region 1
    refine cw_region ?_
    refine wl_move rfl rfl (by decide) ?_
    refine wl_pure rfl rfl (v := .int .i64 ((n : Nat) : Int)) (by decide) (by kernel_rfl) ?_
    refine wl_move rfl rfl (by decide) ?_
    refine wl_pure rfl rfl (v := .int .i64 ((m : Nat) : Int)) (by decide) (by kernel_rfl) ?_
    refine wl_cmp rfl rfl rfl true (cb_lt_t (a := n) (b := m) rfl rfl (by omega)) (by decide) ?_
    refine wl_nil ?_
    refine eo_then ?_
    refine cw_true rfl ?_
    refine cw_seq ?_
    -- region 2
    refine cw_region ?_
    refine wl_move rfl rfl (by decide) ?_
    refine wl_assign rfl rfl (by decide) ?_
    refine wl_assign rfl rfl (by decide) ?_
    refine wl_nil ?_
    refine eo_then ?_
    refine cw_ret ?_
    refine eo_thenR ?_
    refine eo_ret [.slice none 0 0, .slice A n cap] rfl ⟨rfl, rfl, trivial⟩ ?_
    have hlt := small_of_top hwx hlen hlem hnm htop
    refine ⟨_, rfl, ⟨_, _, rfl, ⟨_, _, _, rfl, ?_⟩, ⟨_, _, _, rfl, ?_⟩⟩, (Ext.refl w)⟩
    · rw [Nat.div_eq_of_lt hlt]; exact Rd.nil _
    · rw [Nat.mod_eq_of_lt hlt, db_of_top' b32 hwx (by rw [hlen]; exact hxt)]; exact hx
  ·
    -- region 1
    refine cw_region ?_
    refine wl_move rfl rfl (by decide) ?_
    refine wl_pure rfl rfl (v := .int .i64 ((n : Nat) : Int)) (by decide) (by kernel_rfl) ?_
    refine wl_move rfl rfl (by decide) ?_
    refine wl_pure rfl rfl (v := .int .i64 ((m : Nat) : Int)) (by decide) (by kernel_rfl) ?_
    refine wl_cmp rfl rfl rfl false (cb_lt_f (a := n) (b := m) rfl rfl (by omega)) (by decide) ?_
    refine wl_nil ?_
    refine eo_then ?_
    refine cw_false rfl ?_
    refine cw_skip ?_
    refine eo_then ?_
    refine cw_seq ?_
    have htb := Wfb_getD (b := 4294967296) (by decide) hwe (m - 1)
    -- region 3
    refine cw_region ?_
    refine wl_assign rfl rfl (by decide) ?_
    refine wl_nil ?_
    refine eo_then ?_
    refine cw_seq ?_
    refine cw_block ?_
    refine cw_loop (T := World × Nat)
      (fun ⟨wr, f⟩ => [(0, .slice A n cap), (1, .slice D m cd), (6, .int .u64 ((f : Nat) : Int))])
      (fun ⟨wr, f⟩ => wr)
      (fun ⟨wr, f⟩ => (Ext w wr) ∧ (1 ≤ f) ∧ (f ≤ 4294967295) ∧ (Rd wr A n cap xs) ∧ (Rd wr D m cd es))
      (fun ⟨wr, f⟩ => 4294967296 - f)
      (⟨w, 1⟩ : World × Nat) ⟨(Ext.refl w), (by decide), (by decide), hx, hy⟩ rfl ⟨rfl, rfl, rfl, trivial⟩ ?_
    rintro ⟨wr, f⟩ ⟨hw1, hf1, hf2, rl0, rl1⟩
    refine cw_re [(0, .slice A n cap), (1, .slice D m cd), (6, .int .u64 ((f : Nat) : Int))] wr rfl ⟨rfl, rfl, rfl, trivial⟩ ?_
    refine cw_seq ?_
    refine cw_seq ?_
    have hm : (es.getD (m - 1) 0) * f ≤ 4294967295 * 4294967295 := Nat.mul_le_mul (by omega) (by omega)
    by_cases hmul : (es.getD (m - 1) 0) * f < 2147483648
    ·
      have hm2 : 1 * f ≤ (es.getD (m - 1) 0) * f := Nat.mul_le_mul_right _ (by omega)
      -- region 4
      refine cw_region ?_
      refine wl_move rfl rfl (by decide) ?_
      refine wl_move rfl rfl (by decide) ?_
      refine wl_pure rfl rfl (v := .int .i64 ((m : Nat) : Int)) (by decide) (by kernel_rfl) ?_
      refine wl_ar rfl rfl rfl ((m - 1 : Nat) : Int) (ai_sub (a := m) (b := 1) rfl rfl (by omega) (by omega)) (by decide) ?_
      obtain ⟨p1, hp1, hc1, hv1⟩ := (rl1).at (i := m - 1) (by omega)
      refine wl_idx rfl rfl rfl un_u64 sz_u64 (m - 1) rfl (by omega) p1 hp1 (by decide) ?_
      refine wl_load rfl rfl (load_cell1 ag_u64 hc1) (by decide) ?_
      refine wl_move rfl rfl (by decide) ?_
      refine wl_ar rfl rfl rfl (((es.getD (m - 1) 0) * f : Nat) : Int) (au_mul (a := es.getD (m - 1) 0) (b := f) rfl rfl (by omega)) (by decide) ?_
      refine wl_cmp rfl rfl rfl true (cb_lt_t (a := (es.getD (m - 1) 0) * f) (b := 2147483648) rfl rfl (by omega)) (by decide) ?_
      refine wl_nil ?_
      refine eo_then ?_
      refine cw_true rfl ?_
      refine cw_skip ?_
      refine eo_then ?_
      refine cw_block ?_
      -- region 5
      refine cw_region ?_
      refine wl_move rfl rfl (by decide) ?_
      refine wl_ar rfl rfl rfl ((2 * f : Nat) : Int) (au_mul (a := 2) (b := f) rfl rfl (by omega)) (by decide) ?_
      refine wl_assign rfl rfl (by decide) ?_
      refine wl_nil ?_
      refine eo_block_normal ?_
      refine eo_round (⟨wr, 2 * f⟩ : World × Nat) ⟨hw1, (by omega), (by omega), rl0, rl1⟩ (show 4294967296 - 2 * f < 4294967296 - f by omega) rfl ⟨rfl, rfl, rfl, trivial⟩
    ·
      -- region 4
      refine cw_region ?_
      refine wl_move rfl rfl (by decide) ?_
      refine wl_move rfl rfl (by decide) ?_
      refine wl_pure rfl rfl (v := .int .i64 ((m : Nat) : Int)) (by decide) (by kernel_rfl) ?_
      refine wl_ar rfl rfl rfl ((m - 1 : Nat) : Int) (ai_sub (a := m) (b := 1) rfl rfl (by omega) (by omega)) (by decide) ?_
      obtain ⟨p2, hp2, hc2, hv2⟩ := (rl1).at (i := m - 1) (by omega)
      refine wl_idx rfl rfl rfl un_u64 sz_u64 (m - 1) rfl (by omega) p2 hp2 (by decide) ?_
      refine wl_load rfl rfl (load_cell1 ag_u64 hc2) (by decide) ?_
      refine wl_move rfl rfl (by decide) ?_
      refine wl_ar rfl rfl rfl (((es.getD (m - 1) 0) * f : Nat) : Int) (au_mul (a := es.getD (m - 1) 0) (b := f) rfl rfl (by omega)) (by decide) ?_
      refine wl_cmp rfl rfl rfl false (cb_lt_f (a := (es.getD (m - 1) 0) * f) (b := 2147483648) rfl rfl (by omega)) (by decide) ?_
      refine wl_nil ?_
      refine eo_then ?_
      refine cw_false rfl ?_
      refine cw_exit ?_
      refine eo_thenX ?_
      refine eo_loopX ?_
      refine eo_block_here ?_
      refine eo_then ?_
      refine cw_seq ?_
      -- region 6
      refine cw_region ?_
      refine wl_move rfl rfl (by decide) ?_
      refine wl_move rfl rfl (by decide) ?_
      refine wl_call rfl rfl (vs := [.slice A n cap, .int .u64 ((f : Nat) : Int)]) (by kernel_rfl) (by decide) (ref3_scaled rl0 (by omega) hwx hf2) ?_
      rintro _ v3 ⟨xr5, rfl, r5, e4⟩
      refine ret_intro ?_
      have hw2 : Ext w v3 := hw1.trans e4
      obtain ⟨g6, l6, rfl, gb6, hb6, hl6, hwf6, hnv6⟩ := r5
      have ge7 : w.heap.size ≤ g6 := Nat.le_trans hw1.size gb6
      have ne8 : 0 < cap → ∀ a, A = some a → a.block ≠ g6 := fun hc a ha => by have := (rl0).rv.blk a ha hc; omega
      have ne9 : 0 < cd → ∀ a, D = some a → a.block ≠ g6 := fun hc a ha => by have := (rl1).rv.blk a ha hc; omega
      refine wl_assign rfl rfl (by decide) ?_
      refine wl_nil ?_
      refine eo_then ?_
      refine cw_seq ?_
      -- region 7
      refine cw_region ?_
      refine wl_move rfl rfl (by decide) ?_
      refine wl_move rfl rfl (by decide) ?_
      refine wl_call rfl rfl (vs := [.slice D m cd, .int .u64 ((f : Nat) : Int)]) (by kernel_rfl) (by decide) (ref3_scaled (rl1.ext e4) (by omega) hwe hf2) ?_
      rintro _ v10 ⟨xr12, rfl, r12, e11⟩
      refine ret_intro ?_
      have hw3 : Ext w v10 := hw2.trans e11
      obtain ⟨g13, l13, rfl, gb13, hb13, hl13, hwf13, hnv13⟩ := r12
      have ge14 : w.heap.size ≤ g13 := Nat.le_trans hw2.size gb13
      have q15 : g6 < g13 := Nat.lt_of_lt_of_le hb6.lt gb13
      have ne16 : 0 < cap → ∀ a, A = some a → a.block ≠ g13 := fun hc a ha => by have := ((rl0.ext e4)).rv.blk a ha hc; omega
      have ne17 : 0 < cd → ∀ a, D = some a → a.block ≠ g13 := fun hc a ha => by have := ((rl1.ext e4)).rv.blk a ha hc; omega
      refine wl_assign rfl rfl (by decide) ?_
      refine wl_nil ?_
      refine eo_then ?_
      refine cw_seq ?_
      -- region 8
      refine cw_region ?_
      refine wl_move rfl rfl (by decide) ?_
      refine wl_call rfl rfl (vs := [.slice (some ⟨g13, 0, none⟩) (m + 1) (m + 1)]) (by kernel_rfl) (by decide) (ref3_Trim (hb13.rd0 hwf13.wf hl13 (by omega)) (by omega)) ?_
      rintro _ v18 ⟨xr20, rfl, r20, e19⟩
      refine ret_intro ?_
      have hw4 : Ext w v18 := hw3.trans e19
      obtain ⟨k21, rfl, hk21, ht21, hv21⟩ := r20
      refine wl_assign rfl rfl (by decide) ?_
      refine wl_nil ?_
      refine eo_then ?_
      refine cw_seq ?_
      have hD := hnv13
      have hvd := hv21 4294967296
      have hY0 := nb_pos_of_top (b := 4294967296) (by decide) (by omega) hlem htop
      have hDp : 0 < nb 4294967296 l13 := by rw [hD]; exact Nat.mul_pos hY0 hf1
      have hkp : 0 < k21 := by refine Nat.pos_of_ne_zero fun e => ?_; rw [e] at hvd; simp only [List.take_zero, nb_nil] at hvd; omega
      have hhd := dv_head hwf13 (by omega) hkp hvd
      have htopd := Wfb_getD (b := 4294967296) (by decide) hwf13 (k21 - 1)
      -- region 9
      refine cw_region ?_
      refine wl_move rfl rfl (by decide) ?_
      refine wl_pure rfl rfl (v := .int .i64 ((n : Nat) : Int)) (by decide) (by kernel_rfl) ?_
      refine wl_move rfl rfl (by decide) ?_
      refine wl_pure rfl rfl (v := .int .i64 ((m : Nat) : Int)) (by decide) (by kernel_rfl) ?_
      refine wl_ar rfl rfl rfl ((n - m : Nat) : Int) (ai_sub (a := n) (b := m) rfl rfl (by omega) (by omega)) (by decide) ?_
      refine wl_ar rfl rfl rfl (((n - m) + 1 : Nat) : Int) (ai_add (a := n - m) (b := 1) rfl rfl (by omega)) (by decide) ?_
      refine wl_make rfl (k := (n - m) + 1) rfl rfl rfl un_u64 info64 rfl (by decide) (by omega) (by decide) fun g22 v23 hg24 hb25 e26 => ?_
      rw [replicate_W64] at hb25
      have ge27 : w.heap.size ≤ g22 := by rw [← hg24]; exact hw4.size
      have q29 : g6 < g22 := by rw [← hg24]; exact (hb6.ext (e11.trans e19)).lt
      have q30 : g13 < g22 := by rw [← hg24]; exact (hb13.ext e19).lt
      have ne31 : 0 < cap → ∀ a, A = some a → a.block ≠ g22 := fun hc a ha => by have := ((rl0.ext (e4.trans (e11.trans e19)))).rv.blk a ha hc; omega
      have ne32 : 0 < cd → ∀ a, D = some a → a.block ≠ g22 := fun hc a ha => by have := ((rl1.ext (e4.trans (e11.trans e19)))).rv.blk a ha hc; omega
      clear hg24
      have hw5 : Ext w v23 := hw4.trans e26
      refine wl_assign rfl rfl (by decide) ?_
      refine wl_nil ?_
      refine eo_then ?_
      refine cw_seq ?_
      -- region 10
      refine cw_region ?_
      refine wl_move rfl rfl (by decide) ?_
      refine wl_move rfl rfl (by decide) ?_
      refine wl_pure rfl rfl (v := .int .i64 ((k21 : Nat) : Int)) (by decide) (by kernel_rfl) ?_
      refine wl_ar rfl rfl rfl ((k21 - 1 : Nat) : Int) (ai_sub (a := k21) (b := 1) rfl rfl (by omega) (by omega)) (by decide) ?_
      refine wl_idx rfl rfl rfl un_u64 sz_u64 (k21 - 1) rfl (by omega) ⟨g13, k21 - 1, none⟩ (arr_at _ _) (by decide) ?_
      refine wl_load rfl rfl (load_word ag_u64 (hb13.ext (e19.trans e26)) (by rw [hl13]; omega)) (by decide) ?_
      refine wl_ar rfl rfl rfl (((l13.getD (k21 - 1) 0) + 1 : Nat) : Int) (au_add (a := l13.getD (k21 - 1) 0) (b := 1) rfl rfl (by omega)) (by decide) ?_
      refine wl_assign rfl rfl (by decide) ?_
      refine wl_nil ?_
      refine eo_then ?_
      refine cw_seq ?_
      refine cw_seq ?_
      -- region 11
      refine cw_region ?_
      refine wl_move rfl rfl (by decide) ?_
      refine wl_pure rfl rfl (v := .int .i64 ((n : Nat) : Int)) (by decide) (by kernel_rfl) ?_
      refine wl_move rfl rfl (by decide) ?_
      refine wl_pure rfl rfl (v := .int .i64 ((m : Nat) : Int)) (by decide) (by kernel_rfl) ?_
      refine wl_ar rfl rfl rfl ((n - m : Nat) : Int) (ai_sub (a := n) (b := m) rfl rfl (by omega) (by omega)) (by decide) ?_
      refine wl_assign rfl rfl (by decide) ?_
      refine wl_nil ?_
      refine eo_then ?_
      refine cw_block ?_
      refine cw_loop (T := World × Nat × Int × List Nat × List Nat)
        (fun ⟨wr, k, ii, lq, lr⟩ => [(6, .int .u64 ((f : Nat) : Int)), (7, .slice (some ⟨g6, 0, none⟩) (n + 1) (n + 1)), (8, .slice (some ⟨g13, 0, none⟩) k21 (m + 1)), (9, .slice (some ⟨g22, 0, none⟩) ((n - m) + 1) ((n - m) + 1)), (10, .int .u64 (((l13.getD (k21 - 1) 0) + 1 : Nat) : Int)), (11, .int .i64 ii)])
        (fun ⟨wr, k, ii, lq, lr⟩ => wr)
        (fun ⟨wr, k, ii, lq, lr⟩ => (Ext w wr) ∧ (k ≤ n - m + 1) ∧ (ii = (k : Int) - 1) ∧ (Bk wr g6 47 (lr.map W64)) ∧ (lr.length = n + 1) ∧ (Bk wr g13 47 (l13.map W64)) ∧ (Bk wr g22 47 (lq.map W64)) ∧ (lq.length = n - m + 1) ∧ (DO (nb 4294967296 xs * f) (nb 4294967296 l13) k lq lr))
        (fun ⟨wr, k, ii, lq, lr⟩ => k)
        (⟨v23, n - m + 1, _, _, _⟩ : World × Nat × Int × List Nat × List Nat) ⟨hw5, Nat.le_refl _, (by omega), (hb6.ext (e11.trans (e19.trans e26))), hl6, (hb13.ext (e19.trans e26)), hb25, (List.length_replicate (n := (n - m) + 1) (a := 0)), DO.start hwf6 hnv6 hD hf1 (by have := nb_lt hwx; rwa [hlen] at this) (nb_ge_of_top (by decide) (by omega) hlem htop) (by omega) (by omega)⟩ rfl ⟨rfl, rfl, rfl, rfl, rfl, rfl, trivial⟩ ?_
      rintro ⟨wr, k, ii, lq, lr⟩ ⟨hw1, hk, hii, hbr, hlr, hbd, hbq, hlq, hO⟩
      refine cw_re [(6, .int .u64 ((f : Nat) : Int)), (7, .slice (some ⟨g6, 0, none⟩) (n + 1) (n + 1)), (8, .slice (some ⟨g13, 0, none⟩) k21 (m + 1)), (9, .slice (some ⟨g22, 0, none⟩) ((n - m) + 1) ((n - m) + 1)), (10, .int .u64 (((l13.getD (k21 - 1) 0) + 1 : Nat) : Int)), (11, .int .i64 ii)] wr rfl ⟨rfl, rfl, rfl, rfl, rfl, rfl, trivial⟩ ?_
      refine cw_seq ?_
      refine cw_seq ?_
      by_cases hk0 : 0 < k
      ·
        obtain ⟨j, rfl⟩ : ∃ j, k = j + 1 := ⟨k - 1, by omega⟩
        obtain rfl : ii = (j : Int) := by omega
        -- region 12
        refine cw_region ?_
        refine wl_move rfl rfl (by decide) ?_
        refine wl_cmp rfl rfl rfl true (cb_ge_t (a := j) (b := 0) rfl rfl (by omega)) (by decide) ?_
        refine wl_nil ?_
        refine eo_then ?_
        refine cw_true rfl ?_
        refine cw_skip ?_
        refine eo_then ?_
        refine cw_seq ?_
        refine cw_block ?_
        refine cw_block ?_
        have hE := hO.enter
        clear hO
        refine cw_loop (T := World × List Nat × List Nat)
          (fun ⟨wr, lq, lr⟩ => [(6, .int .u64 ((f : Nat) : Int)), (7, .slice (some ⟨g6, 0, none⟩) (n + 1) (n + 1)), (8, .slice (some ⟨g13, 0, none⟩) k21 (m + 1)), (9, .slice (some ⟨g22, 0, none⟩) ((n - m) + 1) ((n - m) + 1)), (10, .int .u64 (((l13.getD (k21 - 1) 0) + 1 : Nat) : Int)), (11, .int .i64 ((j : Nat) : Int))])
          (fun ⟨wr, lq, lr⟩ => wr)
          (fun ⟨wr, lq, lr⟩ => (Ext w wr) ∧ (Bk wr g6 47 (lr.map W64)) ∧ (lr.length = n + 1) ∧ (Bk wr g13 47 (l13.map W64)) ∧ (Bk wr g22 47 (lq.map W64)) ∧ (lq.length = n - m + 1) ∧ (DI (nb 4294967296 xs * f) (nb 4294967296 l13) j lq lr))
          (fun ⟨wr, lq, lr⟩ => nb 4294967296 lr)
          (⟨wr, _, _⟩ : World × List Nat × List Nat) ⟨hw1, hbr, hlr, hbd, hbq, hlq, hE⟩ rfl ⟨rfl, rfl, rfl, rfl, rfl, rfl, trivial⟩ ?_
        rintro ⟨wr, lq, lr⟩ ⟨hw1, hbr, hlr, hbd, hbq, hlq, hI⟩
        refine cw_re [(6, .int .u64 ((f : Nat) : Int)), (7, .slice (some ⟨g6, 0, none⟩) (n + 1) (n + 1)), (8, .slice (some ⟨g13, 0, none⟩) k21 (m + 1)), (9, .slice (some ⟨g22, 0, none⟩) ((n - m) + 1) ((n - m) + 1)), (10, .int .u64 (((l13.getD (k21 - 1) 0) + 1 : Nat) : Int)), (11, .int .i64 ((j : Nat) : Int))] wr rfl ⟨rfl, rfl, rfl, rfl, rfl, rfl, trivial⟩ ?_
        refine cw_block ?_
        refine cw_seq ?_
        have hwr := hI.wr
        have hb1 := Wfb_getD (b := 4294967296) (by decide) hwr ((j + k21) - 1)
        have hb2 := Wfb_getD (b := 4294967296) (by decide) hwr (j + k21)
        by_cases hjk : j + k21 < n + 1
        ·
          have hT := nb_digit2_le (b := 4294967296) (l := lr) (i := (j + k21) - 1) (i' := j + k21) (by omega) (by omega)
          -- region 14
          refine cw_region ?_
          refine wl_move rfl rfl (by decide) ?_
          refine wl_move rfl rfl (by decide) ?_
          refine wl_move rfl rfl (by decide) ?_
          refine wl_pure rfl rfl (v := .int .i64 ((k21 : Nat) : Int)) (by decide) (by kernel_rfl) ?_
          refine wl_ar rfl rfl rfl ((j + k21 : Nat) : Int) (ai_add (a := j) (b := k21) rfl rfl (by omega)) (by decide) ?_
          refine wl_ar rfl rfl rfl (((j + k21) - 1 : Nat) : Int) (ai_sub (a := j + k21) (b := 1) rfl rfl (by omega) (by omega)) (by decide) ?_
          refine wl_idx rfl rfl rfl un_u64 sz_u64 ((j + k21) - 1) rfl (by omega) ⟨g6, (j + k21) - 1, none⟩ (arr_at _ _) (by decide) ?_
          refine wl_load rfl rfl (load_word ag_u64 hbr (by rw [hlr]; omega)) (by decide) ?_
          refine wl_assign rfl rfl (by decide) ?_
          refine wl_nil ?_
          refine eo_then ?_
          refine cw_seq ?_
          refine cw_seq ?_
          -- region 15
          refine cw_region ?_
          refine wl_move rfl rfl (by decide) ?_
          refine wl_move rfl rfl (by decide) ?_
          refine wl_pure rfl rfl (v := .int .i64 ((k21 : Nat) : Int)) (by decide) (by kernel_rfl) ?_
          refine wl_ar rfl rfl rfl ((j + k21 : Nat) : Int) (ai_add (a := j) (b := k21) rfl rfl (by omega)) (by decide) ?_
          refine wl_move rfl rfl (by decide) ?_
          refine wl_pure rfl rfl (v := .int .i64 (((n + 1) : Nat) : Int)) (by decide) (by kernel_rfl) ?_
          refine wl_cmp rfl rfl rfl true (cb_lt_t (a := j + k21) (b := n + 1) rfl rfl (by omega)) (by decide) ?_
          refine wl_nil ?_
          refine eo_then ?_
          refine cw_true rfl ?_
          -- region 16
          refine cw_region ?_
          refine wl_move rfl rfl (by decide) ?_
          refine wl_move rfl rfl (by decide) ?_
          refine wl_move rfl rfl (by decide) ?_
          refine wl_move rfl rfl (by decide) ?_
          refine wl_pure rfl rfl (v := .int .i64 ((k21 : Nat) : Int)) (by decide) (by kernel_rfl) ?_
          refine wl_ar rfl rfl rfl ((j + k21 : Nat) : Int) (ai_add (a := j) (b := k21) rfl rfl (by omega)) (by decide) ?_
          refine wl_idx rfl rfl rfl un_u64 sz_u64 (j + k21) rfl (by omega) ⟨g6, j + k21, none⟩ (arr_at _ _) (by decide) ?_
          refine wl_load rfl rfl (load_word ag_u64 hbr (by rw [hlr]; omega)) (by decide) ?_
          refine wl_ar rfl rfl rfl (((lr.getD (j + k21) 0) * 4294967296 : Nat) : Int) (au_mul (a := lr.getD (j + k21) 0) (b := 4294967296) rfl rfl (by omega)) (by decide) ?_
          refine wl_ar rfl rfl rfl (((lr.getD ((j + k21) - 1) 0) + ((lr.getD (j + k21) 0) * 4294967296) : Nat) : Int) (au_add (a := lr.getD ((j + k21) - 1) 0) (b := (lr.getD (j + k21) 0) * 4294967296) rfl rfl (by omega)) (by decide) ?_
          refine wl_assign rfl rfl (by decide) ?_
          refine wl_nil ?_
          refine eo_then ?_
          refine cw_seq ?_
          have hfit := dv_fit hhd hkp hT
          have hRlt : nb 4294967296 lr < nb 4294967296 l13 * 4294967296 ^ (j + 1) := Nat.lt_of_le_of_lt (Nat.le_add_left _ _) hI.lt
          by_cases hn0 : ((lr.getD ((j + k21) - 1) 0) + ((lr.getD (j + k21) 0) * 4294967296)) / ((l13.getD (k21 - 1) 0) + 1) = 0
          ·
            by_cases hgo : nb 4294967296 l13 * 4294967296 ^ j ≤ nb 4294967296 lr
            ·
              have hgo1 : 1 * nb 4294967296 l13 * 4294967296 ^ j ≤ nb 4294967296 lr := by rw [Nat.one_mul]; exact hgo
              -- region 17
              refine cw_region ?_
              refine wl_move rfl rfl (by decide) ?_
              refine wl_move rfl rfl (by decide) ?_
              refine wl_ar rfl rfl rfl ((((lr.getD ((j + k21) - 1) 0) + ((lr.getD (j + k21) 0) * 4294967296)) / ((l13.getD (k21 - 1) 0) + 1) : Nat) : Int) (au_quo (a := (lr.getD ((j + k21) - 1) 0) + ((lr.getD (j + k21) 0) * 4294967296)) (b := (l13.getD (k21 - 1) 0) + 1) rfl rfl (by omega) (by omega)) (by decide) ?_
              refine wl_assign rfl rfl (by decide) ?_
              refine wl_nil ?_
              refine eo_then ?_
              refine cw_seq ?_
              refine cw_seq ?_
              -- region 18
              refine cw_region ?_
              refine wl_move rfl rfl (by decide) ?_
              refine wl_cmp rfl rfl rfl true (cb_eq_t (a := ((lr.getD ((j + k21) - 1) 0) + ((lr.getD (j + k21) 0) * 4294967296)) / ((l13.getD (k21 - 1) 0) + 1)) (b := 0) rfl rfl (by omega)) (by decide) ?_
              refine wl_nil ?_
              refine eo_then ?_
              refine cw_true rfl ?_
              refine cw_seq ?_
              -- region 19
              refine cw_region ?_
              refine wl_move rfl rfl (by decide) ?_
              refine wl_move rfl rfl (by decide) ?_
              refine wl_move rfl rfl (by decide) ?_
              refine wl_call rfl rfl (vs := [.slice (some ⟨g6, 0, none⟩) (n + 1) (n + 1), .slice (some ⟨g13, 0, none⟩) k21 (m + 1), .int .i64 ((j : Nat) : Int)]) (by kernel_rfl) (by decide) (ref3_goes' (b := true) (hbr.rd0 hwr.wf hlr (by omega)) (by omega) ((hbd.rd0 hwf13.wf hl13 (by omega)).take (k := k21) (by omega) (by omega) (Nat.le_refl _)) hwr (Wfb_take hwf13 _) (by omega) (dv_big hI rfl hwf13 hvd) (by rw [hvd, decide_eq_true hgo])) ?_
              rintro _ v33 ⟨xr35, rfl, r35, e34⟩
              refine ret_intro ?_
              have hw2 : Ext w v33 := hw1.trans e34
              obtain rfl := r35
              refine wl_assign rfl rfl (by decide) ?_
              refine wl_nil ?_
              refine eo_then ?_
              refine cw_seq ?_
              refine cw_seq ?_
              -- region 20
              refine cw_region ?_
              refine wl_move rfl rfl (by decide) ?_
              refine wl_pure rfl rfl (v := .bool false) (by decide) (by kernel_rfl) ?_
              refine wl_nil ?_
              refine eo_then ?_
              refine cw_false rfl ?_
              refine cw_skip ?_
              refine eo_then ?_
              -- region 21
              refine cw_region ?_
              refine wl_assign rfl rfl (by decide) ?_
              refine wl_nil ?_
              refine eo_then ?_
              refine cw_seq ?_
              -- region 22
              refine cw_region ?_
              refine wl_move rfl rfl (by decide) ?_
              refine wl_move rfl rfl (by decide) ?_
              refine wl_move rfl rfl (by decide) ?_
              refine wl_move rfl rfl (by decide) ?_
              have hqlt := dv_lt hgo1 hRlt
              refine wl_call rfl rfl (vs := [.slice (some ⟨g6, 0, none⟩) (n + 1) (n + 1), .slice (some ⟨g13, 0, none⟩) k21 (m + 1), .int .u64 1, .int .i64 ((j : Nat) : Int)]) (by kernel_rfl) (by decide) (ref3_takeOff (q := 1) (s := j) (hbr.ext e34) hlr (by omega) hwr (((hbd.ext e34).rd0 hwf13.wf hl13 (by omega)).take (k := k21) (by omega) (by omega) (Nat.le_refl _)) (Wfb_take hwf13 _) (fun _ a ha => by cases ha; show g13 ≠ g6; omega) hqlt (by omega) (by rw [hvd]; exact hgo1)) ?_
              rintro _ v36 ⟨rfl, u37, l3, hb38, hl39, hwl3, hv3⟩
              rw [hvd] at hv3
              refine ret_intro ?_
              have hdg := hI.digit hv3
              have hw3 : Ext w v36 := u37.ext hw2 ge7
              refine wl_nil ?_
              refine eo_then ?_
              -- region 23
              refine cw_region ?_
              refine wl_move rfl rfl (by decide) ?_
              refine wl_move rfl rfl (by decide) ?_
              refine wl_move rfl rfl (by decide) ?_
              refine wl_move rfl rfl (by decide) ?_
              refine wl_idx rfl rfl rfl un_u64 sz_u64 j rfl (by omega) ⟨g22, j, none⟩ (arr_at _ _) (by decide) ?_
              refine wl_load rfl rfl (load_word ag_u64 ((hbq.ext e34).updN u37 (by omega)) (by rw [hlq]; omega)) (by decide) ?_
              refine wl_move rfl rfl (by decide) ?_
              refine wl_ar rfl rfl rfl (((lq.getD j 0) + 1 : Nat) : Int) (au_add (a := lq.getD j 0) (b := 1) rfl rfl (by omega)) (by decide) ?_
              refine wl_idx rfl rfl rfl un_u64 sz_u64 j rfl (by omega) ⟨g22, j, none⟩ (arr_at _ _) (by decide) ?_
              have hb41 := ((hbq.ext e34).updN u37 (by omega))
              refine wl_stored1 rfl rfl rfl sz_u64 rfl hb41 (len_map (by rw [hlq]; omega)) rfl ((lq.set j ((lq.getD j 0) + 1)).map W64) (map_W64_set _ _ _) fun v40 hb42 u43 hs44 => ?_
              have hw4 : Ext w v40 := u43.ext hw3 ge27
              refine wl_nil ?_
              refine eo_block_normal ?_
              refine eo_round (⟨v40, _, _⟩ : World × List Nat × List Nat) ⟨hw4, (hb38.updN u43 (by omega)), hl39, (((hbd.ext e34).updN u37 (by omega)).updN u43 (by omega)), hb42, (len_set (l := lq) (hlq)), hI.step (by omega) hwl3 hv3⟩ (dv_less (Nat.le_refl 1) hDp hv3) rfl ⟨rfl, rfl, rfl, rfl, rfl, rfl, trivial⟩
            ·
              -- region 17
              refine cw_region ?_
              refine wl_move rfl rfl (by decide) ?_
              refine wl_move rfl rfl (by decide) ?_
              refine wl_ar rfl rfl rfl ((((lr.getD ((j + k21) - 1) 0) + ((lr.getD (j + k21) 0) * 4294967296)) / ((l13.getD (k21 - 1) 0) + 1) : Nat) : Int) (au_quo (a := (lr.getD ((j + k21) - 1) 0) + ((lr.getD (j + k21) 0) * 4294967296)) (b := (l13.getD (k21 - 1) 0) + 1) rfl rfl (by omega) (by omega)) (by decide) ?_
              refine wl_assign rfl rfl (by decide) ?_
              refine wl_nil ?_
              refine eo_then ?_
              refine cw_seq ?_
              refine cw_seq ?_
              -- region 18
              refine cw_region ?_
              refine wl_move rfl rfl (by decide) ?_
              refine wl_cmp rfl rfl rfl true (cb_eq_t (a := ((lr.getD ((j + k21) - 1) 0) + ((lr.getD (j + k21) 0) * 4294967296)) / ((l13.getD (k21 - 1) 0) + 1)) (b := 0) rfl rfl (by omega)) (by decide) ?_
              refine wl_nil ?_
              refine eo_then ?_
              refine cw_true rfl ?_
              refine cw_seq ?_
              -- region 19
              refine cw_region ?_
              refine wl_move rfl rfl (by decide) ?_
              refine wl_move rfl rfl (by decide) ?_
              refine wl_move rfl rfl (by decide) ?_
              refine wl_call rfl rfl (vs := [.slice (some ⟨g6, 0, none⟩) (n + 1) (n + 1), .slice (some ⟨g13, 0, none⟩) k21 (m + 1), .int .i64 ((j : Nat) : Int)]) (by kernel_rfl) (by decide) (ref3_goes' (b := false) (hbr.rd0 hwr.wf hlr (by omega)) (by omega) ((hbd.rd0 hwf13.wf hl13 (by omega)).take (k := k21) (by omega) (by omega) (Nat.le_refl _)) hwr (Wfb_take hwf13 _) (by omega) (dv_big hI rfl hwf13 hvd) (by rw [hvd, decide_eq_false hgo])) ?_
              rintro _ v45 ⟨xr47, rfl, r47, e46⟩
              refine ret_intro ?_
              have hw2 : Ext w v45 := hw1.trans e46
              obtain rfl := r47
              refine wl_assign rfl rfl (by decide) ?_
              refine wl_nil ?_
              refine eo_then ?_
              refine cw_seq ?_
              refine cw_seq ?_
              -- region 20
              refine cw_region ?_
              refine wl_move rfl rfl (by decide) ?_
              refine wl_pure rfl rfl (v := .bool true) (by decide) (by kernel_rfl) ?_
              refine wl_nil ?_
              refine eo_then ?_
              refine cw_true rfl ?_
              refine cw_exit ?_
              refine eo_thenX ?_
              refine eo_thenX ?_
              refine eo_block_far (by decide) ?_
              refine eo_loopX ?_
              refine eo_block_here ?_
              refine eo_block_normal ?_
              refine eo_then ?_
              -- region 13
              refine cw_region ?_
              refine wl_move rfl rfl (by decide) ?_
              refine wl_ar rfl rfl rfl (((j : Nat) : Int) - 1) (ar_i64s rfl (by omega) (by omega)) (by decide) ?_
              refine wl_assign rfl rfl (by decide) ?_
              refine wl_nil ?_
              refine eo_round (⟨v45, j, _, _, _⟩ : World × Nat × Int × List Nat × List Nat) ⟨hw2, (by omega), (by omega), (hbr.ext e46), hlr, (hbd.ext e46), (hbq.ext e46), hlq, hI.leave hgo⟩ (show j < j + 1 by omega) rfl ⟨rfl, rfl, rfl, rfl, rfl, rfl, trivial⟩
          ·
            -- region 17
            refine cw_region ?_
            refine wl_move rfl rfl (by decide) ?_
            refine wl_move rfl rfl (by decide) ?_
            refine wl_ar rfl rfl rfl ((((lr.getD ((j + k21) - 1) 0) + ((lr.getD (j + k21) 0) * 4294967296)) / ((l13.getD (k21 - 1) 0) + 1) : Nat) : Int) (au_quo (a := (lr.getD ((j + k21) - 1) 0) + ((lr.getD (j + k21) 0) * 4294967296)) (b := (l13.getD (k21 - 1) 0) + 1) rfl rfl (by omega) (by omega)) (by decide) ?_
            refine wl_assign rfl rfl (by decide) ?_
            refine wl_nil ?_
            refine eo_then ?_
            refine cw_seq ?_
            refine cw_seq ?_
            -- region 18
            refine cw_region ?_
            refine wl_move rfl rfl (by decide) ?_
            refine wl_cmp rfl rfl rfl false (cb_eq_f (a := ((lr.getD ((j + k21) - 1) 0) + ((lr.getD (j + k21) 0) * 4294967296)) / ((l13.getD (k21 - 1) 0) + 1)) (b := 0) rfl rfl (by omega)) (by decide) ?_
            refine wl_nil ?_
            refine eo_then ?_
            refine cw_false rfl ?_
            refine cw_skip ?_
            refine eo_then ?_
            refine cw_seq ?_
            -- region 22
            refine cw_region ?_
            refine wl_move rfl rfl (by decide) ?_
            refine wl_move rfl rfl (by decide) ?_
            refine wl_move rfl rfl (by decide) ?_
            refine wl_move rfl rfl (by decide) ?_
            have hqlt := dv_lt hfit hRlt
            refine wl_call rfl rfl (vs := [.slice (some ⟨g6, 0, none⟩) (n + 1) (n + 1), .slice (some ⟨g13, 0, none⟩) k21 (m + 1), .int .u64 ((((lr.getD ((j + k21) - 1) 0) + ((lr.getD (j + k21) 0) * 4294967296)) / ((l13.getD (k21 - 1) 0) + 1) : Nat) : Int), .int .i64 ((j : Nat) : Int)]) (by kernel_rfl) (by decide) (ref3_takeOff (q := ((lr.getD ((j + k21) - 1) 0) + ((lr.getD (j + k21) 0) * 4294967296)) / ((l13.getD (k21 - 1) 0) + 1)) (s := j) hbr hlr (by omega) hwr ((hbd.rd0 hwf13.wf hl13 (by omega)).take (k := k21) (by omega) (by omega) (Nat.le_refl _)) (Wfb_take hwf13 _) (fun _ a ha => by cases ha; show g13 ≠ g6; omega) hqlt (by omega) (by rw [hvd]; exact hfit)) ?_
            rintro _ v48 ⟨rfl, u49, l3, hb50, hl51, hwl3, hv3⟩
            rw [hvd] at hv3
            refine ret_intro ?_
            have hdg := hI.digit hv3
            have hw2 : Ext w v48 := u49.ext hw1 ge7
            refine wl_nil ?_
            refine eo_then ?_
            -- region 23
            refine cw_region ?_
            refine wl_move rfl rfl (by decide) ?_
            refine wl_move rfl rfl (by decide) ?_
            refine wl_move rfl rfl (by decide) ?_
            refine wl_move rfl rfl (by decide) ?_
            refine wl_idx rfl rfl rfl un_u64 sz_u64 j rfl (by omega) ⟨g22, j, none⟩ (arr_at _ _) (by decide) ?_
            refine wl_load rfl rfl (load_word ag_u64 (hbq.updN u49 (by omega)) (by rw [hlq]; omega)) (by decide) ?_
            refine wl_move rfl rfl (by decide) ?_
            refine wl_ar rfl rfl rfl (((lq.getD j 0) + (((lr.getD ((j + k21) - 1) 0) + ((lr.getD (j + k21) 0) * 4294967296)) / ((l13.getD (k21 - 1) 0) + 1)) : Nat) : Int) (au_add (a := lq.getD j 0) (b := ((lr.getD ((j + k21) - 1) 0) + ((lr.getD (j + k21) 0) * 4294967296)) / ((l13.getD (k21 - 1) 0) + 1)) rfl rfl (by omega)) (by decide) ?_
            refine wl_idx rfl rfl rfl un_u64 sz_u64 j rfl (by omega) ⟨g22, j, none⟩ (arr_at _ _) (by decide) ?_
            have hb53 := (hbq.updN u49 (by omega))
            refine wl_stored1 rfl rfl rfl sz_u64 rfl hb53 (len_map (by rw [hlq]; omega)) rfl ((lq.set j ((lq.getD j 0) + (((lr.getD ((j + k21) - 1) 0) + ((lr.getD (j + k21) 0) * 4294967296)) / ((l13.getD (k21 - 1) 0) + 1)))).map W64) (map_W64_set _ _ _) fun v52 hb54 u55 hs56 => ?_
            have hw3 : Ext w v52 := u55.ext hw2 ge27
            refine wl_nil ?_
            refine eo_block_normal ?_
            refine eo_round (⟨v52, _, _⟩ : World × List Nat × List Nat) ⟨hw3, (hb50.updN u55 (by omega)), hl51, ((hbd.updN u49 (by omega)).updN u55 (by omega)), hb54, (len_set (l := lq) (hlq)), hI.step (by omega) hwl3 hv3⟩ (dv_less (Nat.pos_of_ne_zero hn0) hDp hv3) rfl ⟨rfl, rfl, rfl, rfl, rfl, rfl, trivial⟩
        ·
          have hT := nb_digit_le (b := 4294967296) (l := lr) (i := (j + k21) - 1) (by omega)
          -- region 14
          refine cw_region ?_
          refine wl_move rfl rfl (by decide) ?_
          refine wl_move rfl rfl (by decide) ?_
          refine wl_move rfl rfl (by decide) ?_
          refine wl_pure rfl rfl (v := .int .i64 ((k21 : Nat) : Int)) (by decide) (by kernel_rfl) ?_
          refine wl_ar rfl rfl rfl ((j + k21 : Nat) : Int) (ai_add (a := j) (b := k21) rfl rfl (by omega)) (by decide) ?_
          refine wl_ar rfl rfl rfl (((j + k21) - 1 : Nat) : Int) (ai_sub (a := j + k21) (b := 1) rfl rfl (by omega) (by omega)) (by decide) ?_
          refine wl_idx rfl rfl rfl un_u64 sz_u64 ((j + k21) - 1) rfl (by omega) ⟨g6, (j + k21) - 1, none⟩ (arr_at _ _) (by decide) ?_
          refine wl_load rfl rfl (load_word ag_u64 hbr (by rw [hlr]; omega)) (by decide) ?_
          refine wl_assign rfl rfl (by decide) ?_
          refine wl_nil ?_
          refine eo_then ?_
          refine cw_seq ?_
          refine cw_seq ?_
          -- region 15
          refine cw_region ?_
          refine wl_move rfl rfl (by decide) ?_
          refine wl_move rfl rfl (by decide) ?_
          refine wl_pure rfl rfl (v := .int .i64 ((k21 : Nat) : Int)) (by decide) (by kernel_rfl) ?_
          refine wl_ar rfl rfl rfl ((j + k21 : Nat) : Int) (ai_add (a := j) (b := k21) rfl rfl (by omega)) (by decide) ?_
          refine wl_move rfl rfl (by decide) ?_
          refine wl_pure rfl rfl (v := .int .i64 (((n + 1) : Nat) : Int)) (by decide) (by kernel_rfl) ?_
          refine wl_cmp rfl rfl rfl false (cb_lt_f (a := j + k21) (b := n + 1) rfl rfl (by omega)) (by decide) ?_
          refine wl_nil ?_
          refine eo_then ?_
          refine cw_false rfl ?_
          refine cw_skip ?_
          refine eo_then ?_
          refine cw_seq ?_
          have hfit := dv_fit hhd hkp hT
          have hRlt : nb 4294967296 lr < nb 4294967296 l13 * 4294967296 ^ (j + 1) := Nat.lt_of_le_of_lt (Nat.le_add_left _ _) hI.lt
          by_cases hn0 : (lr.getD ((j + k21) - 1) 0) / ((l13.getD (k21 - 1) 0) + 1) = 0
          ·
            by_cases hgo : nb 4294967296 l13 * 4294967296 ^ j ≤ nb 4294967296 lr
            ·
              have hgo1 : 1 * nb 4294967296 l13 * 4294967296 ^ j ≤ nb 4294967296 lr := by rw [Nat.one_mul]; exact hgo
              -- region 17
              refine cw_region ?_
              refine wl_move rfl rfl (by decide) ?_
              refine wl_move rfl rfl (by decide) ?_
              refine wl_ar rfl rfl rfl (((lr.getD ((j + k21) - 1) 0) / ((l13.getD (k21 - 1) 0) + 1) : Nat) : Int) (au_quo (a := lr.getD ((j + k21) - 1) 0) (b := (l13.getD (k21 - 1) 0) + 1) rfl rfl (by omega) (by omega)) (by decide) ?_
              refine wl_assign rfl rfl (by decide) ?_
              refine wl_nil ?_
              refine eo_then ?_
              refine cw_seq ?_
              refine cw_seq ?_
              -- region 18
              refine cw_region ?_
              refine wl_move rfl rfl (by decide) ?_
              refine wl_cmp rfl rfl rfl true (cb_eq_t (a := (lr.getD ((j + k21) - 1) 0) / ((l13.getD (k21 - 1) 0) + 1)) (b := 0) rfl rfl (by omega)) (by decide) ?_
              refine wl_nil ?_
              refine eo_then ?_
              refine cw_true rfl ?_
              refine cw_seq ?_
              -- region 19
              refine cw_region ?_
              refine wl_move rfl rfl (by decide) ?_
              refine wl_move rfl rfl (by decide) ?_
              refine wl_move rfl rfl (by decide) ?_
              refine wl_call rfl rfl (vs := [.slice (some ⟨g6, 0, none⟩) (n + 1) (n + 1), .slice (some ⟨g13, 0, none⟩) k21 (m + 1), .int .i64 ((j : Nat) : Int)]) (by kernel_rfl) (by decide) (ref3_goes' (b := true) (hbr.rd0 hwr.wf hlr (by omega)) (by omega) ((hbd.rd0 hwf13.wf hl13 (by omega)).take (k := k21) (by omega) (by omega) (Nat.le_refl _)) hwr (Wfb_take hwf13 _) (by omega) (dv_big hI rfl hwf13 hvd) (by rw [hvd, decide_eq_true hgo])) ?_
              rintro _ v57 ⟨xr59, rfl, r59, e58⟩
              refine ret_intro ?_
              have hw2 : Ext w v57 := hw1.trans e58
              obtain rfl := r59
              refine wl_assign rfl rfl (by decide) ?_
              refine wl_nil ?_
              refine eo_then ?_
              refine cw_seq ?_
              refine cw_seq ?_
              -- region 20
              refine cw_region ?_
              refine wl_move rfl rfl (by decide) ?_
              refine wl_pure rfl rfl (v := .bool false) (by decide) (by kernel_rfl) ?_
              refine wl_nil ?_
              refine eo_then ?_
              refine cw_false rfl ?_
              refine cw_skip ?_
              refine eo_then ?_
              -- region 21
              refine cw_region ?_
              refine wl_assign rfl rfl (by decide) ?_
              refine wl_nil ?_
              refine eo_then ?_
              refine cw_seq ?_
              -- region 22
              refine cw_region ?_
              refine wl_move rfl rfl (by decide) ?_
              refine wl_move rfl rfl (by decide) ?_
              refine wl_move rfl rfl (by decide) ?_
              refine wl_move rfl rfl (by decide) ?_
              have hqlt := dv_lt hgo1 hRlt
              refine wl_call rfl rfl (vs := [.slice (some ⟨g6, 0, none⟩) (n + 1) (n + 1), .slice (some ⟨g13, 0, none⟩) k21 (m + 1), .int .u64 1, .int .i64 ((j : Nat) : Int)]) (by kernel_rfl) (by decide) (ref3_takeOff (q := 1) (s := j) (hbr.ext e58) hlr (by omega) hwr (((hbd.ext e58).rd0 hwf13.wf hl13 (by omega)).take (k := k21) (by omega) (by omega) (Nat.le_refl _)) (Wfb_take hwf13 _) (fun _ a ha => by cases ha; show g13 ≠ g6; omega) hqlt (by omega) (by rw [hvd]; exact hgo1)) ?_
              rintro _ v60 ⟨rfl, u61, l3, hb62, hl63, hwl3, hv3⟩
              rw [hvd] at hv3
              refine ret_intro ?_
              have hdg := hI.digit hv3
              have hw3 : Ext w v60 := u61.ext hw2 ge7
              refine wl_nil ?_
              refine eo_then ?_
              -- region 23
              refine cw_region ?_
              refine wl_move rfl rfl (by decide) ?_
              refine wl_move rfl rfl (by decide) ?_
              refine wl_move rfl rfl (by decide) ?_
              refine wl_move rfl rfl (by decide) ?_
              refine wl_idx rfl rfl rfl un_u64 sz_u64 j rfl (by omega) ⟨g22, j, none⟩ (arr_at _ _) (by decide) ?_
              refine wl_load rfl rfl (load_word ag_u64 ((hbq.ext e58).updN u61 (by omega)) (by rw [hlq]; omega)) (by decide) ?_
              refine wl_move rfl rfl (by decide) ?_
              refine wl_ar rfl rfl rfl (((lq.getD j 0) + 1 : Nat) : Int) (au_add (a := lq.getD j 0) (b := 1) rfl rfl (by omega)) (by decide) ?_
              refine wl_idx rfl rfl rfl un_u64 sz_u64 j rfl (by omega) ⟨g22, j, none⟩ (arr_at _ _) (by decide) ?_
              have hb65 := ((hbq.ext e58).updN u61 (by omega))
              refine wl_stored1 rfl rfl rfl sz_u64 rfl hb65 (len_map (by rw [hlq]; omega)) rfl ((lq.set j ((lq.getD j 0) + 1)).map W64) (map_W64_set _ _ _) fun v64 hb66 u67 hs68 => ?_
              have hw4 : Ext w v64 := u67.ext hw3 ge27
              refine wl_nil ?_
              refine eo_block_normal ?_
              refine eo_round (⟨v64, _, _⟩ : World × List Nat × List Nat) ⟨hw4, (hb62.updN u67 (by omega)), hl63, (((hbd.ext e58).updN u61 (by omega)).updN u67 (by omega)), hb66, (len_set (l := lq) (hlq)), hI.step (by omega) hwl3 hv3⟩ (dv_less (Nat.le_refl 1) hDp hv3) rfl ⟨rfl, rfl, rfl, rfl, rfl, rfl, trivial⟩
            ·
              -- region 17
              refine cw_region ?_
              refine wl_move rfl rfl (by decide) ?_
              refine wl_move rfl rfl (by decide) ?_
              refine wl_ar rfl rfl rfl (((lr.getD ((j + k21) - 1) 0) / ((l13.getD (k21 - 1) 0) + 1) : Nat) : Int) (au_quo (a := lr.getD ((j + k21) - 1) 0) (b := (l13.getD (k21 - 1) 0) + 1) rfl rfl (by omega) (by omega)) (by decide) ?_
              refine wl_assign rfl rfl (by decide) ?_
              refine wl_nil ?_
              refine eo_then ?_
              refine cw_seq ?_
              refine cw_seq ?_
              -- region 18
              refine cw_region ?_
              refine wl_move rfl rfl (by decide) ?_
              refine wl_cmp rfl rfl rfl true (cb_eq_t (a := (lr.getD ((j + k21) - 1) 0) / ((l13.getD (k21 - 1) 0) + 1)) (b := 0) rfl rfl (by omega)) (by decide) ?_
              refine wl_nil ?_
              refine eo_then ?_
              refine cw_true rfl ?_
              refine cw_seq ?_
              -- region 19
              refine cw_region ?_
              refine wl_move rfl rfl (by decide) ?_
              refine wl_move rfl rfl (by decide) ?_
              refine wl_move rfl rfl (by decide) ?_
              refine wl_call rfl rfl (vs := [.slice (some ⟨g6, 0, none⟩) (n + 1) (n + 1), .slice (some ⟨g13, 0, none⟩) k21 (m + 1), .int .i64 ((j : Nat) : Int)]) (by kernel_rfl) (by decide) (ref3_goes' (b := false) (hbr.rd0 hwr.wf hlr (by omega)) (by omega) ((hbd.rd0 hwf13.wf hl13 (by omega)).take (k := k21) (by omega) (by omega) (Nat.le_refl _)) hwr (Wfb_take hwf13 _) (by omega) (dv_big hI rfl hwf13 hvd) (by rw [hvd, decide_eq_false hgo])) ?_
              rintro _ v69 ⟨xr71, rfl, r71, e70⟩
              refine ret_intro ?_
              have hw2 : Ext w v69 := hw1.trans e70
              obtain rfl := r71
              refine wl_assign rfl rfl (by decide) ?_
              refine wl_nil ?_
              refine eo_then ?_
              refine cw_seq ?_
              refine cw_seq ?_
              -- region 20
              refine cw_region ?_
              refine wl_move rfl rfl (by decide) ?_
              refine wl_pure rfl rfl (v := .bool true) (by decide) (by kernel_rfl) ?_
              refine wl_nil ?_
              refine eo_then ?_
              refine cw_true rfl ?_
              refine cw_exit ?_
              refine eo_thenX ?_
              refine eo_thenX ?_
              refine eo_block_far (by decide) ?_
              refine eo_loopX ?_
              refine eo_block_here ?_
              refine eo_block_normal ?_
              refine eo_then ?_
              -- region 13
              refine cw_region ?_
              refine wl_move rfl rfl (by decide) ?_
              refine wl_ar rfl rfl rfl (((j : Nat) : Int) - 1) (ar_i64s rfl (by omega) (by omega)) (by decide) ?_
              refine wl_assign rfl rfl (by decide) ?_
              refine wl_nil ?_
              refine eo_round (⟨v69, j, _, _, _⟩ : World × Nat × Int × List Nat × List Nat) ⟨hw2, (by omega), (by omega), (hbr.ext e70), hlr, (hbd.ext e70), (hbq.ext e70), hlq, hI.leave hgo⟩ (show j < j + 1 by omega) rfl ⟨rfl, rfl, rfl, rfl, rfl, rfl, trivial⟩
          ·
            -- region 17
            refine cw_region ?_
            refine wl_move rfl rfl (by decide) ?_
            refine wl_move rfl rfl (by decide) ?_
            refine wl_ar rfl rfl rfl (((lr.getD ((j + k21) - 1) 0) / ((l13.getD (k21 - 1) 0) + 1) : Nat) : Int) (au_quo (a := lr.getD ((j + k21) - 1) 0) (b := (l13.getD (k21 - 1) 0) + 1) rfl rfl (by omega) (by omega)) (by decide) ?_
            refine wl_assign rfl rfl (by decide) ?_
            refine wl_nil ?_
            refine eo_then ?_
            refine cw_seq ?_
            refine cw_seq ?_
            -- region 18
            refine cw_region ?_
            refine wl_move rfl rfl (by decide) ?_
            refine wl_cmp rfl rfl rfl false (cb_eq_f (a := (lr.getD ((j + k21) - 1) 0) / ((l13.getD (k21 - 1) 0) + 1)) (b := 0) rfl rfl (by omega)) (by decide) ?_
            refine wl_nil ?_
            refine eo_then ?_
            refine cw_false rfl ?_
            refine cw_skip ?_
            refine eo_then ?_
            refine cw_seq ?_
            -- region 22
            refine cw_region ?_
            refine wl_move rfl rfl (by decide) ?_
            refine wl_move rfl rfl (by decide) ?_
            refine wl_move rfl rfl (by decide) ?_
            refine wl_move rfl rfl (by decide) ?_
            have hqlt := dv_lt hfit hRlt
            refine wl_call rfl rfl (vs := [.slice (some ⟨g6, 0, none⟩) (n + 1) (n + 1), .slice (some ⟨g13, 0, none⟩) k21 (m + 1), .int .u64 (((lr.getD ((j + k21) - 1) 0) / ((l13.getD (k21 - 1) 0) + 1) : Nat) : Int), .int .i64 ((j : Nat) : Int)]) (by kernel_rfl) (by decide) (ref3_takeOff (q := (lr.getD ((j + k21) - 1) 0) / ((l13.getD (k21 - 1) 0) + 1)) (s := j) hbr hlr (by omega) hwr ((hbd.rd0 hwf13.wf hl13 (by omega)).take (k := k21) (by omega) (by omega) (Nat.le_refl _)) (Wfb_take hwf13 _) (fun _ a ha => by cases ha; show g13 ≠ g6; omega) hqlt (by omega) (by rw [hvd]; exact hfit)) ?_
            rintro _ v72 ⟨rfl, u73, l3, hb74, hl75, hwl3, hv3⟩
            rw [hvd] at hv3
            refine ret_intro ?_
            have hdg := hI.digit hv3
            have hw2 : Ext w v72 := u73.ext hw1 ge7
            refine wl_nil ?_
            refine eo_then ?_
            -- region 23
            refine cw_region ?_
            refine wl_move rfl rfl (by decide) ?_
            refine wl_move rfl rfl (by decide) ?_
            refine wl_move rfl rfl (by decide) ?_
            refine wl_move rfl rfl (by decide) ?_
            refine wl_idx rfl rfl rfl un_u64 sz_u64 j rfl (by omega) ⟨g22, j, none⟩ (arr_at _ _) (by decide) ?_
            refine wl_load rfl rfl (load_word ag_u64 (hbq.updN u73 (by omega)) (by rw [hlq]; omega)) (by decide) ?_
            refine wl_move rfl rfl (by decide) ?_
            refine wl_ar rfl rfl rfl (((lq.getD j 0) + ((lr.getD ((j + k21) - 1) 0) / ((l13.getD (k21 - 1) 0) + 1)) : Nat) : Int) (au_add (a := lq.getD j 0) (b := (lr.getD ((j + k21) - 1) 0) / ((l13.getD (k21 - 1) 0) + 1)) rfl rfl (by omega)) (by decide) ?_
            refine wl_idx rfl rfl rfl un_u64 sz_u64 j rfl (by omega) ⟨g22, j, none⟩ (arr_at _ _) (by decide) ?_
            have hb77 := (hbq.updN u73 (by omega))
            refine wl_stored1 rfl rfl rfl sz_u64 rfl hb77 (len_map (by rw [hlq]; omega)) rfl ((lq.set j ((lq.getD j 0) + ((lr.getD ((j + k21) - 1) 0) / ((l13.getD (k21 - 1) 0) + 1)))).map W64) (map_W64_set _ _ _) fun v76 hb78 u79 hs80 => ?_
            have hw3 : Ext w v76 := u79.ext hw2 ge27
            refine wl_nil ?_
            refine eo_block_normal ?_
            refine eo_round (⟨v76, _, _⟩ : World × List Nat × List Nat) ⟨hw3, (hb74.updN u79 (by omega)), hl75, ((hbd.updN u73 (by omega)).updN u79 (by omega)), hb78, (len_set (l := lq) (hlq)), hI.step (by omega) hwl3 hv3⟩ (dv_less (Nat.pos_of_ne_zero hn0) hDp hv3) rfl ⟨rfl, rfl, rfl, rfl, rfl, rfl, trivial⟩
      ·
        obtain rfl : k = 0 := by omega
        -- region 12
        refine cw_region ?_
        refine wl_move rfl rfl (by decide) ?_
        refine wl_cmp rfl rfl rfl false (ge_f (by omega)) (by decide) ?_
        refine wl_nil ?_
        refine eo_then ?_
        refine cw_false rfl ?_
        refine cw_exit ?_
        refine eo_thenX ?_
        refine eo_loopX ?_
        refine eo_block_here ?_
        refine eo_then ?_
        refine cw_seq ?_
        -- region 24
        refine cw_region ?_
        refine wl_assign rfl rfl (by decide) ?_
        refine wl_nil ?_
        refine eo_then ?_
        refine cw_seq ?_
        refine cw_seq ?_
        -- region 25
        refine cw_region ?_
        refine wl_move rfl rfl (by decide) ?_
        refine wl_pure rfl rfl (v := .int .i64 (((n + 1) : Nat) : Int)) (by decide) (by kernel_rfl) ?_
        refine wl_ar rfl rfl rfl (((n + 1) - 1 : Nat) : Int) (ai_sub (a := n + 1) (b := 1) rfl rfl (by omega) (by omega)) (by decide) ?_
        refine wl_assign rfl rfl (by decide) ?_
        refine wl_nil ?_
        refine eo_then ?_
        refine cw_block ?_
        refine cw_loop (T := World × Nat × Int × Nat × List Nat)
          (fun ⟨wr, k, ii, rest, l⟩ => [(6, .int .u64 ((f : Nat) : Int)), (7, .slice (some ⟨g6, 0, none⟩) (n + 1) (n + 1)), (9, .slice (some ⟨g22, 0, none⟩) ((n - m) + 1) ((n - m) + 1)), (15, .int .u64 ((rest : Nat) : Int)), (16, .int .i64 ii)])
          (fun ⟨wr, k, ii, rest, l⟩ => wr)
          (fun ⟨wr, k, ii, rest, l⟩ => (Ext w wr) ∧ (k ≤ n + 1) ∧ (ii = (k : Int) - 1) ∧ (Bk wr g6 47 (l.map W64)) ∧ (Bk wr g22 47 (lq.map W64)) ∧ (DF f lr k rest l))
          (fun ⟨wr, k, ii, rest, l⟩ => k)
          (⟨wr, n + 1, _, 0, lr⟩ : World × Nat × Int × Nat × List Nat) ⟨hw1, Nat.le_refl _, (by omega), hbr, hbq, DF.start hO.wr hf1 hlr⟩ rfl ⟨rfl, rfl, rfl, rfl, rfl, trivial⟩ ?_
        rintro ⟨wr, k, ii, rest, l⟩ ⟨hw1, hk, hii, hbr, hbq, hF⟩
        refine cw_re [(6, .int .u64 ((f : Nat) : Int)), (7, .slice (some ⟨g6, 0, none⟩) (n + 1) (n + 1)), (9, .slice (some ⟨g22, 0, none⟩) ((n - m) + 1) ((n - m) + 1)), (15, .int .u64 ((rest : Nat) : Int)), (16, .int .i64 ii)] wr rfl ⟨rfl, rfl, rfl, rfl, rfl, trivial⟩ ?_
        have hll := hF.len
        rw [hlr] at hll
        refine cw_seq ?_
        refine cw_seq ?_
        by_cases hk0 : 0 < k
        ·
          obtain ⟨j, rfl⟩ : ∃ j, k = j + 1 := ⟨k - 1, by omega⟩
          obtain rfl : ii = (j : Int) := by omega
          -- region 26
          refine cw_region ?_
          refine wl_move rfl rfl (by decide) ?_
          refine wl_cmp rfl rfl rfl true (cb_ge_t (a := j) (b := 0) rfl rfl (by omega)) (by decide) ?_
          refine wl_nil ?_
          refine eo_then ?_
          refine cw_true rfl ?_
          refine cw_skip ?_
          refine eo_then ?_
          refine cw_seq ?_
          refine cw_block ?_
          refine cw_seq ?_
          have hdig := hF.digit
          have hb1 := Wfb_getD (b := 4294967296) (by decide) hF.wf j
          have hrf := hF.rf
          -- region 28
          refine cw_region ?_
          refine wl_move rfl rfl (by decide) ?_
          refine wl_ar rfl rfl rfl ((rest * 4294967296 : Nat) : Int) (au_mul (a := rest) (b := 4294967296) rfl rfl (by omega)) (by decide) ?_
          refine wl_move rfl rfl (by decide) ?_
          refine wl_move rfl rfl (by decide) ?_
          refine wl_idx rfl rfl rfl un_u64 sz_u64 j rfl (by omega) ⟨g6, j, none⟩ (arr_at _ _) (by decide) ?_
          refine wl_load rfl rfl (load_word ag_u64 hbr (by rw [hll]; omega)) (by decide) ?_
          refine wl_ar rfl rfl rfl (((rest * 4294967296) + (l.getD j 0) : Nat) : Int) (au_add (a := rest * 4294967296) (b := l.getD j 0) rfl rfl (by omega)) (by decide) ?_
          refine wl_assign rfl rfl (by decide) ?_
          refine wl_nil ?_
          refine eo_then ?_
          refine cw_seq ?_
          -- region 29
          refine cw_region ?_
          refine wl_move rfl rfl (by decide) ?_
          refine wl_move rfl rfl (by decide) ?_
          refine wl_move rfl rfl (by decide) ?_
          refine wl_move rfl rfl (by decide) ?_
          refine wl_ar rfl rfl rfl ((((rest * 4294967296) + (l.getD j 0)) / f : Nat) : Int) (au_quo (a := (rest * 4294967296) + (l.getD j 0)) (b := f) rfl rfl (by omega) (by omega)) (by decide) ?_
          refine wl_idx rfl rfl rfl un_u64 sz_u64 j rfl (by omega) ⟨g6, j, none⟩ (arr_at _ _) (by decide) ?_
          have hb82 := hbr
          refine wl_stored1 rfl rfl rfl sz_u64 rfl hb82 (len_map (by rw [hll]; omega)) rfl ((l.set j (((rest * 4294967296) + (l.getD j 0)) / f)).map W64) (map_W64_set _ _ _) fun v81 hb83 u84 hs85 => ?_
          have hw2 : Ext w v81 := u84.ext hw1 ge7
          refine wl_nil ?_
          refine eo_then ?_
          -- region 30
          refine cw_region ?_
          refine wl_move rfl rfl (by decide) ?_
          refine wl_move rfl rfl (by decide) ?_
          refine wl_ar rfl rfl rfl ((((rest * 4294967296) + (l.getD j 0)) % f : Nat) : Int) (au_rem (a := (rest * 4294967296) + (l.getD j 0)) (b := f) rfl rfl (by omega)) (by decide) ?_
          refine wl_assign rfl rfl (by decide) ?_
          refine wl_nil ?_
          refine eo_block_normal ?_
          refine eo_then ?_
          -- region 27
          refine cw_region ?_
          refine wl_move rfl rfl (by decide) ?_
          refine wl_ar rfl rfl rfl (((j : Nat) : Int) - 1) (ar_i64s rfl (by omega) (by omega)) (by decide) ?_
          refine wl_assign rfl rfl (by decide) ?_
          refine wl_nil ?_
          refine eo_round (⟨v81, j, _, _, _⟩ : World × Nat × Int × Nat × List Nat) ⟨hw2, (by omega), rfl, hb83, (hbq.updN u84 (by omega)), hF.step (by omega) hdig hf1⟩ (show j < j + 1 by omega) rfl ⟨rfl, rfl, rfl, rfl, rfl, trivial⟩
        ·
          obtain rfl : k = 0 := by omega
          -- region 26
          refine cw_region ?_
          refine wl_move rfl rfl (by decide) ?_
          refine wl_cmp rfl rfl rfl false (ge_f (by omega)) (by decide) ?_
          refine wl_nil ?_
          refine eo_then ?_
          refine cw_false rfl ?_
          refine cw_exit ?_
          refine eo_thenX ?_
          refine eo_loopX ?_
          refine eo_block_here ?_
          refine eo_then ?_
          refine cw_seq ?_
          -- region 31
          refine cw_region ?_
          refine wl_move rfl rfl (by decide) ?_
          refine wl_call rfl rfl (vs := [.slice (some ⟨g22, 0, none⟩) ((n - m) + 1) ((n - m) + 1)]) (by kernel_rfl) (by decide) (ref3_Trim (hbq.rd0 hO.wq.wf hlq (by omega)) (by omega)) ?_
          rintro _ v86 ⟨xr88, rfl, r88, e87⟩
          refine ret_intro ?_
          have hw2 : Ext w v86 := hw1.trans e87
          obtain ⟨k89, rfl, hk89, ht89, hv89⟩ := r88
          refine wl_move rfl rfl (by decide) ?_
          refine wl_call rfl rfl (vs := [.slice (some ⟨g6, 0, none⟩) (n + 1) (n + 1)]) (by kernel_rfl) (by decide) (ref3_Trim ((hbr.ext e87).rd0 hF.wf.wf hll (by omega)) (by omega)) ?_
          rintro _ v90 ⟨xr92, rfl, r92, e91⟩
          refine ret_intro ?_
          have hw3 : Ext w v90 := hw2.trans e91
          obtain ⟨k93, rfl, hk93, ht93, hv93⟩ := r92
          refine wl_assign rfl rfl (by decide) ?_
          refine wl_assign rfl rfl (by decide) ?_
          refine wl_nil ?_
          refine eo_then ?_
          refine cw_ret ?_
          refine eo_ret [.slice (some ⟨g22, 0, none⟩) k89 ((n - m) + 1), .slice (some ⟨g6, 0, none⟩) k93 (n + 1)] rfl ⟨rfl, rfl, trivial⟩ ?_
          obtain ⟨e1, e2⟩ := dv_done hO hD hF
          refine ⟨_, rfl, ⟨_, _, rfl, ⟨_, _, _, rfl, ?_⟩, ⟨_, _, _, rfl, ?_⟩⟩, hw3⟩
          · rw [← e1]; exact ((hbq.ext (e87.trans e91)).rd0 hO.wq.wf hlq (by omega)).trim hO.wq hk89 ht89 hv89
          · rw [← e2]; exact ((hbr.ext (e87.trans e91)).rd0 hF.wf.wf hll (by omega)).trim hF.wf hk93 ht93 hv93

end Go.Proofs.Ytmaconeeonkdgaa

/- trellisref03: DivMod, printed by p_ref3d.py -/
namespace Go.Proofs.Ytmaconeeonkdgaa
open Go.RowKit

theorem ref3_words_ {w : World} {b : Nat} (hb : b ≤ w.heap.size) {A : Option Addr} {n cap m : Nat} (hx : Rd w A n cap (db 4294967296 m)) (hln : n ≤ 1099511627776) :
    Calls Try.prog 111 #[.slice A n cap] w (Gv w (WR b m)) := by
  have h := ref3_words hx hln (Wfb_db b32 _)
  rw [nb_db b32] at h
  exact h.mono (Gv.imp (WR.imp hb))
theorem ref3_divide_ {w : World} {A D : Option Addr} {n cap m cd X Y : Nat} (hx : Rd w A n cap (db 4294967296 X)) (hln : n ≤ 274877906944) (hy : Rd w D m cd (db 4294967296 Y)) (hlm : m ≤ 274877906944) (hY : Y ≠ 0) :
    Calls Try.prog 110 #[.slice A n cap, .slice D m cd] w (Gv w (T2 (WD (X / Y)) (WD (X % Y)))) := by
  have hl := hx.len
  have hl2 := hy.len
  have h1 := db_top b32 X
  have h2 := db_top b32 Y
  rw [hl] at h1
  rw [hl2] at h2
  have hm : 0 < m := by
    refine Nat.pos_of_ne_zero fun e => hY ?_
    rw [← len_db_zero b32 (n := Y), hl2, e]
  have h := ref3_divide hx hln hy hlm (Wfb_db b32 _) (Wfb_db b32 _) h1 hm (by omega)
  rw [nb_db b32, nb_db b32] at h
  exact h
theorem len_db32 {xs : List Nat} (h : Wf xs) : (db 4294967296 (nv xs)).length ≤ 2 * xs.length := by
  refine len_db_le b32 ?_
  have := nv_lt h
  rwa [WB_32, ← Nat.pow_mul] at this
theorem Rd.hl {w : World} {A : Option Addr} {c k : Nat} {xs : List Nat} {m : Nat} {w0 : World} {A0 : Option Addr} {n0 c0 : Nat} (h : Rd w A k c (db 4294967296 m)) (hx : Rd w0 A0 n0 c0 xs) (hm : m ≤ nv xs) : k ≤ 2 * n0 := by
  have h1 := h.len
  have h2 := len_db32 hx.wf
  rw [hx.len] at h2
  have h3 := len_db_mono b32 hm
  omega

set_option maxHeartbeats 4000000 in
theorem ref3_DivMod_ok {w : World} {A D : Option Addr} {n cap m cd : Nat} {xs ys : List Nat} (hx : Rd w A n cap xs) (hln : n ≤ 137438953472) (hy : Rd w D m cd ys) (hlm : m ≤ 137438953472) (hy0 : nv ys ≠ 0) :
    Calls Try.prog 99 #[.slice A n cap, .slice D m cd] w (Gv w (T3 (WR w.heap.size (nv xs / nv ys)) (WR w.heap.size (nv xs % nv ys)) (Is (.int .i64 0)))) := by
  refine sx_enter Try.func99 rfl (n := 28) rfl (Nat.le_of_ble_eq_true rfl) (args := [.slice A n cap, .slice D m cd]) ?_
  refine cw_keep [(0, .slice A n cap), (1, .slice D m cd)] ⟨rfl, rfl, trivial⟩ ?_
  refine cw_seq ?_
  -- region 0
  refine cw_region ?_
  refine wl_assign rfl rfl (by decide) ?_
  refine wl_assign rfl rfl (by decide) ?_
  refine wl_assign rfl rfl (by decide) ?_
  refine wl_nil ?_
  refine eo_then ?_
  refine cw_seq ?_
  -- region 1
  refine cw_region ?_
  refine wl_move rfl rfl (by decide) ?_
  refine wl_call rfl rfl (vs := [.slice D m cd]) (by kernel_rfl) (by decide) (ref3_halves hy (by omega)) ?_
  rintro _ v1 ⟨xr3, rfl, r3, e2⟩
  refine ret_intro ?_
  have hw1 : Ext w v1 := (Ext.refl w).trans e2
  obtain ⟨A4, n4, c4, rfl, rd4⟩ := r3
  refine wl_assign rfl rfl (by decide) ?_
  refine wl_nil ?_
  refine eo_then ?_
  refine cw_seq ?_
  refine cw_seq ?_
  have hdl := rd4.hl hy (Nat.le_refl _)
  have hlz := rd4.len
  have hlp : n4 ≠ 0 := fun e => hy0 (by rw [← len_db_zero b32 (n := nv ys), hlz, e])
  -- region 2
  refine cw_region ?_
  refine wl_move rfl rfl (by decide) ?_
  refine wl_pure rfl rfl (v := .int .i64 ((n4 : Nat) : Int)) (by decide) (by kernel_rfl) ?_
  refine wl_cmp rfl rfl rfl false (cb_eq_f (a := n4) (b := 0) rfl rfl (by omega)) (by decide) ?_
  refine wl_nil ?_
  refine eo_then ?_
  refine cw_false rfl ?_
  refine cw_skip ?_
  refine eo_then ?_
  refine cw_seq ?_
  -- region 4
  refine cw_region ?_
  refine wl_move rfl rfl (by decide) ?_
  refine wl_call rfl rfl (vs := [.slice A n cap]) (by kernel_rfl) (by decide) (ref3_halves (hx.ext e2) (by omega)) ?_
  rintro _ v5 ⟨xr7, rfl, r7, e6⟩
  refine ret_intro ?_
  have hw2 : Ext w v5 := hw1.trans e6
  obtain ⟨A8, n8, c8, rfl, rd8⟩ := r7
  refine wl_assign rfl rfl (by decide) ?_
  refine wl_nil ?_
  refine eo_then ?_
  refine cw_seq ?_
  have hdl2 := rd8.hl hx (Nat.le_refl _)
  -- region 5
  refine cw_region ?_
  refine wl_move rfl rfl (by decide) ?_
  refine wl_move rfl rfl (by decide) ?_
  refine wl_call rfl rfl (vs := [.slice A8 n8 c8, .slice A4 n4 c4]) (by kernel_rfl) (by decide) (ref3_divide_ rd8 (by omega) (rd4.ext e6) (by omega) hy0) ?_
  rintro _ v9 ⟨xr11, rfl, r11, e10⟩
  refine ret_intro ?_
  have hw3 : Ext w v9 := hw2.trans e10
  obtain ⟨a12_0, a12_1, rfl, r12_0, r12_1⟩ := r11
  obtain ⟨A13, n13, c13, rfl, rd13⟩ := r12_0
  obtain ⟨A14, n14, c14, rfl, rd14⟩ := r12_1
  refine wl_move rfl rfl (by decide) ?_
  refine wl_pure rfl rfl (v := .slice A13 n13 c13) (by decide) (by kernel_rfl) ?_
  refine wl_pure rfl rfl (v := .slice A14 n14 c14) (by decide) (by kernel_rfl) ?_
  refine wl_assign rfl rfl (by decide) ?_
  refine wl_assign rfl rfl (by decide) ?_
  refine wl_nil ?_
  refine eo_then ?_
  refine cw_seq ?_
  have hdl3 := rd13.hl hx (Nat.div_le_self _ _)
  have hdl4 := rd14.hl hx (Nat.mod_le _ _)
  -- region 6
  refine cw_region ?_
  refine wl_move rfl rfl (by decide) ?_
  refine wl_call rfl rfl (vs := [.slice A13 n13 c13]) (by kernel_rfl) (by decide) (ref3_words_ hw3.size rd13 (by omega)) ?_
  rintro _ v15 ⟨xr17, rfl, r17, e16⟩
  refine ret_intro ?_
  have hw4 : Ext w v15 := hw3.trans e16
  obtain ⟨A18, n18, c18, rfl, j18, o18⟩ := r17
  refine wl_move rfl rfl (by decide) ?_
  refine wl_call rfl rfl (vs := [.slice A14 n14 c14]) (by kernel_rfl) (by decide) (ref3_words_ hw4.size (rd14.ext e16) (by omega)) ?_
  rintro _ v19 ⟨xr21, rfl, r21, e20⟩
  refine ret_intro ?_
  have hw5 : Ext w v19 := hw4.trans e20
  obtain ⟨A22, n22, c22, rfl, j22, o22⟩ := r21
  refine wl_assign rfl rfl (by decide) ?_
  refine wl_assign rfl rfl (by decide) ?_
  refine wl_assign rfl rfl (by decide) ?_
  refine wl_nil ?_
  refine eo_then ?_
  refine cw_ret ?_
  refine eo_ret [.slice A18 n18 c18, .slice A22 n22 c22, .int .i64 0] rfl ⟨rfl, rfl, rfl, trivial⟩ ?_
  exact ⟨_, rfl, ⟨_, _, _, rfl, ⟨_, _, _, rfl, j18, (o18.ext e20)⟩, ⟨_, _, _, rfl, j22, o22⟩, rfl⟩, hw5⟩
set_option maxHeartbeats 4000000 in
theorem ref3_DivMod_bad {w : World} {A D : Option Addr} {n cap m cd : Nat} {xs ys : List Nat} (hy : Rd w D m cd ys) (hlm : m ≤ 137438953472) (hy0 : nv ys = 0) :
    Calls Try.prog 99 #[.slice A n cap, .slice D m cd] w (Gv w (Is (.tuple #[.slice none 0 0, .slice none 0 0, .int .i64 4]))) := by
  refine sx_enter Try.func99 rfl (n := 28) rfl (Nat.le_of_ble_eq_true rfl) (args := [.slice A n cap, .slice D m cd]) ?_
  refine cw_keep [(0, .slice A n cap), (1, .slice D m cd)] ⟨rfl, rfl, trivial⟩ ?_
  refine cw_seq ?_
  -- region 0
  refine cw_region ?_
  refine wl_assign rfl rfl (by decide) ?_
  refine wl_assign rfl rfl (by decide) ?_
  refine wl_assign rfl rfl (by decide) ?_
  refine wl_nil ?_
  refine eo_then ?_
  refine cw_seq ?_
  -- region 1
  refine cw_region ?_
  refine wl_move rfl rfl (by decide) ?_
  refine wl_call rfl rfl (vs := [.slice D m cd]) (by kernel_rfl) (by decide) (ref3_halves hy (by omega)) ?_
  rintro _ v1 ⟨xr3, rfl, r3, e2⟩
  refine ret_intro ?_
  have hw1 : Ext w v1 := (Ext.refl w).trans e2
  obtain ⟨A4, n4, c4, rfl, rd4⟩ := r3
  refine wl_assign rfl rfl (by decide) ?_
  refine wl_nil ?_
  refine eo_then ?_
  refine cw_seq ?_
  refine cw_seq ?_
  have hdl := rd4.hl hy (Nat.le_refl _)
  have hlz := rd4.len
  rw [hy0, db_zero] at hlz
  simp only [List.length_nil] at hlz
  -- region 2
  refine cw_region ?_
  refine wl_move rfl rfl (by decide) ?_
  refine wl_pure rfl rfl (v := .int .i64 ((n4 : Nat) : Int)) (by decide) (by kernel_rfl) ?_
  refine wl_cmp rfl rfl rfl true (cb_eq_t (a := n4) (b := 0) rfl rfl (by omega)) (by decide) ?_
  refine wl_nil ?_
  refine eo_then ?_
  refine cw_true rfl ?_
  refine cw_seq ?_
  -- region 3
  refine cw_region ?_
  refine wl_assign rfl rfl (by decide) ?_
  refine wl_assign rfl rfl (by decide) ?_
  refine wl_assign rfl rfl (by decide) ?_
  refine wl_nil ?_
  refine eo_then ?_
  refine cw_ret ?_
  refine eo_thenR ?_
  refine eo_ret [.slice none 0 0, .slice none 0 0, .int .i64 4] rfl ⟨rfl, rfl, rfl, trivial⟩ ?_
  exact ⟨_, rfl, rfl, hw1⟩

end Go.Proofs.Ytmaconeeonkdgaa

/- Rules for slices that are written out ([]uint64{x}), and integers over them. -/
namespace Go.Proofs.Ytmaconeeonkdgaa
open Go.RowKit

section
variable {P : Program} {Q : Exit → Act → World → Prop} {n : Nat} {l : Fr} {w : World} {ops : Array Oper} {rest : List Oper} {d : Nat} {op : Op} {ty : TypeId} {pos : String} {af : Array Edge} {gd : Option (Nat × Bool)}
theorem wl_bslice (hw : guardB ops l gd = some true) (hk : known l op = true) (hn : d < n) {k : Nat} {e : TypeId} (cells : List Value)
    (hr : ∀ w, (execOp (rho l) ⟨some d, op, ty, pos, af, gd⟩).run P w = .ok (.value (.slice (some ⟨w.heap.size, 0, none⟩) k k)) (w.alloc (.cells cells.toArray e)))
    (h : ∀ g w', NewBk w w' g e cells → wl P ops Q n rest ((d, .slice (some ⟨g, 0, none⟩) k k) :: l) w') : wl P ops Q n (⟨some d, op, ty, pos, af, gd⟩ :: rest) l w :=
  wl_val hw hn (fun a ha => by rw [exec_known hk ha]; exact hr w) (h _ _ (NewBk.mk' w e cells))
end
/-- a word alone, of its own -/
def O1 (b x : Nat) (v : Value) (w : World) : Prop := ∃ A, v = .slice A 1 1 ∧ Own w b 47 1 A 1 1 [W64 x]
theorem O1.mk_ {w w' : World} {g b x : Nat} (h : NewBk w w' g 47 [W64 x]) (hb : b ≤ w.heap.size) : Own w' b 47 1 (some ⟨g, 0, none⟩) 1 1 [W64 x] :=
  Own.mk_ (by rw [← h.at_]; exact hb) h.bk (Nat.le_refl _) (by rw [len_maxLen]; omega) rfl rfl
theorem own1_wi {w : World} {b x : Nat} {A : Option Addr} (h : Own w b 47 1 A 1 1 [W64 x]) (hx : x ≤ 18446744073709551615) : Wi w A 1 1 x :=
  ⟨[x], h.rd (Wf_one (by rw [WB_def]; omega)), nv_one x⟩
theorem own1_zi {w : World} {b x : Nat} {A : Option Addr} (h : Own w b 47 1 A 1 1 [W64 x]) (hx : x ≤ 18446744073709551615) : Zi w false A 1 1 (x : Int) := (own1_wi h hx).zi false
theorem own1_wd {w : World} {b x : Nat} {A : Option Addr} (h : Own w b 47 1 A 1 1 [W64 x]) (hx : x ≤ 18446744073709551615) (h0 : x ≠ 0) : Own w b 47 1 A 1 1 ((wd x).map W64) := by
  rw [wd_small (by rw [WB_def]; omega) h0]; exact h
theorem len1 {x : Nat} (hx : x ≤ 18446744073709551615) (h0 : x ≠ 0) : 1 = (wd x).length := by rw [wd_small (by rw [WB_def]; omega) h0]; rfl
theorem Zr_neg {w : World} {b m n c : Nat} {A : Option Addr} (h : m ≠ 0) (hn : n = (wd m).length) (ho : Own w b 47 1 A n c ((wd m).map W64)) : Zr w b true A n c (-(m : Int)) :=
  Zr_of (m := m) (s := true) (by rw [sg_lt, decide_eq_true (Nat.pos_of_ne_zero h)]; rfl) hn ho (sg_true m)
/-- an integer of one word, of its own (not always in least form) -/
def ZO (b x : Nat) (v : Value) (w : World) : Prop := ∃ A, v = .agg #[.bool false, .slice A 1 1] ∧ Own w b 47 1 A 1 1 [W64 x]
end Go.Proofs.Ytmaconeeonkdgaa

/- zint: Euclid, Mod, Exact -/
namespace Go.Proofs.Ytmaconeeonkdgaa
open Go.RowKit

theorem ln_tdiv (x y : Int) : ln (x.tdiv y) ≤ ln x := ln_mono (by rw [Int.natAbs_tdiv]; exact Nat.div_le_self _ _)
theorem ln_tmod (x y : Int) : ln (x.tmod y) ≤ ln x := ln_mono (by rw [Int.natAbs_tmod]; exact Nat.mod_le _ _)
theorem ln_tmod' {x y : Int} (h : y ≠ 0) : ln (x.tmod y) ≤ ln y := ln_mono (Nat.le_of_lt (tmod_abs h))
theorem ediv_pos {x y : Int} (h : 0 ≤ x.tmod y) : x.tdiv y = x / y ∧ x.tmod y = x % y := by
  have h1 := Int.tdiv_mul_add_tmod x y
  rcases Int.lt_trichotomy y 0 with hy | hy | hy
  · have h2 : x.tmod y < -y := by have := tmod_abs (x := x) (y := y) (by omega); omega
    have e : x.tmod y = x % y := by
      have : x % y = (x.tmod y + y * x.tdiv y) % y := by rw [Int.mul_comm y]; congr 1; omega
      rw [this, Int.add_mul_emod_self_left, ← Int.emod_neg, Int.emod_eq_of_lt h h2]
    refine ⟨?_, e⟩
    have h3 := Int.mul_ediv_add_emod x y
    rw [← e] at h3
    refine Int.eq_of_mul_eq_mul_left (a := y) (by omega) ?_
    rw [Int.mul_comm y (x.tdiv y)]; omega
  · subst hy; simp
  · have h2 := Int.tmod_lt_of_pos x hy
    have e : x.tmod y = x % y := by
      have : x % y = (x.tmod y + y * x.tdiv y) % y := by rw [Int.mul_comm y]; congr 1; omega
      rw [this, Int.add_mul_emod_self_left, Int.emod_eq_of_lt h h2]
    refine ⟨?_, e⟩
    have h3 := Int.mul_ediv_add_emod x y
    rw [← e] at h3
    refine Int.eq_of_mul_eq_mul_left (a := y) (by omega) ?_
    rw [Int.mul_comm y (x.tdiv y)]; omega
theorem ediv_neg' {x y : Int} (h : x.tmod y < 0) (hy : y < 0) : x.tdiv y + 1 = x / y ∧ x.tmod y - y = x % y := by
  have h1 := Int.tdiv_mul_add_tmod x y
  have h2 : -(x.tmod y) < -y := by have := tmod_abs (x := x) (y := y) (by omega); omega
  have e : x.tmod y - y = x % y := by
    have : x % y = ((x.tmod y - y) + y * (x.tdiv y + 1)) % y := by rw [Int.mul_add, Int.mul_comm y]; congr 1; omega
    rw [this, Int.add_mul_emod_self_left, ← Int.emod_neg, Int.emod_eq_of_lt (by omega) (by omega)]
  refine ⟨?_, e⟩
  have h3 := Int.mul_ediv_add_emod x y
  rw [← e] at h3
  refine Int.eq_of_mul_eq_mul_left (a := y) (by omega) ?_
  rw [Int.mul_add, Int.mul_comm y (x.tdiv y)]; omega
theorem ediv_pos' {x y : Int} (h : x.tmod y < 0) (hy : 0 < y) : x.tdiv y - 1 = x / y ∧ x.tmod y + y = x % y := by
  have h1 := Int.tdiv_mul_add_tmod x y
  have h2 : -(x.tmod y) < y := by have := tmod_abs (x := x) (y := y) (by omega); omega
  have e : x.tmod y + y = x % y := by
    have : x % y = ((x.tmod y + y) + y * (x.tdiv y - 1)) % y := by rw [Int.mul_sub, Int.mul_comm y]; congr 1; omega
    rw [this, Int.add_mul_emod_self_left, Int.emod_eq_of_lt (by omega) (by omega)]
  refine ⟨?_, e⟩
  have h3 := Int.mul_ediv_add_emod x y
  rw [← e] at h3
  refine Int.eq_of_mul_eq_mul_left (a := y) (by omega) ?_
  rw [Int.mul_sub, Int.mul_comm y (x.tdiv y)]; omega

set_option maxHeartbeats 4000000 in
theorem g_zint_EuclidI {w : World} {sa : Bool} {Aa : Option Addr} {na ca : Nat} {x : Int} {sb : Bool} {Ab : Option Addr} {nb cb : Nat} {y : Int} (hx : Zi w sa Aa na ca x) (la : na ≤ 68719476736) (hy : Zi w sb Ab nb cb y) (lb : nb ≤ 68719476736) (h0 : y ≠ 0) :
    Calls Try.prog 89 #[.agg #[.bool sa, .slice Aa na ca], .agg #[.bool sb, .slice Ab nb cb]] w (Gv w (T3 (ZR w.heap.size (x / y)) (ZR w.heap.size (x % y)) (Is (.int .i64 0)))) := by
  have Lx : ln x ≤ 68719476736 := Nat.le_trans hx.ln la
  have Ly : ln y ≤ 68719476736 := Nat.le_trans hy.ln lb
  refine sx_enter Try.func89 rfl (n := 41) rfl (Nat.le_of_ble_eq_true rfl) (args := [.agg #[.bool sa, .slice Aa na ca], .agg #[.bool sb, .slice Ab nb cb]]) ?_
  refine cw_keep [(0, .agg #[.bool sa, .slice Aa na ca]), (1, .agg #[.bool sb, .slice Ab nb cb])] ⟨rfl, rfl, trivial⟩ ?_
  refine cw_seq ?_
  -- region 0
  refine cw_region ?_
  refine wl_box rfl rfl (vs := [.bool sa, .slice Aa na ca]) rfl (by decide) fun g1 v2 nb => ?_
  have hb4 := nb.bk
  have ge5 : w.heap.size ≤ g1 := by rw [← nb.at_]; exact (Ext.refl w).size
  have e3 := nb.ext
  clear nb
  have hw1 : Ext w v2 := (Ext.refl w).trans e3
  refine wl_box rfl rfl (vs := [.bool sb, .slice Ab nb cb]) rfl (by decide) fun g6 v7 nb => ?_
  have hb9 := nb.bk
  have ge10 : w.heap.size ≤ g6 := by rw [← nb.at_]; exact hw1.size
  have q11 : g1 < g6 := by rw [← nb.at_]; exact hb4.lt
  have e8 := nb.ext
  clear nb
  have hw2 : Ext w v7 := hw1.trans e8
  refine wl_alloc rfl (z := .agg #[.bool false, .slice none 0 0]) (vs := [.bool false, .slice none 0 0]) (fun _ => by kernel_rfl) rfl (by decide) fun g12 v13 nb => ?_
  have hb15 := nb.bk
  have ge16 : w.heap.size ≤ g12 := by rw [← nb.at_]; exact hw2.size
  have q17 : g6 < g12 := by rw [← nb.at_]; exact hb9.lt
  have e14 := nb.ext
  clear nb
  have hw3 : Ext w v13 := hw2.trans e14
  refine wl_alloc rfl (z := .agg #[.bool false, .slice none 0 0]) (vs := [.bool false, .slice none 0 0]) (fun _ => by kernel_rfl) rfl (by decide) fun g18 v19 nb => ?_
  have hb21 := nb.bk
  have ge22 : w.heap.size ≤ g18 := by rw [← nb.at_]; exact hw3.size
  have q23 : g12 < g18 := by rw [← nb.at_]; exact hb15.lt
  have e20 := nb.ext
  clear nb
  have hw4 : Ext w v19 := hw3.trans e20
  refine wl_assign rfl rfl (by decide) ?_
  refine wl_nil ?_
  refine eo_then ?_
  refine cw_seq ?_
  -- region 1
  refine cw_region ?_
  refine wl_load rfl rfl (load_agg aggInt (hb4.ext (e8.trans (e14.trans e20))) [.bool sa, .slice Aa na ca] rfl (Nat.le_of_ble_eq_true rfl) rfl) (by decide) ?_
  refine wl_load rfl rfl (load_agg aggInt (hb9.ext (e14.trans e20)) [.bool sb, .slice Ab nb cb] rfl (Nat.le_of_ble_eq_true rfl) rfl) (by decide) ?_
  have L24 : ln ((x).tdiv y) ≤ 68719476736 := Nat.le_trans (ln_tdiv _ _) Lx
  have L25 : ln ((x).tmod y) ≤ 68719476736 := Nat.le_trans (ln_tmod _ _) Lx
  refine wl_call rfl rfl (vs := [.agg #[.bool sa, .slice Aa na ca], .agg #[.bool sb, .slice Ab nb cb]]) (by kernel_rfl) (by decide) (g_zint_Trunc hw4.size (hx.ext hw4) (Nat.le_trans la (by decide)) (hy.ext hw4) (Nat.le_trans lb (by decide)) h0) ?_
  rintro _ v26 ⟨xr28, rfl, r28, e27⟩
  refine ret_intro ?_
  have hw5 : Ext w v26 := hw4.trans e27
  obtain ⟨a29_0, a29_1, a29_2, rfl, r29_0, r29_1, r29_2⟩ := r28
  obtain ⟨s30, A30, n30, c30, rfl, z30⟩ := r29_0
  obtain ⟨s31, A31, n31, c31, rfl, z31⟩ := r29_1
  obtain rfl := r29_2
  refine wl_move rfl rfl (by decide) ?_
  refine wl_pure rfl rfl (v := .agg #[.bool s30, .slice A30 n30 c30]) (by decide) (by kernel_rfl) ?_
  refine wl_pure rfl rfl (v := .agg #[.bool s31, .slice A31 n31 c31]) (by decide) (by kernel_rfl) ?_
  refine wl_pure rfl rfl (v := .int .i64 0) (by decide) (by kernel_rfl) ?_
  refine wl_alloc rfl (z := .agg #[.bool false, .slice none 0 0]) (vs := [.bool false, .slice none 0 0]) (fun _ => by kernel_rfl) rfl (by decide) fun g32 v33 nb => ?_
  have hb35 := nb.bk
  have ge36 : w.heap.size ≤ g32 := by rw [← nb.at_]; exact hw5.size
  have q37 : g18 < g32 := by rw [← nb.at_]; exact (hb21.ext e27).lt
  have e34 := nb.ext
  clear nb
  have hw6 : Ext w v33 := hw5.trans e34
  refine wl_alloc rfl (z := .agg #[.bool false, .slice none 0 0]) (vs := [.bool false, .slice none 0 0]) (fun _ => by kernel_rfl) rfl (by decide) fun g38 v39 nb => ?_
  have hb41 := nb.bk
  have ge42 : w.heap.size ≤ g38 := by rw [← nb.at_]; exact hw6.size
  have q43 : g32 < g38 := by rw [← nb.at_]; exact hb35.lt
  have e40 := nb.ext
  clear nb
  have hw7 : Ext w v39 := hw6.trans e40
  have hb45 := (hb35.ext e40)
  refine wl_stored rfl rfl rfl aggInt rfl hb45 (Nat.le_of_ble_eq_true rfl) rfl [.bool s30, .slice A30 n30 c30] rfl fun v44 hb46 u47 hs48 => ?_
  have hw8 : Ext w v44 := u47.ext hw7 ge36
  have hb50 := (hb41.updN u47 (by omega))
  refine wl_stored rfl rfl rfl aggInt rfl hb50 (Nat.le_of_ble_eq_true rfl) rfl [.bool s31, .slice A31 n31 c31] rfl fun v49 hb51 u52 hs53 => ?_
  have hw9 : Ext w v49 := u52.ext hw8 ge42
  refine wl_assign rfl rfl (by decide) ?_
  refine wl_nil ?_
  refine eo_then ?_
  refine cw_seq ?_
  refine cw_seq ?_
  by_cases hr : x.tmod y < 0
  ·
    obtain rfl : s31 = true := by rw [z31.sgn]; exact decide_eq_true hr
    -- region 2
    refine cw_region ?_
    refine wl_move rfl rfl (by decide) ?_
    refine wl_pure rfl rfl (v := .bool false) (by decide) (by kernel_rfl) ?_
    refine wl_move rfl rfl (by decide) ?_
    refine wl_pure rfl rfl (v := .pointer (some ⟨g38, 0, none⟩)) (by decide) (by kernel_rfl) ?_
    refine wl_load rfl rfl (load_cell cellBool hb51 rfl) (by decide) ?_
    refine wl_pure rfl rfl (v := .bool false) (by decide) (by kernel_rfl) ?_
    refine wl_pure rfl rfl (v := .bool false) (by decide) (by kernel_rfl) ?_
    refine wl_nil ?_
    refine eo_then ?_
    refine cw_false rfl ?_
    refine cw_skip ?_
    refine eo_then ?_
    refine cw_seq ?_
    refine cw_seq ?_
    by_cases hyn : y < 0
    ·
      obtain rfl : sb = true := by rw [hy.sgn h0]; exact decide_eq_true hyn
      have hq := ediv_neg' hr hyn
      -- region 4
      refine cw_region ?_
      refine wl_pure rfl rfl (v := .pointer (some ⟨g6, 0, none⟩)) (by decide) (by kernel_rfl) ?_
      refine wl_load rfl rfl (load_cell cellBool (((hb9.ext (e14.trans (e20.trans (e27.trans (e34.trans e40))))).updN u47 (by omega)).updN u52 (by omega)) rfl) (by decide) ?_
      refine wl_nil ?_
      refine eo_then ?_
      refine cw_true rfl ?_
      refine cw_seq ?_
      -- region 5, in whatever order
      have L55 : ln ((x.tdiv y) + 1) ≤ 68719476737 := Nat.le_trans (ln_add L24 (show ln (1) ≤ 1 by decide +kernel)) (by decide)
      have L57 : ln ((x.tmod y) - y) ≤ 68719476737 := Nat.le_trans (ln_sub L25 Ly) (by decide)
      refine cw_draw mix 6 [] [Is (.agg #[.bool s30, .slice A30 n30 c30]), ZR w.heap.size (1), ZR w.heap.size ((x.tdiv y) + 1), Is (.agg #[.bool true, .slice A31 n31 c31]), Is (.agg #[.bool true, .slice Ab nb cb]), ZR w.heap.size ((x.tmod y) - y)] [[], [], [0, 1], [], [], [3, 4]] [[], [], [0, 1], [], [], [0, 1, 2, 3, 4], [0, 1, 2, 3, 4, 5], [0, 1, 2, 3, 4, 5, 6], [0, 1, 2, 3, 4, 5, 6, 7]] rfl
        (obs_cons rfl rfl (hob rfl rfl ?_) (obs_cons rfl rfl (hob rfl rfl ?_) (obs_cons rfl rfl (hob rfl rfl ?_) (obs_cons rfl rfl (hob rfl rfl ?_) (obs_cons rfl rfl (hob rfl rfl ?_) (obs_cons rfl rfl (hob rfl rfl ?_) obs_nil)))))) ?_
      · -- 0
        intro v59 e60
        have hw10 : Ext w v59 := hw9.trans e60
        refine deps_nil ?_
        refine wl_load rfl rfl (load_agg aggInt ((hb46.updN u52 (by omega)).ext e60) [.bool s30, .slice A30 n30 c30] rfl (Nat.le_of_ble_eq_true rfl) rfl) (by decide) ?_
        exact pi_done rfl (Ext.refl _) rfl
      · -- 1
        intro v61 e62
        have hw10 : Ext w v61 := hw9.trans e62
        refine deps_nil ?_
        refine wl_call rfl rfl (vs := [.int .i64 1]) (by kernel_rfl) (by decide) (g_zint_Of hw10.size (by decide) (by decide)) ?_
        rintro _ v63 ⟨xr65, rfl, r65, e64⟩
        refine ret_intro ?_
        have hw11 : Ext w v63 := hw10.trans e64
        obtain ⟨s66, A66, n66, c66, rfl, z66⟩ := r65
        exact pi_done rfl e64 ⟨_, _, _, _, rfl, z66⟩
      · -- 2
        intro v67 e68
        have hw10 : Ext w v67 := hw9.trans e68
        refine deps_cons rfl rfl fun x69 y70 h71 e72 f73 => ?_
        obtain rfl := h71
        refine deps_cons rfl rfl fun x74 y75 h76 e77 f78 => ?_
        obtain ⟨s79, A79, n79, c79, rfl, z79⟩ := h76
        have z79 := z79.ext f78
        refine deps_nil ?_
        have L80 : ln ((x.tdiv y) + 1) ≤ 68719476737 := Nat.le_trans (ln_add L24 (show ln (1) ≤ 1 by decide +kernel)) (by decide)
        refine wl_call rfl rfl (vs := [.agg #[.bool s30, .slice A30 n30 c30], .agg #[.bool s79, .slice A79 n79 c79]]) (by kernel_rfl) (by decide) (g_zint_Add hw10.size ((((z30.ext (e34.trans e40)).updT hb45 u47).updT hb50 u52).ext e68).zi (z30.le (Nat.le_trans L24 (by decide))) z79.zi (z79.le (Nat.le_trans (show ln (1) ≤ 1 by decide +kernel) (by decide)))) ?_
        rintro _ v81 ⟨xr83, rfl, r83, e82⟩
        refine ret_intro ?_
        have hw11 : Ext w v81 := hw10.trans e82
        obtain ⟨s84, A84, n84, c84, rfl, z84⟩ := r83
        exact pi_done rfl e82 ⟨_, _, _, _, rfl, z84⟩
      · -- 3
        intro v85 e86
        have hw10 : Ext w v85 := hw9.trans e86
        refine deps_nil ?_
        refine wl_load rfl rfl (load_agg aggInt (hb51.ext e86) [.bool true, .slice A31 n31 c31] rfl (Nat.le_of_ble_eq_true rfl) rfl) (by decide) ?_
        exact pi_done rfl (Ext.refl _) rfl
      · -- 4
        intro v87 e88
        have hw10 : Ext w v87 := hw9.trans e88
        refine deps_nil ?_
        refine wl_load rfl rfl (load_agg aggInt ((((hb9.ext (e14.trans (e20.trans (e27.trans (e34.trans e40))))).updN u47 (by omega)).updN u52 (by omega)).ext e88) [.bool true, .slice Ab nb cb] rfl (Nat.le_of_ble_eq_true rfl) rfl) (by decide) ?_
        exact pi_done rfl (Ext.refl _) rfl
      · -- 5
        intro v89 e90
        have hw10 : Ext w v89 := hw9.trans e90
        refine deps_cons rfl rfl fun x91 y92 h93 e94 f95 => ?_
        obtain rfl := h93
        refine deps_cons rfl rfl fun x96 y97 h98 e99 f100 => ?_
        obtain rfl := h98
        refine deps_nil ?_
        have L101 : ln ((x.tmod y) - y) ≤ 68719476737 := Nat.le_trans (ln_sub L25 Ly) (by decide)
        refine wl_call rfl rfl (vs := [.agg #[.bool true, .slice A31 n31 c31], .agg #[.bool true, .slice Ab nb cb]]) (by kernel_rfl) (by decide) (g_zint_Sub hw10.size ((((z31.ext (e34.trans e40)).updT hb45 u47).updT hb50 u52).ext e90).zi (z31.le (Nat.le_trans L25 (by decide))) (hy.ext hw10) (Nat.le_trans lb (by decide))) ?_
        rintro _ v102 ⟨xr104, rfl, r104, e103⟩
        refine ret_intro ?_
        have hw11 : Ext w v102 := hw10.trans e103
        obtain ⟨s105, A105, n105, c105, rfl, z105⟩ := r104
        exact pi_done rfl e103 ⟨_, _, _, _, rfl, z105⟩
      · -- all
        intro v106 e107
        have hw10 : Ext w v106 := hw9.trans e107
        refine deps_cons rfl rfl fun x108 y109 h110 e111 f112 => ?_
        obtain rfl := h110
        refine deps_cons rfl rfl fun x113 y114 h115 e116 f117 => ?_
        obtain ⟨s118, A118, n118, c118, rfl, z118⟩ := h115
        have z118 := z118.ext f117
        refine deps_cons rfl rfl fun x119 y120 h121 e122 f123 => ?_
        obtain ⟨s124, A124, n124, c124, rfl, z124⟩ := h121
        have z124 := z124.ext f123
        refine deps_cons rfl rfl fun x125 y126 h127 e128 f129 => ?_
        obtain rfl := h127
        refine deps_cons rfl rfl fun x130 y131 h132 e133 f134 => ?_
        obtain rfl := h132
        refine deps_cons rfl rfl fun x135 y136 h137 e138 f139 => ?_
        obtain ⟨s140, A140, n140, c140, rfl, z140⟩ := h137
        have z140 := z140.ext f139
        refine deps_nil ?_
        have hb142 := ((((hb15.ext (e20.trans (e27.trans (e34.trans e40)))).updN u47 (by omega)).updN u52 (by omega)).ext e107)
        refine wl_stored rfl rfl rfl aggInt rfl hb142 (Nat.le_of_ble_eq_true rfl) rfl [.bool s124, .slice A124 n124 c124] rfl fun v141 hb143 u144 hs145 => ?_
        have hw11 : Ext w v141 := u144.ext hw10 ge16
        have hb147 := (((((hb21.ext (e27.trans (e34.trans e40))).updN u47 (by omega)).updN u52 (by omega)).ext e107).updN u144 (by omega))
        refine wl_stored rfl rfl rfl aggInt rfl hb147 (Nat.le_of_ble_eq_true rfl) rfl [.bool s140, .slice A140 n140 c140] rfl fun v146 hb148 u149 hs150 => ?_
        have hw12 : Ext w v146 := u149.ext hw11 ge22
        refine wl_assign rfl rfl (by decide) ?_
        refine wl_nil ?_
        refine eo_np ?_
        refine eo_then ?_
        refine cw_ret ?_
        refine eo_thenR ?_
        refine eo_ret [.agg #[.bool s124, .slice A124 n124 c124], .agg #[.bool s140, .slice A140 n140 c140], .int .i64 0] rfl ⟨⟨_, rfl, load_agg aggInt (hb143.updN u149 (by omega)) [.bool s124, .slice A124 n124 c124] rfl (Nat.le_of_ble_eq_true rfl) rfl⟩, ⟨_, rfl, load_agg aggInt hb148 [.bool s140, .slice A140 n140 c140] rfl (Nat.le_of_ble_eq_true rfl) rfl⟩, rfl, trivial⟩ ?_
        exact ⟨_, rfl, ⟨_, _, _, rfl, ⟨_, _, _, _, rfl, (((z124.updT hb142 u144).updT hb147 u149)).cast (hq.1)⟩, ⟨_, _, _, _, rfl, (((z140.updT hb142 u144).updT hb147 u149)).cast (hq.2)⟩, rfl⟩, hw12⟩
    ·
      obtain rfl : sb = false := by rw [hy.sgn h0]; exact decide_eq_false hyn
      have hq := ediv_pos' hr (by omega)
      -- region 4
      refine cw_region ?_
      refine wl_pure rfl rfl (v := .pointer (some ⟨g6, 0, none⟩)) (by decide) (by kernel_rfl) ?_
      refine wl_load rfl rfl (load_cell cellBool (((hb9.ext (e14.trans (e20.trans (e27.trans (e34.trans e40))))).updN u47 (by omega)).updN u52 (by omega)) rfl) (by decide) ?_
      refine wl_nil ?_
      refine eo_then ?_
      refine cw_false rfl ?_
      refine cw_skip ?_
      refine eo_then ?_
      refine cw_seq ?_
      -- region 6, in whatever order
      have L152 : ln ((x.tdiv y) - 1) ≤ 68719476737 := Nat.le_trans (ln_sub L24 (show ln (1) ≤ 1 by decide +kernel)) (by decide)
      have L154 : ln ((x.tmod y) + y) ≤ 68719476737 := Nat.le_trans (ln_add L25 Ly) (by decide)
      refine cw_draw mix 6 [] [Is (.agg #[.bool s30, .slice A30 n30 c30]), ZR w.heap.size (1), ZR w.heap.size ((x.tdiv y) - 1), Is (.agg #[.bool true, .slice A31 n31 c31]), Is (.agg #[.bool false, .slice Ab nb cb]), ZR w.heap.size ((x.tmod y) + y)] [[], [], [0, 1], [], [], [3, 4]] [[], [], [0, 1], [], [], [0, 1, 2, 3, 4], [0, 1, 2, 3, 4, 5], [0, 1, 2, 3, 4, 5, 6], [0, 1, 2, 3, 4, 5, 6, 7]] rfl
        (obs_cons rfl rfl (hob rfl rfl ?_) (obs_cons rfl rfl (hob rfl rfl ?_) (obs_cons rfl rfl (hob rfl rfl ?_) (obs_cons rfl rfl (hob rfl rfl ?_) (obs_cons rfl rfl (hob rfl rfl ?_) (obs_cons rfl rfl (hob rfl rfl ?_) obs_nil)))))) ?_
      · -- 0
        intro v156 e157
        have hw10 : Ext w v156 := hw9.trans e157
        refine deps_nil ?_
        refine wl_load rfl rfl (load_agg aggInt ((hb46.updN u52 (by omega)).ext e157) [.bool s30, .slice A30 n30 c30] rfl (Nat.le_of_ble_eq_true rfl) rfl) (by decide) ?_
        exact pi_done rfl (Ext.refl _) rfl
      · -- 1
        intro v158 e159
        have hw10 : Ext w v158 := hw9.trans e159
        refine deps_nil ?_
        refine wl_call rfl rfl (vs := [.int .i64 1]) (by kernel_rfl) (by decide) (g_zint_Of hw10.size (by decide) (by decide)) ?_
        rintro _ v160 ⟨xr162, rfl, r162, e161⟩
        refine ret_intro ?_
        have hw11 : Ext w v160 := hw10.trans e161
        obtain ⟨s163, A163, n163, c163, rfl, z163⟩ := r162
        exact pi_done rfl e161 ⟨_, _, _, _, rfl, z163⟩
      · -- 2
        intro v164 e165
        have hw10 : Ext w v164 := hw9.trans e165
        refine deps_cons rfl rfl fun x166 y167 h168 e169 f170 => ?_
        obtain rfl := h168
        refine deps_cons rfl rfl fun x171 y172 h173 e174 f175 => ?_
        obtain ⟨s176, A176, n176, c176, rfl, z176⟩ := h173
        have z176 := z176.ext f175
        refine deps_nil ?_
        have L177 : ln ((x.tdiv y) - 1) ≤ 68719476737 := Nat.le_trans (ln_sub L24 (show ln (1) ≤ 1 by decide +kernel)) (by decide)
        refine wl_call rfl rfl (vs := [.agg #[.bool s30, .slice A30 n30 c30], .agg #[.bool s176, .slice A176 n176 c176]]) (by kernel_rfl) (by decide) (g_zint_Sub hw10.size ((((z30.ext (e34.trans e40)).updT hb45 u47).updT hb50 u52).ext e165).zi (z30.le (Nat.le_trans L24 (by decide))) z176.zi (z176.le (Nat.le_trans (show ln (1) ≤ 1 by decide +kernel) (by decide)))) ?_
        rintro _ v178 ⟨xr180, rfl, r180, e179⟩
        refine ret_intro ?_
        have hw11 : Ext w v178 := hw10.trans e179
        obtain ⟨s181, A181, n181, c181, rfl, z181⟩ := r180
        exact pi_done rfl e179 ⟨_, _, _, _, rfl, z181⟩
      · -- 3
        intro v182 e183
        have hw10 : Ext w v182 := hw9.trans e183
        refine deps_nil ?_
        refine wl_load rfl rfl (load_agg aggInt (hb51.ext e183) [.bool true, .slice A31 n31 c31] rfl (Nat.le_of_ble_eq_true rfl) rfl) (by decide) ?_
        exact pi_done rfl (Ext.refl _) rfl
      · -- 4
        intro v184 e185
        have hw10 : Ext w v184 := hw9.trans e185
        refine deps_nil ?_
        refine wl_load rfl rfl (load_agg aggInt ((((hb9.ext (e14.trans (e20.trans (e27.trans (e34.trans e40))))).updN u47 (by omega)).updN u52 (by omega)).ext e185) [.bool false, .slice Ab nb cb] rfl (Nat.le_of_ble_eq_true rfl) rfl) (by decide) ?_
        exact pi_done rfl (Ext.refl _) rfl
      · -- 5
        intro v186 e187
        have hw10 : Ext w v186 := hw9.trans e187
        refine deps_cons rfl rfl fun x188 y189 h190 e191 f192 => ?_
        obtain rfl := h190
        refine deps_cons rfl rfl fun x193 y194 h195 e196 f197 => ?_
        obtain rfl := h195
        refine deps_nil ?_
        have L198 : ln ((x.tmod y) + y) ≤ 68719476737 := Nat.le_trans (ln_add L25 Ly) (by decide)
        refine wl_call rfl rfl (vs := [.agg #[.bool true, .slice A31 n31 c31], .agg #[.bool false, .slice Ab nb cb]]) (by kernel_rfl) (by decide) (g_zint_Add hw10.size ((((z31.ext (e34.trans e40)).updT hb45 u47).updT hb50 u52).ext e187).zi (z31.le (Nat.le_trans L25 (by decide))) (hy.ext hw10) (Nat.le_trans lb (by decide))) ?_
        rintro _ v199 ⟨xr201, rfl, r201, e200⟩
        refine ret_intro ?_
        have hw11 : Ext w v199 := hw10.trans e200
        obtain ⟨s202, A202, n202, c202, rfl, z202⟩ := r201
        exact pi_done rfl e200 ⟨_, _, _, _, rfl, z202⟩
      · -- all
        intro v203 e204
        have hw10 : Ext w v203 := hw9.trans e204
        refine deps_cons rfl rfl fun x205 y206 h207 e208 f209 => ?_
        obtain rfl := h207
        refine deps_cons rfl rfl fun x210 y211 h212 e213 f214 => ?_
        obtain ⟨s215, A215, n215, c215, rfl, z215⟩ := h212
        have z215 := z215.ext f214
        refine deps_cons rfl rfl fun x216 y217 h218 e219 f220 => ?_
        obtain ⟨s221, A221, n221, c221, rfl, z221⟩ := h218
        have z221 := z221.ext f220
        refine deps_cons rfl rfl fun x222 y223 h224 e225 f226 => ?_
        obtain rfl := h224
        refine deps_cons rfl rfl fun x227 y228 h229 e230 f231 => ?_
        obtain rfl := h229
        refine deps_cons rfl rfl fun x232 y233 h234 e235 f236 => ?_
        obtain ⟨s237, A237, n237, c237, rfl, z237⟩ := h234
        have z237 := z237.ext f236
        refine deps_nil ?_
        have hb239 := ((((hb15.ext (e20.trans (e27.trans (e34.trans e40)))).updN u47 (by omega)).updN u52 (by omega)).ext e204)
        refine wl_stored rfl rfl rfl aggInt rfl hb239 (Nat.le_of_ble_eq_true rfl) rfl [.bool s221, .slice A221 n221 c221] rfl fun v238 hb240 u241 hs242 => ?_
        have hw11 : Ext w v238 := u241.ext hw10 ge16
        have hb244 := (((((hb21.ext (e27.trans (e34.trans e40))).updN u47 (by omega)).updN u52 (by omega)).ext e204).updN u241 (by omega))
        refine wl_stored rfl rfl rfl aggInt rfl hb244 (Nat.le_of_ble_eq_true rfl) rfl [.bool s237, .slice A237 n237 c237] rfl fun v243 hb245 u246 hs247 => ?_
        have hw12 : Ext w v243 := u246.ext hw11 ge22
        refine wl_assign rfl rfl (by decide) ?_
        refine wl_nil ?_
        refine eo_np ?_
        refine eo_then ?_
        refine cw_ret ?_
        refine eo_ret [.agg #[.bool s221, .slice A221 n221 c221], .agg #[.bool s237, .slice A237 n237 c237], .int .i64 0] rfl ⟨⟨_, rfl, load_agg aggInt (hb240.updN u246 (by omega)) [.bool s221, .slice A221 n221 c221] rfl (Nat.le_of_ble_eq_true rfl) rfl⟩, ⟨_, rfl, load_agg aggInt hb245 [.bool s237, .slice A237 n237 c237] rfl (Nat.le_of_ble_eq_true rfl) rfl⟩, rfl, trivial⟩ ?_
        exact ⟨_, rfl, ⟨_, _, _, rfl, ⟨_, _, _, _, rfl, (((z221.updT hb239 u241).updT hb244 u246)).cast (hq.1)⟩, ⟨_, _, _, _, rfl, (((z237.updT hb239 u241).updT hb244 u246)).cast (hq.2)⟩, rfl⟩, hw12⟩
  ·
    obtain rfl : s31 = false := by rw [z31.sgn]; exact decide_eq_false hr
    -- region 2
    refine cw_region ?_
    refine wl_move rfl rfl (by decide) ?_
    refine wl_pure rfl rfl (v := .bool false) (by decide) (by kernel_rfl) ?_
    refine wl_move rfl rfl (by decide) ?_
    refine wl_pure rfl rfl (v := .pointer (some ⟨g38, 0, none⟩)) (by decide) (by kernel_rfl) ?_
    refine wl_load rfl rfl (load_cell cellBool hb51 rfl) (by decide) ?_
    refine wl_pure rfl rfl (v := .bool true) (by decide) (by kernel_rfl) ?_
    refine wl_pure rfl rfl (v := .bool true) (by decide) (by kernel_rfl) ?_
    refine wl_nil ?_
    refine eo_then ?_
    refine cw_true rfl ?_
    refine cw_seq ?_
    -- region 3, certain
    refine cw_keep [(0, .agg #[.bool sa, .slice Aa na ca]), (1, .agg #[.bool sb, .slice Ab nb cb]), (2, .pointer (some ⟨g1, 0, none⟩)), (3, .pointer (some ⟨g6, 0, none⟩)), (4, .pointer (some ⟨g12, 0, none⟩)), (5, .pointer (some ⟨g18, 0, none⟩)), (11, .agg #[.bool sa, .slice Aa na ca]), (12, .agg #[.bool sb, .slice Ab nb cb]), (13, .tuple #[.agg #[.bool s30, .slice A30 n30 c30], .agg #[.bool false, .slice A31 n31 c31], .int .i64 0]), (10, .tuple #[.agg #[.bool s30, .slice A30 n30 c30], .agg #[.bool false, .slice A31 n31 c31], .int .i64 0]), (14, .agg #[.bool s30, .slice A30 n30 c30]), (15, .agg #[.bool false, .slice A31 n31 c31]), (16, .int .i64 0), (7, .pointer (some ⟨g32, 0, none⟩)), (8, .pointer (some ⟨g38, 0, none⟩)), (9, .int .i64 0), (17, .int .i64 0), (18, .bool false), (19, .bool false), (20, .pointer (some ⟨g38, 0, none⟩)), (21, .bool false), (22, .bool true), (23, .bool true)] ⟨rfl, rfl, rfl, rfl, rfl, rfl, rfl, rfl, rfl, rfl, rfl, rfl, rfl, rfl, rfl, rfl, rfl, rfl, rfl, rfl, rfl, rfl, rfl, trivial⟩ ?_
    obtain ⟨v248, hv, e249⟩ : ∃ v, v = v49.drew ∧ Ext v49 v := ⟨_, rfl, (Ext.refl _).drew⟩
    have hw10 : Ext w v248 := hw9.trans e249
    have hb251 := ((((hb15.ext (e20.trans (e27.trans (e34.trans e40)))).updN u47 (by omega)).updN u52 (by omega)).ext e249)
    obtain ⟨v250, hr255, hb252, u253, hs254⟩ := run_stored (P := Try.prog) (us := [.bool s30, .slice A30 n30 c30]) (off := 0) aggInt rfl hb251 (Nat.le_of_ble_eq_true rfl) rfl [.bool s30, .slice A30 n30 c30] rfl
    have hw11 : Ext w v250 := u253.ext hw10 ge16
    have hb257 := (((((hb21.ext (e27.trans (e34.trans e40))).updN u47 (by omega)).updN u52 (by omega)).ext e249).updN u253 (by omega))
    obtain ⟨v256, hr261, hb258, u259, hs260⟩ := run_stored (P := Try.prog) (us := [.bool false, .slice A31 n31 c31]) (off := 0) aggInt rfl hb257 (Nat.le_of_ble_eq_true rfl) rfl [.bool false, .slice A31 n31 c31] rfl
    have hw12 : Ext w v256 := u259.ext hw11 ge22
    refine cw_det mix (w := v248) [.agg #[.bool s30, .slice A30 n30 c30], .agg #[.bool false, .slice A31 n31 c31], .int .i64 0, undef, undef, .int .i64 0] [v248, v250, v256] [3, 4] [[], [], [], [0], [1], [2]] [[], [], [], [0], [0, 1, 3], [0, 1, 2, 3, 4]] [(0, 0), (1, 0), (1, 1), (2, 0), (2, 1), (2, 2), (3, 0), (4, 1), (5, 2)] rfl hv ?_ ?_
    ·
      refine dobs_val ([(0, .agg #[.bool sa, .slice Aa na ca]), (1, .agg #[.bool sb, .slice Ab nb cb]), (2, .pointer (some ⟨g1, 0, none⟩)), (3, .pointer (some ⟨g6, 0, none⟩)), (4, .pointer (some ⟨g12, 0, none⟩)), (5, .pointer (some ⟨g18, 0, none⟩)), (11, .agg #[.bool sa, .slice Aa na ca]), (12, .agg #[.bool sb, .slice Ab nb cb]), (13, .tuple #[.agg #[.bool s30, .slice A30 n30 c30], .agg #[.bool false, .slice A31 n31 c31], .int .i64 0]), (10, .tuple #[.agg #[.bool s30, .slice A30 n30 c30], .agg #[.bool false, .slice A31 n31 c31], .int .i64 0]), (14, .agg #[.bool s30, .slice A30 n30 c30]), (15, .agg #[.bool false, .slice A31 n31 c31]), (16, .int .i64 0), (7, .pointer (some ⟨g32, 0, none⟩)), (8, .pointer (some ⟨g38, 0, none⟩)), (9, .int .i64 0), (17, .int .i64 0), (18, .bool false), (19, .bool false), (20, .pointer (some ⟨g38, 0, none⟩)), (21, .bool false), (22, .bool true), (23, .bool true)]) rfl rfl rfl rfl rfl (rd_load rfl (load_agg aggInt ((hb46.updN u52 (by omega)).ext e249) [.bool s30, .slice A30 n30 c30] rfl (Nat.le_of_ble_eq_true rfl) rfl)) ?_
      refine dobs_val ([(0, .agg #[.bool sa, .slice Aa na ca]), (1, .agg #[.bool sb, .slice Ab nb cb]), (2, .pointer (some ⟨g1, 0, none⟩)), (3, .pointer (some ⟨g6, 0, none⟩)), (4, .pointer (some ⟨g12, 0, none⟩)), (5, .pointer (some ⟨g18, 0, none⟩)), (11, .agg #[.bool sa, .slice Aa na ca]), (12, .agg #[.bool sb, .slice Ab nb cb]), (13, .tuple #[.agg #[.bool s30, .slice A30 n30 c30], .agg #[.bool false, .slice A31 n31 c31], .int .i64 0]), (10, .tuple #[.agg #[.bool s30, .slice A30 n30 c30], .agg #[.bool false, .slice A31 n31 c31], .int .i64 0]), (14, .agg #[.bool s30, .slice A30 n30 c30]), (15, .agg #[.bool false, .slice A31 n31 c31]), (16, .int .i64 0), (7, .pointer (some ⟨g32, 0, none⟩)), (8, .pointer (some ⟨g38, 0, none⟩)), (9, .int .i64 0), (17, .int .i64 0), (18, .bool false), (19, .bool false), (20, .pointer (some ⟨g38, 0, none⟩)), (21, .bool false), (22, .bool true), (23, .bool true)]) rfl rfl rfl rfl rfl (rd_load rfl (load_agg aggInt (hb51.ext e249) [.bool false, .slice A31 n31 c31] rfl (Nat.le_of_ble_eq_true rfl) rfl)) ?_
      refine dobs_val ([(0, .agg #[.bool sa, .slice Aa na ca]), (1, .agg #[.bool sb, .slice Ab nb cb]), (2, .pointer (some ⟨g1, 0, none⟩)), (3, .pointer (some ⟨g6, 0, none⟩)), (4, .pointer (some ⟨g12, 0, none⟩)), (5, .pointer (some ⟨g18, 0, none⟩)), (11, .agg #[.bool sa, .slice Aa na ca]), (12, .agg #[.bool sb, .slice Ab nb cb]), (13, .tuple #[.agg #[.bool s30, .slice A30 n30 c30], .agg #[.bool false, .slice A31 n31 c31], .int .i64 0]), (10, .tuple #[.agg #[.bool s30, .slice A30 n30 c30], .agg #[.bool false, .slice A31 n31 c31], .int .i64 0]), (14, .agg #[.bool s30, .slice A30 n30 c30]), (15, .agg #[.bool false, .slice A31 n31 c31]), (16, .int .i64 0), (7, .pointer (some ⟨g32, 0, none⟩)), (8, .pointer (some ⟨g38, 0, none⟩)), (9, .int .i64 0), (17, .int .i64 0), (18, .bool false), (19, .bool false), (20, .pointer (some ⟨g38, 0, none⟩)), (21, .bool false), (22, .bool true), (23, .bool true)]) rfl rfl rfl rfl rfl (rd_load rfl (load_agg aggInt ((hb51.ext e249).updN u253 (by omega)) [.bool false, .slice A31 n31 c31] rfl (Nat.le_of_ble_eq_true rfl) rfl)) ?_
      refine dobs_val ([(0, .agg #[.bool sa, .slice Aa na ca]), (1, .agg #[.bool sb, .slice Ab nb cb]), (2, .pointer (some ⟨g1, 0, none⟩)), (3, .pointer (some ⟨g6, 0, none⟩)), (4, .pointer (some ⟨g12, 0, none⟩)), (5, .pointer (some ⟨g18, 0, none⟩)), (11, .agg #[.bool sa, .slice Aa na ca]), (12, .agg #[.bool sb, .slice Ab nb cb]), (13, .tuple #[.agg #[.bool s30, .slice A30 n30 c30], .agg #[.bool false, .slice A31 n31 c31], .int .i64 0]), (10, .tuple #[.agg #[.bool s30, .slice A30 n30 c30], .agg #[.bool false, .slice A31 n31 c31], .int .i64 0]), (14, .agg #[.bool s30, .slice A30 n30 c30]), (15, .agg #[.bool false, .slice A31 n31 c31]), (16, .int .i64 0), (7, .pointer (some ⟨g32, 0, none⟩)), (8, .pointer (some ⟨g38, 0, none⟩)), (9, .int .i64 0), (17, .int .i64 0), (18, .bool false), (19, .bool false), (20, .pointer (some ⟨g38, 0, none⟩)), (21, .bool false), (22, .bool true), (23, .bool true)]) rfl rfl rfl rfl rfl (rd_move rfl) ?_
      refine dobs_val ([(0, .agg #[.bool sa, .slice Aa na ca]), (1, .agg #[.bool sb, .slice Ab nb cb]), (2, .pointer (some ⟨g1, 0, none⟩)), (3, .pointer (some ⟨g6, 0, none⟩)), (4, .pointer (some ⟨g12, 0, none⟩)), (5, .pointer (some ⟨g18, 0, none⟩)), (11, .agg #[.bool sa, .slice Aa na ca]), (12, .agg #[.bool sb, .slice Ab nb cb]), (13, .tuple #[.agg #[.bool s30, .slice A30 n30 c30], .agg #[.bool false, .slice A31 n31 c31], .int .i64 0]), (10, .tuple #[.agg #[.bool s30, .slice A30 n30 c30], .agg #[.bool false, .slice A31 n31 c31], .int .i64 0]), (14, .agg #[.bool s30, .slice A30 n30 c30]), (15, .agg #[.bool false, .slice A31 n31 c31]), (16, .int .i64 0), (7, .pointer (some ⟨g32, 0, none⟩)), (8, .pointer (some ⟨g38, 0, none⟩)), (9, .int .i64 0), (17, .int .i64 0), (18, .bool false), (19, .bool false), (20, .pointer (some ⟨g38, 0, none⟩)), (21, .bool false), (22, .bool true), (23, .bool true)]) rfl rfl rfl rfl rfl (rd_move rfl) ?_
      refine dobs_val ([(0, .agg #[.bool sa, .slice Aa na ca]), (1, .agg #[.bool sb, .slice Ab nb cb]), (2, .pointer (some ⟨g1, 0, none⟩)), (3, .pointer (some ⟨g6, 0, none⟩)), (4, .pointer (some ⟨g12, 0, none⟩)), (5, .pointer (some ⟨g18, 0, none⟩)), (11, .agg #[.bool sa, .slice Aa na ca]), (12, .agg #[.bool sb, .slice Ab nb cb]), (13, .tuple #[.agg #[.bool s30, .slice A30 n30 c30], .agg #[.bool false, .slice A31 n31 c31], .int .i64 0]), (10, .tuple #[.agg #[.bool s30, .slice A30 n30 c30], .agg #[.bool false, .slice A31 n31 c31], .int .i64 0]), (14, .agg #[.bool s30, .slice A30 n30 c30]), (15, .agg #[.bool false, .slice A31 n31 c31]), (16, .int .i64 0), (7, .pointer (some ⟨g32, 0, none⟩)), (8, .pointer (some ⟨g38, 0, none⟩)), (9, .int .i64 0), (17, .int .i64 0), (18, .bool false), (19, .bool false), (20, .pointer (some ⟨g38, 0, none⟩)), (21, .bool false), (22, .bool true), (23, .bool true)]) rfl rfl rfl rfl rfl (rd_move rfl) ?_
      refine dobs_sto ((24, .agg #[.bool s30, .slice A30 n30 c30]) :: [(0, .agg #[.bool sa, .slice Aa na ca]), (1, .agg #[.bool sb, .slice Ab nb cb]), (2, .pointer (some ⟨g1, 0, none⟩)), (3, .pointer (some ⟨g6, 0, none⟩)), (4, .pointer (some ⟨g12, 0, none⟩)), (5, .pointer (some ⟨g18, 0, none⟩)), (11, .agg #[.bool sa, .slice Aa na ca]), (12, .agg #[.bool sb, .slice Ab nb cb]), (13, .tuple #[.agg #[.bool s30, .slice A30 n30 c30], .agg #[.bool false, .slice A31 n31 c31], .int .i64 0]), (10, .tuple #[.agg #[.bool s30, .slice A30 n30 c30], .agg #[.bool false, .slice A31 n31 c31], .int .i64 0]), (14, .agg #[.bool s30, .slice A30 n30 c30]), (15, .agg #[.bool false, .slice A31 n31 c31]), (16, .int .i64 0), (7, .pointer (some ⟨g32, 0, none⟩)), (8, .pointer (some ⟨g38, 0, none⟩)), (9, .int .i64 0), (17, .int .i64 0), (18, .bool false), (19, .bool false), (20, .pointer (some ⟨g38, 0, none⟩)), (21, .bool false), (22, .bool true), (23, .bool true)]) rfl rfl rfl rfl rfl (rd_store rfl rfl hr255) ?_
      refine dobs_sto ((25, .agg #[.bool false, .slice A31 n31 c31]) :: [(0, .agg #[.bool sa, .slice Aa na ca]), (1, .agg #[.bool sb, .slice Ab nb cb]), (2, .pointer (some ⟨g1, 0, none⟩)), (3, .pointer (some ⟨g6, 0, none⟩)), (4, .pointer (some ⟨g12, 0, none⟩)), (5, .pointer (some ⟨g18, 0, none⟩)), (11, .agg #[.bool sa, .slice Aa na ca]), (12, .agg #[.bool sb, .slice Ab nb cb]), (13, .tuple #[.agg #[.bool s30, .slice A30 n30 c30], .agg #[.bool false, .slice A31 n31 c31], .int .i64 0]), (10, .tuple #[.agg #[.bool s30, .slice A30 n30 c30], .agg #[.bool false, .slice A31 n31 c31], .int .i64 0]), (14, .agg #[.bool s30, .slice A30 n30 c30]), (15, .agg #[.bool false, .slice A31 n31 c31]), (16, .int .i64 0), (7, .pointer (some ⟨g32, 0, none⟩)), (8, .pointer (some ⟨g38, 0, none⟩)), (9, .int .i64 0), (17, .int .i64 0), (18, .bool false), (19, .bool false), (20, .pointer (some ⟨g38, 0, none⟩)), (21, .bool false), (22, .bool true), (23, .bool true)]) rfl rfl rfl rfl rfl (rd_store rfl rfl hr261) ?_
      refine dobs_val ((26, .int .i64 0) :: [(0, .agg #[.bool sa, .slice Aa na ca]), (1, .agg #[.bool sb, .slice Ab nb cb]), (2, .pointer (some ⟨g1, 0, none⟩)), (3, .pointer (some ⟨g6, 0, none⟩)), (4, .pointer (some ⟨g12, 0, none⟩)), (5, .pointer (some ⟨g18, 0, none⟩)), (11, .agg #[.bool sa, .slice Aa na ca]), (12, .agg #[.bool sb, .slice Ab nb cb]), (13, .tuple #[.agg #[.bool s30, .slice A30 n30 c30], .agg #[.bool false, .slice A31 n31 c31], .int .i64 0]), (10, .tuple #[.agg #[.bool s30, .slice A30 n30 c30], .agg #[.bool false, .slice A31 n31 c31], .int .i64 0]), (14, .agg #[.bool s30, .slice A30 n30 c30]), (15, .agg #[.bool false, .slice A31 n31 c31]), (16, .int .i64 0), (7, .pointer (some ⟨g32, 0, none⟩)), (8, .pointer (some ⟨g38, 0, none⟩)), (9, .int .i64 0), (17, .int .i64 0), (18, .bool false), (19, .bool false), (20, .pointer (some ⟨g38, 0, none⟩)), (21, .bool false), (22, .bool true), (23, .bool true)]) rfl rfl rfl rfl rfl (rd_assign rfl) ?_
      exact dobs_nil
    clear hv
    refine eo_keep [(0, .agg #[.bool sa, .slice Aa na ca]), (1, .agg #[.bool sb, .slice Ab nb cb]), (2, .pointer (some ⟨g1, 0, none⟩)), (3, .pointer (some ⟨g6, 0, none⟩)), (4, .pointer (some ⟨g12, 0, none⟩)), (5, .pointer (some ⟨g18, 0, none⟩)), (11, .agg #[.bool sa, .slice Aa na ca]), (12, .agg #[.bool sb, .slice Ab nb cb]), (13, .tuple #[.agg #[.bool s30, .slice A30 n30 c30], .agg #[.bool false, .slice A31 n31 c31], .int .i64 0]), (10, .tuple #[.agg #[.bool s30, .slice A30 n30 c30], .agg #[.bool false, .slice A31 n31 c31], .int .i64 0]), (14, .agg #[.bool s30, .slice A30 n30 c30]), (15, .agg #[.bool false, .slice A31 n31 c31]), (16, .int .i64 0), (7, .pointer (some ⟨g32, 0, none⟩)), (8, .pointer (some ⟨g38, 0, none⟩)), (9, .int .i64 0), (17, .int .i64 0), (18, .bool false), (19, .bool false), (20, .pointer (some ⟨g38, 0, none⟩)), (21, .bool false), (22, .bool true), (23, .bool true), (24, .agg #[.bool s30, .slice A30 n30 c30]), (25, .agg #[.bool false, .slice A31 n31 c31]), (26, .int .i64 0), (6, .int .i64 0)] ⟨rfl, rfl, rfl, rfl, rfl, rfl, rfl, rfl, rfl, rfl, rfl, rfl, rfl, rfl, rfl, rfl, rfl, rfl, rfl, rfl, rfl, rfl, rfl, rfl, rfl, rfl, rfl, trivial⟩ ?_
    refine eo_then ?_
    refine cw_ret ?_
    refine eo_thenR ?_
    refine eo_ret [.agg #[.bool s30, .slice A30 n30 c30], .agg #[.bool false, .slice A31 n31 c31], .int .i64 0] rfl ⟨⟨_, rfl, load_agg aggInt (hb252.updN u259 (by omega)) [.bool s30, .slice A30 n30 c30] rfl (Nat.le_of_ble_eq_true rfl) rfl⟩, ⟨_, rfl, load_agg aggInt hb258 [.bool false, .slice A31 n31 c31] rfl (Nat.le_of_ble_eq_true rfl) rfl⟩, rfl, trivial⟩ ?_
    exact ⟨_, rfl, ⟨_, _, _, rfl, ⟨_, _, _, _, rfl, (((((((z30.ext (e34.trans e40)).updT hb45 u47).updT hb50 u52).ext e249).updT hb251 u253).updT hb257 u259)).cast ((ediv_pos (by omega)).1)⟩, ⟨_, _, _, _, rfl, (((((((z31.ext (e34.trans e40)).updT hb45 u47).updT hb50 u52).ext e249).updT hb251 u253).updT hb257 u259)).cast ((ediv_pos (by omega)).2)⟩, rfl⟩, hw12⟩
theorem g_zint_Euclid {w : World} {sa : Bool} {Aa : Option Addr} {na ca : Nat} {x : Int} {sb : Bool} {Ab : Option Addr} {nb cb : Nat} {y : Int} {b : Nat} (hb : b ≤ w.heap.size)  (hx : Zi w sa Aa na ca x) (la : na ≤ 68719476736) (hy : Zi w sb Ab nb cb y) (lb : nb ≤ 68719476736) (h0 : y ≠ 0) :
    Calls Try.prog 89 #[.agg #[.bool sa, .slice Aa na ca], .agg #[.bool sb, .slice Ab nb cb]] w (Gv w (T3 (ZR b (x / y)) (ZR b (x % y)) (Is (.int .i64 0)))) := (g_zint_EuclidI hx la hy lb h0).mono (Gv.imp (T3.imp (ZR.imp hb) (ZR.imp hb) Is.imp))

theorem Zi.sg_ {w : World} {s : Bool} {A : Option Addr} {n c : Nat} {z : Int} (h : Zi w s A n c z) : sg s z.natAbs = z := by
  obtain ⟨xs, h1, rfl⟩ := h
  rw [sg_abs]
theorem ln_ediv (x y : Int) : ln (x / y) ≤ ln x + 1 := by
  by_cases h : x.tmod y < 0
  · rcases Int.lt_trichotomy y 0 with hy | hy | hy
    · rw [← (ediv_neg' h hy).1]
      exact Nat.le_trans (ln_add (ln_tdiv x y) (Nat.le_refl _)) (by
        have h1 : x ≠ 0 := fun e => by subst e; simp at h
        have h2 : ln 1 = 1 := ln_one
        have h3 : 0 < ln x := by
          refine Nat.pos_of_ne_zero fun e => h1 ?_
          have := len_wd_zero.1 (show (wd x.natAbs).length = 0 from e)
          omega
        omega)
    · subst hy; simp [ln_zero]
    · rw [← (ediv_pos' h hy).1]
      exact Nat.le_trans (ln_sub (ln_tdiv x y) (Nat.le_refl _)) (by
        have h1 : x ≠ 0 := fun e => by subst e; simp at h
        have h2 : ln 1 = 1 := ln_one
        have h3 : 0 < ln x := by
          refine Nat.pos_of_ne_zero fun e => h1 ?_
          have := len_wd_zero.1 (show (wd x.natAbs).length = 0 from e)
          omega
        omega)
  · rw [← (ediv_pos (by omega)).1]
    exact Nat.le_trans (ln_tdiv x y) (Nat.le_succ _)
theorem ln_emod {x y : Int} (h : y ≠ 0) : ln (x % y) ≤ ln y := by
  refine ln_mono ?_
  have h1 := Int.emod_nonneg x h
  have h2 := Int.emod_lt x h
  omega

set_option maxHeartbeats 4000000 in
theorem g_zint_ModI {w : World} {sa : Bool} {Aa : Option Addr} {na ca : Nat} {x : Int} {sb : Bool} {Ab : Option Addr} {nb cb : Nat} {y : Int} (hx : Zi w sa Aa na ca x) (la : na ≤ 68719476736) (hy : Zi w sb Ab nb cb y) (lb : nb ≤ 68719476736) (h0 : y ≠ 0) :
    Calls Try.prog 69 #[.agg #[.bool sa, .slice Aa na ca], .agg #[.bool sb, .slice Ab nb cb]] w (Gv w (T2 (ZR w.heap.size (x % y)) (Is (.int .i64 0)))) := by
  have Lx : ln x ≤ 68719476736 := Nat.le_trans hx.ln la
  have Ly : ln y ≤ 68719476736 := Nat.le_trans hy.ln lb
  refine sx_enter Try.func69 rfl (n := 18) rfl (Nat.le_of_ble_eq_true rfl) (args := [.agg #[.bool sa, .slice Aa na ca], .agg #[.bool sb, .slice Ab nb cb]]) ?_
  refine cw_keep [(0, .agg #[.bool sa, .slice Aa na ca]), (1, .agg #[.bool sb, .slice Ab nb cb])] ⟨rfl, rfl, trivial⟩ ?_
  refine cw_seq ?_
  -- region 0
  refine cw_region ?_
  refine wl_box rfl rfl (vs := [.bool sa, .slice Aa na ca]) rfl (by decide) fun g1 v2 nb => ?_
  have hb4 := nb.bk
  have ge5 : w.heap.size ≤ g1 := by rw [← nb.at_]; exact (Ext.refl w).size
  have e3 := nb.ext
  clear nb
  have hw1 : Ext w v2 := (Ext.refl w).trans e3
  refine wl_box rfl rfl (vs := [.bool sb, .slice Ab nb cb]) rfl (by decide) fun g6 v7 nb => ?_
  have hb9 := nb.bk
  have ge10 : w.heap.size ≤ g6 := by rw [← nb.at_]; exact hw1.size
  have q11 : g1 < g6 := by rw [← nb.at_]; exact hb4.lt
  have e8 := nb.ext
  clear nb
  have hw2 : Ext w v7 := hw1.trans e8
  refine wl_alloc rfl (z := .agg #[.bool false, .slice none 0 0]) (vs := [.bool false, .slice none 0 0]) (fun _ => by kernel_rfl) rfl (by decide) fun g12 v13 nb => ?_
  have hb15 := nb.bk
  have ge16 : w.heap.size ≤ g12 := by rw [← nb.at_]; exact hw2.size
  have q17 : g6 < g12 := by rw [← nb.at_]; exact hb9.lt
  have e14 := nb.ext
  clear nb
  have hw3 : Ext w v13 := hw2.trans e14
  refine wl_assign rfl rfl (by decide) ?_
  refine wl_nil ?_
  refine eo_then ?_
  refine cw_seq ?_
  -- region 1
  refine cw_region ?_
  refine wl_load rfl rfl (load_agg aggInt (hb4.ext (e8.trans e14)) [.bool sa, .slice Aa na ca] rfl (Nat.le_of_ble_eq_true rfl) rfl) (by decide) ?_
  refine wl_load rfl rfl (load_agg aggInt (hb9.ext e14) [.bool sb, .slice Ab nb cb] rfl (Nat.le_of_ble_eq_true rfl) rfl) (by decide) ?_
  have L18 : ln (x / y) ≤ 68719476737 := Nat.le_trans (ln_ediv _ _) (Nat.succ_le_succ Lx)
  have L19 : ln (x % y) ≤ 68719476736 := Nat.le_trans (ln_emod h0) Ly
  refine wl_call rfl rfl (vs := [.agg #[.bool sa, .slice Aa na ca], .agg #[.bool sb, .slice Ab nb cb]]) (by kernel_rfl) (by decide) (g_zint_Euclid hw3.size (hx.ext hw3) (Nat.le_trans la (by decide)) (hy.ext hw3) (Nat.le_trans lb (by decide)) h0) ?_
  rintro _ v20 ⟨xr22, rfl, r22, e21⟩
  refine ret_intro ?_
  have hw4 : Ext w v20 := hw3.trans e21
  obtain ⟨a23_0, a23_1, a23_2, rfl, r23_0, r23_1, r23_2⟩ := r22
  obtain ⟨s24, A24, n24, c24, rfl, z24⟩ := r23_0
  obtain ⟨s25, A25, n25, c25, rfl, z25⟩ := r23_1
  obtain rfl := r23_2
  refine wl_move rfl rfl (by decide) ?_
  refine wl_pure rfl rfl (v := .agg #[.bool s24, .slice A24 n24 c24]) (by decide) (by kernel_rfl) ?_
  refine wl_pure rfl rfl (v := .agg #[.bool s25, .slice A25 n25 c25]) (by decide) (by kernel_rfl) ?_
  refine wl_pure rfl rfl (v := .int .i64 0) (by decide) (by kernel_rfl) ?_
  refine wl_alloc rfl (z := .agg #[.bool false, .slice none 0 0]) (vs := [.bool false, .slice none 0 0]) (fun _ => by kernel_rfl) rfl (by decide) fun g26 v27 nb => ?_
  have hb29 := nb.bk
  have ge30 : w.heap.size ≤ g26 := by rw [← nb.at_]; exact hw4.size
  have q31 : g12 < g26 := by rw [← nb.at_]; exact (hb15.ext e21).lt
  have e28 := nb.ext
  clear nb
  have hw5 : Ext w v27 := hw4.trans e28
  refine wl_alloc rfl (z := .agg #[.bool false, .slice none 0 0]) (vs := [.bool false, .slice none 0 0]) (fun _ => by kernel_rfl) rfl (by decide) fun g32 v33 nb => ?_
  have hb35 := nb.bk
  have ge36 : w.heap.size ≤ g32 := by rw [← nb.at_]; exact hw5.size
  have q37 : g26 < g32 := by rw [← nb.at_]; exact hb29.lt
  have e34 := nb.ext
  clear nb
  have hw6 : Ext w v33 := hw5.trans e34
  have hb39 := (hb29.ext e34)
  refine wl_stored rfl rfl rfl aggInt rfl hb39 (Nat.le_of_ble_eq_true rfl) rfl [.bool s24, .slice A24 n24 c24] rfl fun v38 hb40 u41 hs42 => ?_
  have hw7 : Ext w v38 := u41.ext hw6 ge30
  have hb44 := (hb35.updN u41 (by omega))
  refine wl_stored rfl rfl rfl aggInt rfl hb44 (Nat.le_of_ble_eq_true rfl) rfl [.bool s25, .slice A25 n25 c25] rfl fun v43 hb45 u46 hs47 => ?_
  have hw8 : Ext w v43 := u46.ext hw7 ge36
  refine wl_assign rfl rfl (by decide) ?_
  refine wl_nil ?_
  refine eo_then ?_
  refine cw_seq ?_
  -- region 2
  refine cw_region ?_
  refine wl_load rfl rfl (load_agg aggInt hb45 [.bool s25, .slice A25 n25 c25] rfl (Nat.le_of_ble_eq_true rfl) rfl) (by decide) ?_
  refine wl_move rfl rfl (by decide) ?_
  have hb49 := (((hb15.ext (e21.trans (e28.trans e34))).updN u41 (by omega)).updN u46 (by omega))
  refine wl_stored rfl rfl rfl aggInt rfl hb49 (Nat.le_of_ble_eq_true rfl) rfl [.bool s25, .slice A25 n25 c25] rfl fun v48 hb50 u51 hs52 => ?_
  have hw9 : Ext w v48 := u51.ext hw8 ge16
  refine wl_assign rfl rfl (by decide) ?_
  refine wl_nil ?_
  refine eo_then ?_
  refine cw_ret ?_
  refine eo_ret [.agg #[.bool s25, .slice A25 n25 c25], .int .i64 0] rfl ⟨⟨_, rfl, load_agg aggInt hb50 [.bool s25, .slice A25 n25 c25] rfl (Nat.le_of_ble_eq_true rfl) rfl⟩, rfl, trivial⟩ ?_
  exact ⟨_, rfl, ⟨_, _, rfl, ⟨_, _, _, _, rfl, ((((z25.ext (e28.trans e34)).updT hb39 u41).updT hb44 u46).updT hb49 u51)⟩, rfl⟩, hw9⟩
theorem g_zint_Mod {w : World} {sa : Bool} {Aa : Option Addr} {na ca : Nat} {x : Int} {sb : Bool} {Ab : Option Addr} {nb cb : Nat} {y : Int} {b : Nat} (hb : b ≤ w.heap.size)  (hx : Zi w sa Aa na ca x) (la : na ≤ 68719476736) (hy : Zi w sb Ab nb cb y) (lb : nb ≤ 68719476736) (h0 : y ≠ 0) :
    Calls Try.prog 69 #[.agg #[.bool sa, .slice Aa na ca], .agg #[.bool sb, .slice Ab nb cb]] w (Gv w (T2 (ZR b (x % y)) (Is (.int .i64 0)))) := (g_zint_ModI hx la hy lb h0).mono (Gv.imp (T2.imp (ZR.imp hb) Is.imp))

set_option maxHeartbeats 4000000 in
theorem g_zint_Exact_badI {w : World} {sa : Bool} {Aa : Option Addr} {na ca : Nat} {x : Int} {sb : Bool} {Ab : Option Addr} {nb cb : Nat} {y : Int} (hx : Zi w sa Aa na ca x) (la : na ≤ 68719476736) (hy : Zi w sb Ab nb cb y) (lb : nb ≤ 68719476736) (h0 : y = 0) :
    Calls Try.prog 60 #[.agg #[.bool sa, .slice Aa na ca], .agg #[.bool sb, .slice Ab nb cb]] w (Gv w (T2 (ZR w.heap.size (0)) (Is (.int .i64 4)))) := by
  have Lx : ln x ≤ 68719476736 := Nat.le_trans hx.ln la
  have Ly : ln y ≤ 68719476736 := Nat.le_trans hy.ln lb
  refine sx_enter Try.func60 rfl (n := 27) rfl (Nat.le_of_ble_eq_true rfl) (args := [.agg #[.bool sa, .slice Aa na ca], .agg #[.bool sb, .slice Ab nb cb]]) ?_
  refine cw_keep [(0, .agg #[.bool sa, .slice Aa na ca]), (1, .agg #[.bool sb, .slice Ab nb cb])] ⟨rfl, rfl, trivial⟩ ?_
  refine cw_seq ?_
  -- region 0
  refine cw_region ?_
  refine wl_box rfl rfl (vs := [.bool sa, .slice Aa na ca]) rfl (by decide) fun g1 v2 nb => ?_
  have hb4 := nb.bk
  have ge5 : w.heap.size ≤ g1 := by rw [← nb.at_]; exact (Ext.refl w).size
  have e3 := nb.ext
  clear nb
  have hw1 : Ext w v2 := (Ext.refl w).trans e3
  refine wl_box rfl rfl (vs := [.bool sb, .slice Ab nb cb]) rfl (by decide) fun g6 v7 nb => ?_
  have hb9 := nb.bk
  have ge10 : w.heap.size ≤ g6 := by rw [← nb.at_]; exact hw1.size
  have q11 : g1 < g6 := by rw [← nb.at_]; exact hb4.lt
  have e8 := nb.ext
  clear nb
  have hw2 : Ext w v7 := hw1.trans e8
  refine wl_alloc rfl (z := .agg #[.bool false, .slice none 0 0]) (vs := [.bool false, .slice none 0 0]) (fun _ => by kernel_rfl) rfl (by decide) fun g12 v13 nb => ?_
  have hb15 := nb.bk
  have ge16 : w.heap.size ≤ g12 := by rw [← nb.at_]; exact hw2.size
  have q17 : g6 < g12 := by rw [← nb.at_]; exact hb9.lt
  have e14 := nb.ext
  clear nb
  have hw3 : Ext w v13 := hw2.trans e14
  refine wl_assign rfl rfl (by decide) ?_
  refine wl_nil ?_
  refine eo_then ?_
  refine cw_seq ?_
  -- region 1
  refine cw_region ?_
  refine wl_pure rfl rfl (v := .pointer (some ⟨g1, 1, none⟩)) (by decide) (by kernel_rfl) ?_
  refine wl_load rfl rfl (load_cell cellWords (hb4.ext (e8.trans e14)) rfl) (by decide) ?_
  refine wl_pure rfl rfl (v := .pointer (some ⟨g6, 1, none⟩)) (by decide) (by kernel_rfl) ?_
  refine wl_load rfl rfl (load_cell cellWords (hb9.ext e14) rfl) (by decide) ?_
  refine wl_call rfl rfl (vs := [.slice Aa na ca, .slice Ab nb cb]) (by kernel_rfl) (by decide) (g_divnat_Exact_bad (i := 0) (hy.ext hw3).wi (Nat.le_trans lb (by decide)) (by omega)) ?_
  rintro _ v18 ⟨xr20, rfl, r20, e19⟩
  refine ret_intro ?_
  have hw4 : Ext w v18 := hw3.trans e19
  obtain rfl := r20
  refine wl_move rfl rfl (by decide) ?_
  refine wl_pure rfl rfl (v := .slice none 0 0) (by decide) (by kernel_rfl) ?_
  refine wl_pure rfl rfl (v := .int .i64 4) (by decide) (by kernel_rfl) ?_
  refine wl_assign rfl rfl (by decide) ?_
  refine wl_assign rfl rfl (by decide) ?_
  refine wl_nil ?_
  refine eo_then ?_
  refine cw_seq ?_
  refine cw_seq ?_
  -- region 2
  refine cw_region ?_
  refine wl_move rfl rfl (by decide) ?_
  refine wl_pure rfl rfl (v := .bool true) (by decide) (by kernel_rfl) ?_
  refine wl_nil ?_
  refine eo_then ?_
  refine cw_true rfl ?_
  refine cw_seq ?_
  -- region 3
  refine cw_region ?_
  refine wl_pure rfl rfl (v := .agg #[.bool false, .slice none 0 0]) (by decide) (by kernel_rfl) ?_
  refine wl_move rfl rfl (by decide) ?_
  have hb22 := (hb15.ext e19)
  refine wl_stored rfl rfl rfl aggInt rfl hb22 (Nat.le_of_ble_eq_true rfl) rfl [.bool false, .slice none 0 0] rfl fun v21 hb23 u24 hs25 => ?_
  have hw5 : Ext w v21 := u24.ext hw4 ge16
  refine wl_assign rfl rfl (by decide) ?_
  refine wl_nil ?_
  refine eo_then ?_
  refine cw_ret ?_
  refine eo_thenR ?_
  refine eo_ret [.agg #[.bool false, .slice none 0 0], .int .i64 4] rfl ⟨⟨_, rfl, load_agg aggInt hb23 [.bool false, .slice none 0 0] rfl (Nat.le_of_ble_eq_true rfl) rfl⟩, rfl, trivial⟩ ?_
  exact ⟨_, rfl, ⟨_, _, rfl, ⟨_, _, _, _, rfl, ((Zr.zero (w := v18) (base := w.heap.size)).updT hb22 u24)⟩, rfl⟩, hw5⟩
theorem g_zint_Exact_bad {w : World} {sa : Bool} {Aa : Option Addr} {na ca : Nat} {x : Int} {sb : Bool} {Ab : Option Addr} {nb cb : Nat} {y : Int} {b : Nat} (hb : b ≤ w.heap.size)  (hx : Zi w sa Aa na ca x) (la : na ≤ 68719476736) (hy : Zi w sb Ab nb cb y) (lb : nb ≤ 68719476736) (h0 : y = 0) :
    Calls Try.prog 60 #[.agg #[.bool sa, .slice Aa na ca], .agg #[.bool sb, .slice Ab nb cb]] w (Gv w (T2 (ZR b (0)) (Is (.int .i64 4)))) := (g_zint_Exact_badI hx la hy lb h0).mono (Gv.imp (T2.imp (ZR.imp hb) Is.imp))

set_option maxHeartbeats 4000000 in
theorem g_zint_Exact_notI {w : World} {sa : Bool} {Aa : Option Addr} {na ca : Nat} {x : Int} {sb : Bool} {Ab : Option Addr} {nb cb : Nat} {y : Int} (hx : Zi w sa Aa na ca x) (la : na ≤ 68719476736) (hy : Zi w sb Ab nb cb y) (lb : nb ≤ 68719476736) (h0 : y ≠ 0) (hd : x.natAbs % y.natAbs ≠ 0) :
    Calls Try.prog 60 #[.agg #[.bool sa, .slice Aa na ca], .agg #[.bool sb, .slice Ab nb cb]] w (Gv w (T2 (ZR w.heap.size (0)) (Is (.int .i64 8)))) := by
  have Lx : ln x ≤ 68719476736 := Nat.le_trans hx.ln la
  have Ly : ln y ≤ 68719476736 := Nat.le_trans hy.ln lb
  refine sx_enter Try.func60 rfl (n := 27) rfl (Nat.le_of_ble_eq_true rfl) (args := [.agg #[.bool sa, .slice Aa na ca], .agg #[.bool sb, .slice Ab nb cb]]) ?_
  refine cw_keep [(0, .agg #[.bool sa, .slice Aa na ca]), (1, .agg #[.bool sb, .slice Ab nb cb])] ⟨rfl, rfl, trivial⟩ ?_
  refine cw_seq ?_
  -- region 0
  refine cw_region ?_
  refine wl_box rfl rfl (vs := [.bool sa, .slice Aa na ca]) rfl (by decide) fun g1 v2 nb => ?_
  have hb4 := nb.bk
  have ge5 : w.heap.size ≤ g1 := by rw [← nb.at_]; exact (Ext.refl w).size
  have e3 := nb.ext
  clear nb
  have hw1 : Ext w v2 := (Ext.refl w).trans e3
  refine wl_box rfl rfl (vs := [.bool sb, .slice Ab nb cb]) rfl (by decide) fun g6 v7 nb => ?_
  have hb9 := nb.bk
  have ge10 : w.heap.size ≤ g6 := by rw [← nb.at_]; exact hw1.size
  have q11 : g1 < g6 := by rw [← nb.at_]; exact hb4.lt
  have e8 := nb.ext
  clear nb
  have hw2 : Ext w v7 := hw1.trans e8
  refine wl_alloc rfl (z := .agg #[.bool false, .slice none 0 0]) (vs := [.bool false, .slice none 0 0]) (fun _ => by kernel_rfl) rfl (by decide) fun g12 v13 nb => ?_
  have hb15 := nb.bk
  have ge16 : w.heap.size ≤ g12 := by rw [← nb.at_]; exact hw2.size
  have q17 : g6 < g12 := by rw [← nb.at_]; exact hb9.lt
  have e14 := nb.ext
  clear nb
  have hw3 : Ext w v13 := hw2.trans e14
  refine wl_assign rfl rfl (by decide) ?_
  refine wl_nil ?_
  refine eo_then ?_
  refine cw_seq ?_
  -- region 1
  refine cw_region ?_
  refine wl_pure rfl rfl (v := .pointer (some ⟨g1, 1, none⟩)) (by decide) (by kernel_rfl) ?_
  refine wl_load rfl rfl (load_cell cellWords (hb4.ext (e8.trans e14)) rfl) (by decide) ?_
  refine wl_pure rfl rfl (v := .pointer (some ⟨g6, 1, none⟩)) (by decide) (by kernel_rfl) ?_
  refine wl_load rfl rfl (load_cell cellWords (hb9.ext e14) rfl) (by decide) ?_
  refine wl_call rfl rfl (vs := [.slice Aa na ca, .slice Ab nb cb]) (by kernel_rfl) (by decide) (g_divnat_Exact_not (hx.ext hw3).wi (Nat.le_trans la (by decide)) (hy.ext hw3).wi (Nat.le_trans lb (by decide)) (by omega) hd) ?_
  rintro _ v18 ⟨xr20, rfl, r20, e19⟩
  refine ret_intro ?_
  have hw4 : Ext w v18 := hw3.trans e19
  obtain rfl := r20
  refine wl_move rfl rfl (by decide) ?_
  refine wl_pure rfl rfl (v := .slice none 0 0) (by decide) (by kernel_rfl) ?_
  refine wl_pure rfl rfl (v := .int .i64 8) (by decide) (by kernel_rfl) ?_
  refine wl_assign rfl rfl (by decide) ?_
  refine wl_assign rfl rfl (by decide) ?_
  refine wl_nil ?_
  refine eo_then ?_
  refine cw_seq ?_
  refine cw_seq ?_
  -- region 2
  refine cw_region ?_
  refine wl_move rfl rfl (by decide) ?_
  refine wl_pure rfl rfl (v := .bool true) (by decide) (by kernel_rfl) ?_
  refine wl_nil ?_
  refine eo_then ?_
  refine cw_true rfl ?_
  refine cw_seq ?_
  -- region 3
  refine cw_region ?_
  refine wl_pure rfl rfl (v := .agg #[.bool false, .slice none 0 0]) (by decide) (by kernel_rfl) ?_
  refine wl_move rfl rfl (by decide) ?_
  have hb22 := (hb15.ext e19)
  refine wl_stored rfl rfl rfl aggInt rfl hb22 (Nat.le_of_ble_eq_true rfl) rfl [.bool false, .slice none 0 0] rfl fun v21 hb23 u24 hs25 => ?_
  have hw5 : Ext w v21 := u24.ext hw4 ge16
  refine wl_assign rfl rfl (by decide) ?_
  refine wl_nil ?_
  refine eo_then ?_
  refine cw_ret ?_
  refine eo_thenR ?_
  refine eo_ret [.agg #[.bool false, .slice none 0 0], .int .i64 8] rfl ⟨⟨_, rfl, load_agg aggInt hb23 [.bool false, .slice none 0 0] rfl (Nat.le_of_ble_eq_true rfl) rfl⟩, rfl, trivial⟩ ?_
  exact ⟨_, rfl, ⟨_, _, rfl, ⟨_, _, _, _, rfl, ((Zr.zero (w := v18) (base := w.heap.size)).updT hb22 u24)⟩, rfl⟩, hw5⟩
theorem g_zint_Exact_not {w : World} {sa : Bool} {Aa : Option Addr} {na ca : Nat} {x : Int} {sb : Bool} {Ab : Option Addr} {nb cb : Nat} {y : Int} {b : Nat} (hb : b ≤ w.heap.size)  (hx : Zi w sa Aa na ca x) (la : na ≤ 68719476736) (hy : Zi w sb Ab nb cb y) (lb : nb ≤ 68719476736) (h0 : y ≠ 0) (hd : x.natAbs % y.natAbs ≠ 0) :
    Calls Try.prog 60 #[.agg #[.bool sa, .slice Aa na ca], .agg #[.bool sb, .slice Ab nb cb]] w (Gv w (T2 (ZR b (0)) (Is (.int .i64 8)))) := (g_zint_Exact_notI hx la hy lb h0 hd).mono (Gv.imp (T2.imp (ZR.imp hb) Is.imp))

set_option maxHeartbeats 4000000 in
theorem g_zint_Exact_okI {w : World} {sa : Bool} {Aa : Option Addr} {na ca : Nat} {x : Int} {sb : Bool} {Ab : Option Addr} {nb cb : Nat} {y : Int} (hx : Zi w sa Aa na ca x) (la : na ≤ 68719476736) (hy : Zi w sb Ab nb cb y) (lb : nb ≤ 68719476736) (h0 : y ≠ 0) (hd : x.natAbs % y.natAbs = 0) :
    Calls Try.prog 60 #[.agg #[.bool sa, .slice Aa na ca], .agg #[.bool sb, .slice Ab nb cb]] w (Gv w (T2 (ZR w.heap.size (x.tdiv y)) (Is (.int .i64 0)))) := by
  have Lx : ln x ≤ 68719476736 := Nat.le_trans hx.ln la
  have Ly : ln y ≤ 68719476736 := Nat.le_trans hy.ln lb
  refine sx_enter Try.func60 rfl (n := 27) rfl (Nat.le_of_ble_eq_true rfl) (args := [.agg #[.bool sa, .slice Aa na ca], .agg #[.bool sb, .slice Ab nb cb]]) ?_
  refine cw_keep [(0, .agg #[.bool sa, .slice Aa na ca]), (1, .agg #[.bool sb, .slice Ab nb cb])] ⟨rfl, rfl, trivial⟩ ?_
  refine cw_seq ?_
  -- region 0
  refine cw_region ?_
  refine wl_box rfl rfl (vs := [.bool sa, .slice Aa na ca]) rfl (by decide) fun g1 v2 nb => ?_
  have hb4 := nb.bk
  have ge5 : w.heap.size ≤ g1 := by rw [← nb.at_]; exact (Ext.refl w).size
  have e3 := nb.ext
  clear nb
  have hw1 : Ext w v2 := (Ext.refl w).trans e3
  refine wl_box rfl rfl (vs := [.bool sb, .slice Ab nb cb]) rfl (by decide) fun g6 v7 nb => ?_
  have hb9 := nb.bk
  have ge10 : w.heap.size ≤ g6 := by rw [← nb.at_]; exact hw1.size
  have q11 : g1 < g6 := by rw [← nb.at_]; exact hb4.lt
  have e8 := nb.ext
  clear nb
  have hw2 : Ext w v7 := hw1.trans e8
  refine wl_alloc rfl (z := .agg #[.bool false, .slice none 0 0]) (vs := [.bool false, .slice none 0 0]) (fun _ => by kernel_rfl) rfl (by decide) fun g12 v13 nb => ?_
  have hb15 := nb.bk
  have ge16 : w.heap.size ≤ g12 := by rw [← nb.at_]; exact hw2.size
  have q17 : g6 < g12 := by rw [← nb.at_]; exact hb9.lt
  have e14 := nb.ext
  clear nb
  have hw3 : Ext w v13 := hw2.trans e14
  refine wl_assign rfl rfl (by decide) ?_
  refine wl_nil ?_
  refine eo_then ?_
  refine cw_seq ?_
  -- region 1
  refine cw_region ?_
  refine wl_pure rfl rfl (v := .pointer (some ⟨g1, 1, none⟩)) (by decide) (by kernel_rfl) ?_
  refine wl_load rfl rfl (load_cell cellWords (hb4.ext (e8.trans e14)) rfl) (by decide) ?_
  refine wl_pure rfl rfl (v := .pointer (some ⟨g6, 1, none⟩)) (by decide) (by kernel_rfl) ?_
  refine wl_load rfl rfl (load_cell cellWords (hb9.ext e14) rfl) (by decide) ?_
  have L1 : (wd (x.natAbs / y.natAbs)).length ≤ 68719476736 := Nat.le_trans (len_wd_mono (Nat.div_le_self _ _)) Lx
  refine wl_call rfl rfl (vs := [.slice Aa na ca, .slice Ab nb cb]) (by kernel_rfl) (by decide) (g_divnat_Exact hw3.size (hx.ext hw3).wi (Nat.le_trans la (by decide)) (hy.ext hw3).wi (Nat.le_trans lb (by decide)) (by omega) hd) ?_
  rintro _ v18 ⟨xr20, rfl, r20, e19⟩
  refine ret_intro ?_
  have hw4 : Ext w v18 := hw3.trans e19
  obtain ⟨a21_0, a21_1, rfl, r21_0, r21_1⟩ := r20
  obtain ⟨A22, n22, c22, rfl, j22, o22⟩ := r21_0
  obtain rfl := r21_1
  refine wl_move rfl rfl (by decide) ?_
  refine wl_pure rfl rfl (v := .slice A22 n22 c22) (by decide) (by kernel_rfl) ?_
  refine wl_pure rfl rfl (v := .int .i64 0) (by decide) (by kernel_rfl) ?_
  refine wl_assign rfl rfl (by decide) ?_
  refine wl_assign rfl rfl (by decide) ?_
  refine wl_nil ?_
  refine eo_then ?_
  refine cw_seq ?_
  refine cw_seq ?_
  -- region 2
  refine cw_region ?_
  refine wl_move rfl rfl (by decide) ?_
  refine wl_pure rfl rfl (v := .bool false) (by decide) (by kernel_rfl) ?_
  refine wl_nil ?_
  refine eo_then ?_
  refine cw_false rfl ?_
  refine cw_skip ?_
  refine eo_then ?_
  refine cw_seq ?_
  -- region 4
  refine cw_region ?_
  refine wl_pure rfl rfl (v := .pointer (some ⟨g1, 0, none⟩)) (by decide) (by kernel_rfl) ?_
  refine wl_load rfl rfl (load_cell cellBool (hb4.ext (e8.trans (e14.trans e19))) rfl) (by decide) ?_
  refine wl_pure rfl rfl (v := .pointer (some ⟨g6, 0, none⟩)) (by decide) (by kernel_rfl) ?_
  refine wl_load rfl rfl (load_cell cellBool (hb9.ext (e14.trans e19)) rfl) (by decide) ?_
  refine wl_pure rfl rfl (v := .bool (!(sa == sb))) (by decide) (by kernel_rfl) ?_
  refine wl_move rfl rfl (by decide) ?_
  have L23 : ln (sg (!(sa == sb)) (Int.natAbs x / Int.natAbs y)) ≤ 68719476736 := (show (wd (sg _ _).natAbs).length ≤ _ by rw [sg_abs]; exact L1)
  refine wl_call rfl rfl (vs := [.bool (!(sa == sb)), .slice A22 n22 c22]) (by kernel_rfl) (by decide) (g_zint_of j22 o22) ?_
  rintro _ v24 ⟨xr26, rfl, r26, e25⟩
  refine ret_intro ?_
  have hw5 : Ext w v24 := hw4.trans e25
  obtain ⟨s27, A27, n27, c27, rfl, z27⟩ := r26
  have hb29 := (hb15.ext (e19.trans e25))
  refine wl_stored rfl rfl rfl aggInt rfl hb29 (Nat.le_of_ble_eq_true rfl) rfl [.bool s27, .slice A27 n27 c27] rfl fun v28 hb30 u31 hs32 => ?_
  have hw6 : Ext w v28 := u31.ext hw5 ge16
  refine wl_assign rfl rfl (by decide) ?_
  refine wl_nil ?_
  refine eo_then ?_
  refine cw_ret ?_
  refine eo_ret [.agg #[.bool s27, .slice A27 n27 c27], .int .i64 0] rfl ⟨⟨_, rfl, load_agg aggInt hb30 [.bool s27, .slice A27 n27 c27] rfl (Nat.le_of_ble_eq_true rfl) rfl⟩, rfl, trivial⟩ ?_
  exact ⟨_, rfl, ⟨_, _, rfl, ⟨_, _, _, _, rfl, ((z27.updT hb29 u31)).cast (by rw [show (!(sa == sb)) = (sa != sb) from rfl, sg_tdiv, hx.sg_, hy.sg_])⟩, rfl⟩, hw6⟩
theorem g_zint_Exact_ok {w : World} {sa : Bool} {Aa : Option Addr} {na ca : Nat} {x : Int} {sb : Bool} {Ab : Option Addr} {nb cb : Nat} {y : Int} {b : Nat} (hb : b ≤ w.heap.size)  (hx : Zi w sa Aa na ca x) (la : na ≤ 68719476736) (hy : Zi w sb Ab nb cb y) (lb : nb ≤ 68719476736) (h0 : y ≠ 0) (hd : x.natAbs % y.natAbs = 0) :
    Calls Try.prog 60 #[.agg #[.bool sa, .slice Aa na ca], .agg #[.bool sb, .slice Ab nb cb]] w (Gv w (T2 (ZR b (x.tdiv y)) (Is (.int .i64 0)))) := (g_zint_Exact_okI hx la hy lb h0 hd).mono (Gv.imp (T2.imp (ZR.imp hb) Is.imp))

end Go.Proofs.Ytmaconeeonkdgaa
