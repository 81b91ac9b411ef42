/- Parts Rt, Ru, Rxe, Rv, Rw, Law4, Law4t, Law4s, joined. -/
import Derived.Test.YtmjdmjflgiicaaaDoorP2

namespace Go.Proofs.YtmjdmjflgiicaaaDoor
open Go.RowKit
/-- a text's character that was read -/
structure Rune (bs : List Nat) (p r z : Nat) : Prop where
  le : r ≤ 2147483647
  low : bs.getD p 0 < 128 → r = bs.getD p 0 ∧ z = 1
  high : 128 ≤ bs.getD p 0 → 128 ≤ r
theorem Rune.dv {bs : List Nat} {p r z : Nat} (h : Rune bs p r z) : dv r = dv (bs.getD p 0) := by
  by_cases h1 : bs.getD p 0 < 128
  · rw [(h.low h1).1]
  · rw [dv_high (h.high (by omega)), dv_high (by omega)]
theorem Rune.one {bs : List Nat} {p r z : Nat} (h : Rune bs p r z) (hd : Go.Proofs.YtmjdmjflgiicaaaDoor.dv r < 36) : z = 1 ∧ r = bs.getD p 0 ∧ r < 128 := by
  by_cases h1 : bs.getD p 0 < 128
  · exact ⟨(h.low h1).2, (h.low h1).1, by rw [(h.low h1).1]; exact h1⟩
  · rw [dv_high (h.high (by omega))] at hd; omega
theorem rune_mk {bs : List Nat} (hb : ∀ b, b ∈ bs → b < 256) {p : Nat} (hp : p < bs.length) : Rune bs p (Utf8.decode (strB bs) p).1 (Utf8.decode (strB bs) p).2 := by
  refine ⟨decode_le _ _, fun h => by rw [decode_low hb hp h]; exact ⟨rfl, rfl⟩, fun h => ?_⟩
  have hs : p < (strB bs).size := by rw [strB_size]; exact hp
  exact (decode_high (strB bs) p hs (by rw [strB_get hb hp hs]; exact h)).1
section
variable {P : Program} {Q : Exit → Act → World → Prop} {n : Nat} {l : Fr} {w : World} {ops : Array Oper} {rest : List Oper} {d : Nat} {ty : TypeId} {pos : String} {af : Array Edge} {gd : Option (Nat × Bool)}
theorem wl_nextR {x : Operand} {g p : Nat} {bs : List Nat} (hw : guardB ops l gd = some true) (hx : evo l x = some (.pointer (some ⟨g, 0, none⟩))) (hb : ∀ b, b ∈ bs → b < 256) (h : It w g bs p) (hp : p < bs.length) (hn : d < n)
    (k : ∀ w' r z, Rune bs p r z → It w' g bs (p + z) → Upd g w w' → wl P ops Q n rest ((d, .tuple #[.bool true, .int .i64 (p : Int), .int .i32 (r : Int)]) :: l) w') :
    wl P ops Q n (⟨some d, .next x true, ty, pos, af, gd⟩ :: rest) l w :=
  wl_next hw hx h hp hn fun w' h1 h2 => k w' _ _ (rune_mk hb hp) h1 h2
/-- make([]byte, 0, k) -/
theorem wl_make80 {x y : Operand} {k : Nat} {t e : TypeId} {z : Value} (hw : guardB ops l gd = some true) (hx : evo l x = some (.int .i64 0)) (hy : evo l y = some (.int .i64 (k : Int))) (ht : P.underlying t = some (.slice e))
    (hinfo : (P.info? e).map (fun i => (i.zero, i.size, i.bytes)) = some (some z, 1, 1)) (_hz : z.cells = #[z]) (hk : k ≤ 1099511627776) (hd : d < n)
    (h : ∀ g w', Own w' w.heap.size e 1 (some ⟨g, 0, none⟩) 0 k [] → Ext w w' → wl P ops Q n rest ((d, .slice (some ⟨g, 0, none⟩) 0 k) :: l) w') : wl P ops Q n (⟨some d, .makeSlice t x y, ty, pos, af, gd⟩ :: rest) l w := by
  obtain ⟨i, hi, hz0, hz1, hz2⟩ := info_parts hinfo
  have hr := run_make (P := P) w t e i _ ht hi hz0 .i64 .i64 0 (k : Int) (by omega) (by omega) (by rw [hz2]; omega) (by omega)
  rw [Int.toNat_natCast, show (0 : Int).toNat = 0 from rfl, hz1] at hr
  obtain ⟨cs, hcs, hcl⟩ : ∃ cs : List Value, madeCells z.cells (k * 1) = cs.toArray ∧ cs.length = k * 1 := ⟨(madeCells z.cells (k * 1)).toList, Array.toArray_toList.symm, by rw [Array.length_toList, size_madeCells]⟩
  rw [hcs] at hr
  refine wl_val hw hd (fun a' ha => ?_) (h _ (w.alloc (.cells cs.toArray e)) (Or.inr ⟨w.heap.size, cs, rfl, Nat.le_refl _, Bk.new _ _ _, Nat.zero_le _, by rw [len_maxLen]; omega, hcl, rfl⟩) ((Ext.refl w).alloc _))
  have e' : (Instr.makeSlice t (a'.eval x) (a'.eval y)).run P w = .ok (.slice (some ⟨w.heap.size, 0, none⟩) 0 k) (w.alloc (.cells cs.toArray e)) := by rw [ha.ev hx, ha.ev hy]; exact hr
  show ((Instr.makeSlice t (a'.eval x) (a'.eval y) >>= fun r => pure (Next.value r) : Sem Next)).run P w = _
  rw [Sem.run_bind, e']; rfl
end
theorem cv_u8 {x : Nat} (h : x ≤ 255) : Value.int .u8 (IntKind.u8.wrap (x : Int)) = .int .u8 (x : Int) := by rw [IntWalk.u8_in _ ⟨by omega, by omega⟩]
theorem ai32_sub {A B : Int} {a b : Nat} (ha : A = (a : Int)) (hb : B = (b : Int)) (h : b ≤ a) (h2 : a ≤ 2147483647) : arB .sub .i32 A B = some ((a - b : Nat) : Int) := by
  subst ha hb; simp only [arB, Option.some.injEq]; rw [show (a : Int) - (b : Int) = ((a - b : Nat) : Int) by omega, IntWalk.i32_in _ ⟨by omega, by omega⟩]
/-- bytes that are read -/
structure Rb (b : Nat) (w : World) (A : Option Addr) (n c : Nat) (xs : List Nat) : Prop where
  rv : Rv w 1 A n c (xs.map B8)
  wf : ∀ x, x ∈ xs → x < b
theorem Rb.ext {b : Nat} {w w' : World} {A : Option Addr} {n c : Nat} {xs : List Nat} (h : Rb b w A n c xs) (e : Ext w w') : Rb b w' A n c xs := ⟨h.rv.ext e, h.wf⟩
theorem Rb.len {b : Nat} {w : World} {A : Option Addr} {n c : Nat} {xs : List Nat} (h : Rb b w A n c xs) : xs.length = n := by simpa using h.rv.len
theorem Rb.dig {b : Nat} {w : World} {A : Option Addr} {n c i : Nat} {xs : List Nat} (h : Rb b w A n c xs) (hi : i < n) : xs.getD i 0 < b := by
  have hl := h.len
  refine h.wf _ ?_
  rw [List.getD_eq_getElem?_getD, List.getElem?_eq_getElem (by omega)]
  exact List.getElem_mem (by omega)
theorem Rb.at {b : Nat} (_ : True) {w : World} {A : Option Addr} {n c : Nat} {xs : List Nat} (h : Rb b w A n c xs) {i : Nat} (hi : i < n) :
    ∃ p, A.map (·.add (i * 1)) = some p ∧ w.cell? p = some (.int .u8 ((xs.getD i 0 : Nat) : Int)) ∧ xs.getD i 0 < b := by
  have hl := h.len
  obtain ⟨a, rfl, hc⟩ := h.rv.get i (by omega)
  refine ⟨a.add i, by rw [Nat.mul_one]; rfl, ?_, h.dig hi⟩
  rw [hc, List.getD_eq_getElem?_getD, List.getElem?_map, List.getElem?_eq_getElem (by omega), List.getD_eq_getElem?_getD, List.getElem?_eq_getElem (by omega)]
  rfl
theorem Rb.take {b : Nat} {w : World} {A : Option Addr} {n c k : Nat} {xs : List Nat} (h : Rb b w A n c xs) (hk : k ≤ n) : Rb b w A k c (xs.take k) := by
  have hl := h.len
  have hle := h.rv.le
  refine ⟨⟨by rw [List.length_map, List.length_take, hl]; omega, by omega, h.rv.max, fun i hi => ?_, h.rv.blk⟩, fun x hx => h.wf x (List.mem_of_mem_take hx)⟩
  obtain ⟨a, ha, hc⟩ := h.rv.get i (by omega)
  refine ⟨a, ha, hc.trans ?_⟩
  rw [List.map_take, List.getD_eq_getElem?_getD, List.getD_eq_getElem?_getD, List.getElem?_take, if_pos (by omega)]
theorem Rb.drop {b : Nat} {w : World} {A : Option Addr} {n c k : Nat} {xs : List Nat} (h : Rb b w A n c xs) (hk : k ≤ n) : Rb b w (if c = k then A else A.map (·.add (k * 1))) (n - k) (c - k) (xs.drop k) := by
  have hle := h.rv.le
  have hl := h.len
  refine ⟨⟨by rw [List.length_map, List.length_drop, hl, Nat.mul_one], by omega, by have := h.rv.max; omega, fun i hi => ?_, fun a ha hc => ?_⟩, fun x hx => h.wf x (List.mem_of_mem_drop hx)⟩
  · rw [if_neg (by omega)]
    obtain ⟨a, rfl, hc⟩ := h.rv.get (k + i) (by omega)
    refine ⟨a.add (k * 1), rfl, ?_⟩
    rw [Nat.mul_one, Addr.add_add, hc]
    simp [List.getD_eq_getElem?_getD, List.getElem?_map, List.getElem?_drop]
  · rw [if_neg (by omega)] at ha
    cases A with
    | none => cases ha
    | some p =>
      cases ha
      rw [block_of_add]
      exact h.rv.blk p rfl (by omega)
theorem Own.rb {w : World} {lb b n c : Nat} {A : Option Addr} {xs : List Nat} (h : Own w lb 5 1 A n c (xs.map B8)) (hd : ∀ x, x ∈ xs → x < b) : Rb b w A n c xs := ⟨h.rv, hd⟩
theorem slice_to8 (A : Option Addr) (c k : Nat) : Value.slice (if c = 0 then A else A.map (·.add (0 * 1))) (k - 0) (c - 0) = .slice A k c := by
  have h0 : A.map (·.add (0 * 1)) = A := by
    cases A with
    | none => rfl
    | some a => simp [Addr.add]
  rw [h0, ite_self]; rfl
theorem slice_from (A : Option Addr) (n c k : Nat) : Value.slice (if c = k then A else A.map (·.add (k * 1))) (n - k) (c - k) = .slice (if c = k then A else A.map (·.add (k * 1))) (n - k) (c - k) := rfl
section
variable {w : World} {b : Nat}
theorem rx_MulW (hb : b ≤ w.heap.size) {A B : Option Addr} {n c m d x y : Nat} (hx : Wi w A n c x) (hy : Wi w B m d y) (hN : n + m ≤ 274877906944) : Calls Tryd.prog 57 #[.slice A n c, .slice B m d] w (Gv w (WR b (x * y))) := by
  obtain ⟨xs, h1, rfl⟩ := hx; obtain ⟨ys, h2, rfl⟩ := hy
  exact (mulnat_Mul h1 h2 hN).mono (gw hb)
theorem mulnat_MulAdd {A B C : Option Addr} {n cap m cap' k c : Nat} {xs ys zs : List Nat} (hx : Rd w A n cap xs) (hy : Rd w B m cap' ys) (hz : Rd w C k c zs) (hN : n + m ≤ 274877906944) (hk : k ≤ 1099511627775) :
    Calls Tryd.prog 39 #[.slice A n cap, .slice B m cap', .slice C k c] w (RetW w (nv xs * nv ys + nv zs)) := by
  go_enter Tryd.func39, Tryd.ntmps39
  go_wp2_with fail
  refine (mul_product hx hy hN).mono ?_
  rintro e w1 ⟨k1, hk1, g1, z1, rfl, hg1, hb1, hw1, hl1, hv1, hx1⟩
  have hk1b : k1 ≤ n + m := by
    rw [hk1.out]
    have h1 := len_wd_nv hx.wf
    have h2 := len_wd_nv hy.wf
    rw [hx.len] at h1
    rw [hy.len] at h2
    omega
  go_wp2_with fail
  refine (nat_Add (NewP.rd hb1 hw1 hl1.out (by omega)) (by omega) (hz.ext hx1) hk).mono ?_
  rintro e w2 ⟨A2, n2, c2, rfl, hn2, hr2, ho2, hx2⟩
  go_wp2_with fail
  go_ret
  rw [hv1.out] at hn2 hr2 ho2
  exact ⟨A2, n2, c2, rfl, hn2, hr2, ho2.mono hx1.size, hx1.trans hx2⟩
theorem rx_MulAdd (hb : b ≤ w.heap.size) {A B C : Option Addr} {an ac bn bc cn cc x y z : Nat} (hx : Wi w A an ac x) (hy : Wi w B bn bc y) (hz : Wi w C cn cc z) (hN : an + bn ≤ 274877906944) (hcn : cn ≤ 1099511627775) : Calls Tryd.prog 39 #[.slice A an ac, .slice B bn bc, .slice C cn cc] w (Gv w (WR b (x * y + z))) := by
  obtain ⟨xs, h1, rfl⟩ := hx; obtain ⟨ys, h2, rfl⟩ := hy; obtain ⟨zs, h3, rfl⟩ := hz
  exact (mulnat_MulAdd h1 h2 h3 hN hcn).mono (gw hb)
theorem rx_AddW (hb : b ≤ w.heap.size) {A B : Option Addr} {n c m d x y : Nat} (hx : Wi w A n c x) (hl : n ≤ 1099511627775) (hy : Wi w B m d y) (hl' : m ≤ 1099511627775) : Calls Tryd.prog 58 #[.slice A n c, .slice B m d] w (Gv w (WR b (x + y))) := by
  obtain ⟨xs, h1, rfl⟩ := hx; obtain ⟨ys, h2, rfl⟩ := hy
  exact (nat_Add h1 hl h2 hl').mono (gw hb)
theorem rx_MulWord (hb : b ≤ w.heap.size) {A : Option Addr} {n c x v : Nat} (hx : Wi w A n c x) (hl : n ≤ 137438953472) (hv : v ≤ 18446744073709551615) : Calls Tryd.prog 91 #[.slice A n c, .int .u64 (v : Int)] w (Gv w (WR b (x * v))) := by
  obtain ⟨xs, h1, rfl⟩ := hx
  exact (mulnat_Word h1 hl hv).mono (gw hb)
theorem rx_LeastW (hb : b ≤ w.heap.size) {A : Option Addr} {n c m : Nat} (hx : Wi w A n c m) (hl : n ≤ 1099511627776) : Calls Tryd.prog 38 #[.slice A n c] w (Gv w (WR b m)) := (g_nat_LeastW hx hl).mono (Gv.imp (WR.imp hb))
end
theorem len_vald {b : Nat} (hb : 1 ≤ b) (hb2 : b ≤ 36) {ds : List Nat} (h : ∀ d, d ∈ ds → d < b) : (wd (vald b ds)).length ≤ ds.length :=
  len_wd_le (Nat.lt_of_lt_of_le (vald_lt hb ds h) (Nat.pow_le_pow_left (by rw [WB_def]; omega) _))
theorem len_pow36 {b n : Nat} (hb2 : b ≤ 36) : (wd (b ^ n)).length ≤ n + 1 :=
  len_wd_le (Nat.lt_of_le_of_lt (Nat.pow_le_pow_left (show b ≤ WB by rw [WB_def]; omega) n) (Nat.pow_lt_pow_right (show 1 < WB by rw [WB_def]; omega) (Nat.lt_succ_self n)))
theorem pw_half {p b n : Nat} : p * (b * b) ^ (n / 2) * b ^ (n % 2) = p * b ^ n := by
  rw [← Nat.pow_two, ← Nat.pow_mul, Nat.mul_assoc, ← Nat.pow_add]
  congr 2
  omega
theorem pw_odd {p b n : Nat} (h : n % 2 = 1) : p * b * (b * b) ^ (n / 2) = p * b ^ n := by
  have := pw_half (p := p) (b := b) (n := n)
  rw [h, Nat.pow_one] at this
  rw [← this, Nat.mul_assoc, Nat.mul_assoc, Nat.mul_comm b]
theorem pw_even {p b n : Nat} (h : ¬ n % 2 = 1) : p * (b * b) ^ (n / 2) = p * b ^ n := by
  have := pw_half (p := p) (b := b) (n := n)
  rw [show n % 2 = 0 by omega, Nat.pow_zero, Nat.mul_one] at this
  exact this
theorem pw_last {p b c n : Nat} (h : n = 1) : p * b * c ^ (n / 2) = p * b ^ n := by subst h; simp
theorem pw_b {p b n X : Nat} (h : p * b ^ n = X) (hp : 1 ≤ p) (hb : 1 ≤ b) (hn : 0 < n) : b ≤ X := by
  rw [← h]
  have h1 : b ^ 1 ≤ b ^ n := Nat.pow_le_pow_right hb hn
  rw [Nat.pow_one] at h1
  exact Nat.le_trans h1 (Nat.le_mul_of_pos_left _ hp)
theorem pw_p {p b n X : Nat} (h : p * b ^ n = X) (hb : 1 ≤ b) : p ≤ X := by
  rw [← h]; exact Nat.le_mul_of_pos_right _ (Nat.pow_pos hb)
theorem vald_piece {b : Nat} {pre xs : List Nat} {k : Nat} (hk : k ≤ xs.length) : vald b (pre ++ xs.take k) = vald b pre * b ^ k + vald b (xs.take k) := by
  rw [vald_append, List.length_take, Nat.min_eq_left hk]
theorem take_get {xs : List Nat} {i n : Nat} (h : i < n) (hn : n ≤ xs.length) : xs.take (i + 1) = xs.take i ++ [(xs.take n).getD i 0] := by
  rw [List.take_add_one, List.getD_eq_getElem?_getD, List.getElem?_take, if_pos h, List.getElem?_eq_getElem (by omega)]
  rfl
set_option maxHeartbeats 4000000 in
theorem rx_value {w : World} {c : Nat} (hc : c ≤ 2147483647) :
    Calls Tryd.prog 64 #[.int .i32 ((c : Nat) : Int)] w (Gv w (Is (.int .i64 ((dv c : Nat) : Int)))) := by
  refine sx_enter Tryd.func64 rfl (n := 35) rfl (Nat.le_of_ble_eq_true rfl) (args := [.int .i32 ((c : Nat) : Int)]) ?_
  refine cw_keep [(0, .int .i32 ((c : Nat) : Int))] ⟨rfl, trivial⟩ ?_
  refine cw_seq ?_
  refine cw_region ?_
  refine wl_assign rfl rfl (by decide) ?_
  refine wl_nil ?_
  refine eo_then ?_
  refine cw_seq ?_
  refine cw_block ?_
  refine cw_seq ?_
  by_cases ha48 : c ≥ 48
  ·
    by_cases hb57 : c ≤ 57
    ·
      refine cw_region ?_
      refine wl_move rfl rfl (by decide) ?_
      refine wl_cmp rfl rfl rfl true (cb_ge_t (a := c) (b := 48) rfl rfl (by omega)) (by decide) ?_
      refine wl_move rfl rfl (by decide) ?_
      refine wl_move rfl rfl (by decide) ?_
      refine wl_cmp rfl rfl rfl true (cb_le_t (a := c) (b := 57) rfl rfl (by omega)) (by decide) ?_
      refine wl_pure rfl rfl (v := .bool true) (by decide) (by kernel_rfl) ?_
      refine wl_assign rfl rfl (by decide) ?_
      refine wl_nil ?_
      refine eo_then ?_
      refine cw_true rfl ?_
      refine cw_seq ?_
      refine cw_region ?_
      refine wl_move rfl rfl (by decide) ?_
      refine wl_ar rfl rfl rfl ((c - 48 : Nat) : Int) (ai32_sub (a := c) (b := 48) rfl rfl (by omega) (by omega)) (by decide) ?_
      refine wl_pureE rfl rfl (v := .int .i64 (IntKind.i64.wrap ((c - 48 : Nat) : Int))) (v' := .int .i64 ((c - 48 : Nat) : Int)) (by decide) (by kernel_rfl) (cv_i64 (by first | omega | exact hle64)) ?_
      refine wl_assign rfl rfl (by decide) ?_
      refine wl_nil ?_
      refine eo_then ?_
      refine cw_ret ?_
      refine eo_block_ret ?_
      refine eo_thenR ?_
      refine eo_ret [.int .i64 ((c - 48 : Nat) : Int)] rfl ⟨rfl, trivial⟩ ?_
      have hv : c - 48 = dv c := by unfold dv; (repeat' split) <;> omega
      exact ⟨_, rfl, (show Value.int .i64 ((c - 48 : Nat) : Int) = _ by rw [hv]), (Ext.refl w)⟩
    ·
      refine cw_region ?_
      refine wl_move rfl rfl (by decide) ?_
      refine wl_cmp rfl rfl rfl true (cb_ge_t (a := c) (b := 48) rfl rfl (by omega)) (by decide) ?_
      refine wl_move rfl rfl (by decide) ?_
      refine wl_move rfl rfl (by decide) ?_
      refine wl_cmp rfl rfl rfl false (cb_le_f (a := c) (b := 57) rfl rfl (by omega)) (by decide) ?_
      refine wl_pure rfl rfl (v := .bool false) (by decide) (by kernel_rfl) ?_
      refine wl_assign rfl rfl (by decide) ?_
      refine wl_nil ?_
      refine eo_then ?_
      refine cw_false rfl ?_
      refine cw_seq ?_
      by_cases ha97 : c ≥ 97
      ·
        by_cases hb122 : c ≤ 122
        ·
          refine cw_region ?_
          refine wl_move rfl rfl (by decide) ?_
          refine wl_cmp rfl rfl rfl true (cb_ge_t (a := c) (b := 97) rfl rfl (by omega)) (by decide) ?_
          refine wl_move rfl rfl (by decide) ?_
          refine wl_move rfl rfl (by decide) ?_
          refine wl_cmp rfl rfl rfl true (cb_le_t (a := c) (b := 122) rfl rfl (by omega)) (by decide) ?_
          refine wl_pure rfl rfl (v := .bool true) (by decide) (by kernel_rfl) ?_
          refine wl_assign rfl rfl (by decide) ?_
          refine wl_nil ?_
          refine eo_then ?_
          refine cw_true rfl ?_
          refine cw_seq ?_
          refine cw_region ?_
          refine wl_move rfl rfl (by decide) ?_
          refine wl_ar rfl rfl rfl ((c - 97 : Nat) : Int) (ai32_sub (a := c) (b := 97) rfl rfl (by omega) (by omega)) (by decide) ?_
          refine wl_pureE rfl rfl (v := .int .i64 (IntKind.i64.wrap ((c - 97 : Nat) : Int))) (v' := .int .i64 ((c - 97 : Nat) : Int)) (by decide) (by kernel_rfl) (cv_i64 (by first | omega | exact hle64)) ?_
          refine wl_ar rfl rfl rfl (((c - 97) + 10 : Nat) : Int) (ai_add (a := c - 97) (b := 10) rfl rfl (by omega)) (by decide) ?_
          refine wl_assign rfl rfl (by decide) ?_
          refine wl_nil ?_
          refine eo_then ?_
          refine cw_ret ?_
          refine eo_block_ret ?_
          refine eo_thenR ?_
          refine eo_ret [.int .i64 (((c - 97) + 10 : Nat) : Int)] rfl ⟨rfl, trivial⟩ ?_
          have hv : (c - 97) + 10 = dv c := by unfold dv; (repeat' split) <;> omega
          exact ⟨_, rfl, (show Value.int .i64 (((c - 97) + 10 : Nat) : Int) = _ by rw [hv]), (Ext.refl w)⟩
        ·
          refine cw_region ?_
          refine wl_move rfl rfl (by decide) ?_
          refine wl_cmp rfl rfl rfl true (cb_ge_t (a := c) (b := 97) rfl rfl (by omega)) (by decide) ?_
          refine wl_move rfl rfl (by decide) ?_
          refine wl_move rfl rfl (by decide) ?_
          refine wl_cmp rfl rfl rfl false (cb_le_f (a := c) (b := 122) rfl rfl (by omega)) (by decide) ?_
          refine wl_pure rfl rfl (v := .bool false) (by decide) (by kernel_rfl) ?_
          refine wl_assign rfl rfl (by decide) ?_
          refine wl_nil ?_
          refine eo_then ?_
          refine cw_false rfl ?_
          refine cw_seq ?_
          by_cases ha65 : c ≥ 65
          ·
            by_cases hb90 : c ≤ 90
            ·
              refine cw_region ?_
              refine wl_move rfl rfl (by decide) ?_
              refine wl_cmp rfl rfl rfl true (cb_ge_t (a := c) (b := 65) rfl rfl (by omega)) (by decide) ?_
              refine wl_move rfl rfl (by decide) ?_
              refine wl_move rfl rfl (by decide) ?_
              refine wl_cmp rfl rfl rfl true (cb_le_t (a := c) (b := 90) rfl rfl (by omega)) (by decide) ?_
              refine wl_pure rfl rfl (v := .bool true) (by decide) (by kernel_rfl) ?_
              refine wl_assign rfl rfl (by decide) ?_
              refine wl_nil ?_
              refine eo_then ?_
              refine cw_true rfl ?_
              refine cw_seq ?_
              refine cw_region ?_
              refine wl_move rfl rfl (by decide) ?_
              refine wl_ar rfl rfl rfl ((c - 65 : Nat) : Int) (ai32_sub (a := c) (b := 65) rfl rfl (by omega) (by omega)) (by decide) ?_
              refine wl_pureE rfl rfl (v := .int .i64 (IntKind.i64.wrap ((c - 65 : Nat) : Int))) (v' := .int .i64 ((c - 65 : Nat) : Int)) (by decide) (by kernel_rfl) (cv_i64 (by first | omega | exact hle64)) ?_
              refine wl_ar rfl rfl rfl (((c - 65) + 10 : Nat) : Int) (ai_add (a := c - 65) (b := 10) rfl rfl (by omega)) (by decide) ?_
              refine wl_assign rfl rfl (by decide) ?_
              refine wl_nil ?_
              refine eo_then ?_
              refine cw_ret ?_
              refine eo_block_ret ?_
              refine eo_thenR ?_
              refine eo_ret [.int .i64 (((c - 65) + 10 : Nat) : Int)] rfl ⟨rfl, trivial⟩ ?_
              have hv : (c - 65) + 10 = dv c := by unfold dv; (repeat' split) <;> omega
              exact ⟨_, rfl, (show Value.int .i64 (((c - 65) + 10 : Nat) : Int) = _ by rw [hv]), (Ext.refl w)⟩
            ·
              refine cw_region ?_
              refine wl_move rfl rfl (by decide) ?_
              refine wl_cmp rfl rfl rfl true (cb_ge_t (a := c) (b := 65) rfl rfl (by omega)) (by decide) ?_
              refine wl_move rfl rfl (by decide) ?_
              refine wl_move rfl rfl (by decide) ?_
              refine wl_cmp rfl rfl rfl false (cb_le_f (a := c) (b := 90) rfl rfl (by omega)) (by decide) ?_
              refine wl_pure rfl rfl (v := .bool false) (by decide) (by kernel_rfl) ?_
              refine wl_assign rfl rfl (by decide) ?_
              refine wl_nil ?_
              refine eo_then ?_
              refine cw_false rfl ?_
              refine cw_skip ?_
              refine eo_block_normal ?_
              refine eo_then ?_
              refine cw_seq ?_
              refine cw_region ?_
              refine wl_assign rfl rfl (by decide) ?_
              refine wl_nil ?_
              refine eo_then ?_
              refine cw_ret ?_
              refine eo_ret [.int .i64 36] rfl ⟨rfl, trivial⟩ ?_
              have hv : 36 = dv c := by unfold dv; (repeat' split) <;> omega
              exact ⟨_, rfl, (show Value.int .i64 ((36 : Nat) : Int) = _ by rw [hv]), (Ext.refl w)⟩
          ·
            refine cw_region ?_
            refine wl_move rfl rfl (by decide) ?_
            refine wl_cmp rfl rfl rfl false (cb_ge_f (a := c) (b := 65) rfl rfl (by omega)) (by decide) ?_
            refine wl_move rfl rfl (by decide) ?_
            refine wl_off rfl (by decide) ?_
            refine wl_off rfl (by decide) ?_
            refine wl_pure rfl rfl (v := .bool false) (by decide) (by kernel_rfl) ?_
            refine wl_assign rfl rfl (by decide) ?_
            refine wl_nil ?_
            refine eo_then ?_
            refine cw_false rfl ?_
            refine cw_skip ?_
            refine eo_block_normal ?_
            refine eo_then ?_
            refine cw_seq ?_
            refine cw_region ?_
            refine wl_assign rfl rfl (by decide) ?_
            refine wl_nil ?_
            refine eo_then ?_
            refine cw_ret ?_
            refine eo_ret [.int .i64 36] rfl ⟨rfl, trivial⟩ ?_
            have hv : 36 = dv c := by unfold dv; (repeat' split) <;> omega
            exact ⟨_, rfl, (show Value.int .i64 ((36 : Nat) : Int) = _ by rw [hv]), (Ext.refl w)⟩
      ·
        refine cw_region ?_
        refine wl_move rfl rfl (by decide) ?_
        refine wl_cmp rfl rfl rfl false (cb_ge_f (a := c) (b := 97) rfl rfl (by omega)) (by decide) ?_
        refine wl_move rfl rfl (by decide) ?_
        refine wl_off rfl (by decide) ?_
        refine wl_off rfl (by decide) ?_
        refine wl_pure rfl rfl (v := .bool false) (by decide) (by kernel_rfl) ?_
        refine wl_assign rfl rfl (by decide) ?_
        refine wl_nil ?_
        refine eo_then ?_
        refine cw_false rfl ?_
        refine cw_seq ?_
        by_cases ha65 : c ≥ 65
        ·
          by_cases hb90 : c ≤ 90
          ·
            refine cw_region ?_
            refine wl_move rfl rfl (by decide) ?_
            refine wl_cmp rfl rfl rfl true (cb_ge_t (a := c) (b := 65) rfl rfl (by omega)) (by decide) ?_
            refine wl_move rfl rfl (by decide) ?_
            refine wl_move rfl rfl (by decide) ?_
            refine wl_cmp rfl rfl rfl true (cb_le_t (a := c) (b := 90) rfl rfl (by omega)) (by decide) ?_
            refine wl_pure rfl rfl (v := .bool true) (by decide) (by kernel_rfl) ?_
            refine wl_assign rfl rfl (by decide) ?_
            refine wl_nil ?_
            refine eo_then ?_
            refine cw_true rfl ?_
            refine cw_seq ?_
            refine cw_region ?_
            refine wl_move rfl rfl (by decide) ?_
            refine wl_ar rfl rfl rfl ((c - 65 : Nat) : Int) (ai32_sub (a := c) (b := 65) rfl rfl (by omega) (by omega)) (by decide) ?_
            refine wl_pureE rfl rfl (v := .int .i64 (IntKind.i64.wrap ((c - 65 : Nat) : Int))) (v' := .int .i64 ((c - 65 : Nat) : Int)) (by decide) (by kernel_rfl) (cv_i64 (by first | omega | exact hle64)) ?_
            refine wl_ar rfl rfl rfl (((c - 65) + 10 : Nat) : Int) (ai_add (a := c - 65) (b := 10) rfl rfl (by omega)) (by decide) ?_
            refine wl_assign rfl rfl (by decide) ?_
            refine wl_nil ?_
            refine eo_then ?_
            refine cw_ret ?_
            refine eo_block_ret ?_
            refine eo_thenR ?_
            refine eo_ret [.int .i64 (((c - 65) + 10 : Nat) : Int)] rfl ⟨rfl, trivial⟩ ?_
            have hv : (c - 65) + 10 = dv c := by unfold dv; (repeat' split) <;> omega
            exact ⟨_, rfl, (show Value.int .i64 (((c - 65) + 10 : Nat) : Int) = _ by rw [hv]), (Ext.refl w)⟩
          ·
            refine cw_region ?_
            refine wl_move rfl rfl (by decide) ?_
            refine wl_cmp rfl rfl rfl true (cb_ge_t (a := c) (b := 65) rfl rfl (by omega)) (by decide) ?_
            refine wl_move rfl rfl (by decide) ?_
            refine wl_move rfl rfl (by decide) ?_
            refine wl_cmp rfl rfl rfl false (cb_le_f (a := c) (b := 90) rfl rfl (by omega)) (by decide) ?_
            refine wl_pure rfl rfl (v := .bool false) (by decide) (by kernel_rfl) ?_
            refine wl_assign rfl rfl (by decide) ?_
            refine wl_nil ?_
            refine eo_then ?_
            refine cw_false rfl ?_
            refine cw_skip ?_
            refine eo_block_normal ?_
            refine eo_then ?_
            refine cw_seq ?_
            refine cw_region ?_
            refine wl_assign rfl rfl (by decide) ?_
            refine wl_nil ?_
            refine eo_then ?_
            refine cw_ret ?_
            refine eo_ret [.int .i64 36] rfl ⟨rfl, trivial⟩ ?_
            have hv : 36 = dv c := by unfold dv; (repeat' split) <;> omega
            exact ⟨_, rfl, (show Value.int .i64 ((36 : Nat) : Int) = _ by rw [hv]), (Ext.refl w)⟩
        ·
          refine cw_region ?_
          refine wl_move rfl rfl (by decide) ?_
          refine wl_cmp rfl rfl rfl false (cb_ge_f (a := c) (b := 65) rfl rfl (by omega)) (by decide) ?_
          refine wl_move rfl rfl (by decide) ?_
          refine wl_off rfl (by decide) ?_
          refine wl_off rfl (by decide) ?_
          refine wl_pure rfl rfl (v := .bool false) (by decide) (by kernel_rfl) ?_
          refine wl_assign rfl rfl (by decide) ?_
          refine wl_nil ?_
          refine eo_then ?_
          refine cw_false rfl ?_
          refine cw_skip ?_
          refine eo_block_normal ?_
          refine eo_then ?_
          refine cw_seq ?_
          refine cw_region ?_
          refine wl_assign rfl rfl (by decide) ?_
          refine wl_nil ?_
          refine eo_then ?_
          refine cw_ret ?_
          refine eo_ret [.int .i64 36] rfl ⟨rfl, trivial⟩ ?_
          have hv : 36 = dv c := by unfold dv; (repeat' split) <;> omega
          exact ⟨_, rfl, (show Value.int .i64 ((36 : Nat) : Int) = _ by rw [hv]), (Ext.refl w)⟩
  ·
    refine cw_region ?_
    refine wl_move rfl rfl (by decide) ?_
    refine wl_cmp rfl rfl rfl false (cb_ge_f (a := c) (b := 48) rfl rfl (by omega)) (by decide) ?_
    refine wl_move rfl rfl (by decide) ?_
    refine wl_off rfl (by decide) ?_
    refine wl_off rfl (by decide) ?_
    refine wl_pure rfl rfl (v := .bool false) (by decide) (by kernel_rfl) ?_
    refine wl_assign rfl rfl (by decide) ?_
    refine wl_nil ?_
    refine eo_then ?_
    refine cw_false rfl ?_
    refine cw_seq ?_
    by_cases ha97 : c ≥ 97
    ·
      by_cases hb122 : c ≤ 122
      ·
        refine cw_region ?_
        refine wl_move rfl rfl (by decide) ?_
        refine wl_cmp rfl rfl rfl true (cb_ge_t (a := c) (b := 97) rfl rfl (by omega)) (by decide) ?_
        refine wl_move rfl rfl (by decide) ?_
        refine wl_move rfl rfl (by decide) ?_
        refine wl_cmp rfl rfl rfl true (cb_le_t (a := c) (b := 122) rfl rfl (by omega)) (by decide) ?_
        refine wl_pure rfl rfl (v := .bool true) (by decide) (by kernel_rfl) ?_
        refine wl_assign rfl rfl (by decide) ?_
        refine wl_nil ?_
        refine eo_then ?_
        refine cw_true rfl ?_
        refine cw_seq ?_
        refine cw_region ?_
        refine wl_move rfl rfl (by decide) ?_
        refine wl_ar rfl rfl rfl ((c - 97 : Nat) : Int) (ai32_sub (a := c) (b := 97) rfl rfl (by omega) (by omega)) (by decide) ?_
        refine wl_pureE rfl rfl (v := .int .i64 (IntKind.i64.wrap ((c - 97 : Nat) : Int))) (v' := .int .i64 ((c - 97 : Nat) : Int)) (by decide) (by kernel_rfl) (cv_i64 (by first | omega | exact hle64)) ?_
        refine wl_ar rfl rfl rfl (((c - 97) + 10 : Nat) : Int) (ai_add (a := c - 97) (b := 10) rfl rfl (by omega)) (by decide) ?_
        refine wl_assign rfl rfl (by decide) ?_
        refine wl_nil ?_
        refine eo_then ?_
        refine cw_ret ?_
        refine eo_block_ret ?_
        refine eo_thenR ?_
        refine eo_ret [.int .i64 (((c - 97) + 10 : Nat) : Int)] rfl ⟨rfl, trivial⟩ ?_
        have hv : (c - 97) + 10 = dv c := by unfold dv; (repeat' split) <;> omega
        exact ⟨_, rfl, (show Value.int .i64 (((c - 97) + 10 : Nat) : Int) = _ by rw [hv]), (Ext.refl w)⟩
      ·
        refine cw_region ?_
        refine wl_move rfl rfl (by decide) ?_
        refine wl_cmp rfl rfl rfl true (cb_ge_t (a := c) (b := 97) rfl rfl (by omega)) (by decide) ?_
        refine wl_move rfl rfl (by decide) ?_
        refine wl_move rfl rfl (by decide) ?_
        refine wl_cmp rfl rfl rfl false (cb_le_f (a := c) (b := 122) rfl rfl (by omega)) (by decide) ?_
        refine wl_pure rfl rfl (v := .bool false) (by decide) (by kernel_rfl) ?_
        refine wl_assign rfl rfl (by decide) ?_
        refine wl_nil ?_
        refine eo_then ?_
        refine cw_false rfl ?_
        refine cw_seq ?_
        by_cases ha65 : c ≥ 65
        ·
          by_cases hb90 : c ≤ 90
          ·
            refine cw_region ?_
            refine wl_move rfl rfl (by decide) ?_
            refine wl_cmp rfl rfl rfl true (cb_ge_t (a := c) (b := 65) rfl rfl (by omega)) (by decide) ?_
            refine wl_move rfl rfl (by decide) ?_
            refine wl_move rfl rfl (by decide) ?_
            refine wl_cmp rfl rfl rfl true (cb_le_t (a := c) (b := 90) rfl rfl (by omega)) (by decide) ?_
            refine wl_pure rfl rfl (v := .bool true) (by decide) (by kernel_rfl) ?_
            refine wl_assign rfl rfl (by decide) ?_
            refine wl_nil ?_
            refine eo_then ?_
            refine cw_true rfl ?_
            refine cw_seq ?_
            refine cw_region ?_
            refine wl_move rfl rfl (by decide) ?_
            refine wl_ar rfl rfl rfl ((c - 65 : Nat) : Int) (ai32_sub (a := c) (b := 65) rfl rfl (by omega) (by omega)) (by decide) ?_
            refine wl_pureE rfl rfl (v := .int .i64 (IntKind.i64.wrap ((c - 65 : Nat) : Int))) (v' := .int .i64 ((c - 65 : Nat) : Int)) (by decide) (by kernel_rfl) (cv_i64 (by first | omega | exact hle64)) ?_
            refine wl_ar rfl rfl rfl (((c - 65) + 10 : Nat) : Int) (ai_add (a := c - 65) (b := 10) rfl rfl (by omega)) (by decide) ?_
            refine wl_assign rfl rfl (by decide) ?_
            refine wl_nil ?_
            refine eo_then ?_
            refine cw_ret ?_
            refine eo_block_ret ?_
            refine eo_thenR ?_
            refine eo_ret [.int .i64 (((c - 65) + 10 : Nat) : Int)] rfl ⟨rfl, trivial⟩ ?_
            have hv : (c - 65) + 10 = dv c := by unfold dv; (repeat' split) <;> omega
            exact ⟨_, rfl, (show Value.int .i64 (((c - 65) + 10 : Nat) : Int) = _ by rw [hv]), (Ext.refl w)⟩
          ·
            refine cw_region ?_
            refine wl_move rfl rfl (by decide) ?_
            refine wl_cmp rfl rfl rfl true (cb_ge_t (a := c) (b := 65) rfl rfl (by omega)) (by decide) ?_
            refine wl_move rfl rfl (by decide) ?_
            refine wl_move rfl rfl (by decide) ?_
            refine wl_cmp rfl rfl rfl false (cb_le_f (a := c) (b := 90) rfl rfl (by omega)) (by decide) ?_
            refine wl_pure rfl rfl (v := .bool false) (by decide) (by kernel_rfl) ?_
            refine wl_assign rfl rfl (by decide) ?_
            refine wl_nil ?_
            refine eo_then ?_
            refine cw_false rfl ?_
            refine cw_skip ?_
            refine eo_block_normal ?_
            refine eo_then ?_
            refine cw_seq ?_
            refine cw_region ?_
            refine wl_assign rfl rfl (by decide) ?_
            refine wl_nil ?_
            refine eo_then ?_
            refine cw_ret ?_
            refine eo_ret [.int .i64 36] rfl ⟨rfl, trivial⟩ ?_
            have hv : 36 = dv c := by unfold dv; (repeat' split) <;> omega
            exact ⟨_, rfl, (show Value.int .i64 ((36 : Nat) : Int) = _ by rw [hv]), (Ext.refl w)⟩
        ·
          refine cw_region ?_
          refine wl_move rfl rfl (by decide) ?_
          refine wl_cmp rfl rfl rfl false (cb_ge_f (a := c) (b := 65) rfl rfl (by omega)) (by decide) ?_
          refine wl_move rfl rfl (by decide) ?_
          refine wl_off rfl (by decide) ?_
          refine wl_off rfl (by decide) ?_
          refine wl_pure rfl rfl (v := .bool false) (by decide) (by kernel_rfl) ?_
          refine wl_assign rfl rfl (by decide) ?_
          refine wl_nil ?_
          refine eo_then ?_
          refine cw_false rfl ?_
          refine cw_skip ?_
          refine eo_block_normal ?_
          refine eo_then ?_
          refine cw_seq ?_
          refine cw_region ?_
          refine wl_assign rfl rfl (by decide) ?_
          refine wl_nil ?_
          refine eo_then ?_
          refine cw_ret ?_
          refine eo_ret [.int .i64 36] rfl ⟨rfl, trivial⟩ ?_
          have hv : 36 = dv c := by unfold dv; (repeat' split) <;> omega
          exact ⟨_, rfl, (show Value.int .i64 ((36 : Nat) : Int) = _ by rw [hv]), (Ext.refl w)⟩
    ·
      refine cw_region ?_
      refine wl_move rfl rfl (by decide) ?_
      refine wl_cmp rfl rfl rfl false (cb_ge_f (a := c) (b := 97) rfl rfl (by omega)) (by decide) ?_
      refine wl_move rfl rfl (by decide) ?_
      refine wl_off rfl (by decide) ?_
      refine wl_off rfl (by decide) ?_
      refine wl_pure rfl rfl (v := .bool false) (by decide) (by kernel_rfl) ?_
      refine wl_assign rfl rfl (by decide) ?_
      refine wl_nil ?_
      refine eo_then ?_
      refine cw_false rfl ?_
      refine cw_seq ?_
      by_cases ha65 : c ≥ 65
      ·
        by_cases hb90 : c ≤ 90
        ·
          refine cw_region ?_
          refine wl_move rfl rfl (by decide) ?_
          refine wl_cmp rfl rfl rfl true (cb_ge_t (a := c) (b := 65) rfl rfl (by omega)) (by decide) ?_
          refine wl_move rfl rfl (by decide) ?_
          refine wl_move rfl rfl (by decide) ?_
          refine wl_cmp rfl rfl rfl true (cb_le_t (a := c) (b := 90) rfl rfl (by omega)) (by decide) ?_
          refine wl_pure rfl rfl (v := .bool true) (by decide) (by kernel_rfl) ?_
          refine wl_assign rfl rfl (by decide) ?_
          refine wl_nil ?_
          refine eo_then ?_
          refine cw_true rfl ?_
          refine cw_seq ?_
          refine cw_region ?_
          refine wl_move rfl rfl (by decide) ?_
          refine wl_ar rfl rfl rfl ((c - 65 : Nat) : Int) (ai32_sub (a := c) (b := 65) rfl rfl (by omega) (by omega)) (by decide) ?_
          refine wl_pureE rfl rfl (v := .int .i64 (IntKind.i64.wrap ((c - 65 : Nat) : Int))) (v' := .int .i64 ((c - 65 : Nat) : Int)) (by decide) (by kernel_rfl) (cv_i64 (by first | omega | exact hle64)) ?_
          refine wl_ar rfl rfl rfl (((c - 65) + 10 : Nat) : Int) (ai_add (a := c - 65) (b := 10) rfl rfl (by omega)) (by decide) ?_
          refine wl_assign rfl rfl (by decide) ?_
          refine wl_nil ?_
          refine eo_then ?_
          refine cw_ret ?_
          refine eo_block_ret ?_
          refine eo_thenR ?_
          refine eo_ret [.int .i64 (((c - 65) + 10 : Nat) : Int)] rfl ⟨rfl, trivial⟩ ?_
          have hv : (c - 65) + 10 = dv c := by unfold dv; (repeat' split) <;> omega
          exact ⟨_, rfl, (show Value.int .i64 (((c - 65) + 10 : Nat) : Int) = _ by rw [hv]), (Ext.refl w)⟩
        ·
          refine cw_region ?_
          refine wl_move rfl rfl (by decide) ?_
          refine wl_cmp rfl rfl rfl true (cb_ge_t (a := c) (b := 65) rfl rfl (by omega)) (by decide) ?_
          refine wl_move rfl rfl (by decide) ?_
          refine wl_move rfl rfl (by decide) ?_
          refine wl_cmp rfl rfl rfl false (cb_le_f (a := c) (b := 90) rfl rfl (by omega)) (by decide) ?_
          refine wl_pure rfl rfl (v := .bool false) (by decide) (by kernel_rfl) ?_
          refine wl_assign rfl rfl (by decide) ?_
          refine wl_nil ?_
          refine eo_then ?_
          refine cw_false rfl ?_
          refine cw_skip ?_
          refine eo_block_normal ?_
          refine eo_then ?_
          refine cw_seq ?_
          refine cw_region ?_
          refine wl_assign rfl rfl (by decide) ?_
          refine wl_nil ?_
          refine eo_then ?_
          refine cw_ret ?_
          refine eo_ret [.int .i64 36] rfl ⟨rfl, trivial⟩ ?_
          have hv : 36 = dv c := by unfold dv; (repeat' split) <;> omega
          exact ⟨_, rfl, (show Value.int .i64 ((36 : Nat) : Int) = _ by rw [hv]), (Ext.refl w)⟩
      ·
        refine cw_region ?_
        refine wl_move rfl rfl (by decide) ?_
        refine wl_cmp rfl rfl rfl false (cb_ge_f (a := c) (b := 65) rfl rfl (by omega)) (by decide) ?_
        refine wl_move rfl rfl (by decide) ?_
        refine wl_off rfl (by decide) ?_
        refine wl_off rfl (by decide) ?_
        refine wl_pure rfl rfl (v := .bool false) (by decide) (by kernel_rfl) ?_
        refine wl_assign rfl rfl (by decide) ?_
        refine wl_nil ?_
        refine eo_then ?_
        refine cw_false rfl ?_
        refine cw_skip ?_
        refine eo_block_normal ?_
        refine eo_then ?_
        refine cw_seq ?_
        refine cw_region ?_
        refine wl_assign rfl rfl (by decide) ?_
        refine wl_nil ?_
        refine eo_then ?_
        refine cw_ret ?_
        refine eo_ret [.int .i64 36] rfl ⟨rfl, trivial⟩ ?_
        have hv : 36 = dv c := by unfold dv; (repeat' split) <;> omega
        exact ⟨_, rfl, (show Value.int .i64 ((36 : Nat) : Int) = _ by rw [hv]), (Ext.refl w)⟩
set_option maxHeartbeats 4000000 in
theorem rx_powerI {w : World} {base n : Nat} (hbl : 2 ≤ base) (hbu : base ≤ 36) (hn : n ≤ 68719476736) :
    Calls Tryd.prog 90 #[.int .i64 ((base : Nat) : Int), .int .i64 ((n : Nat) : Int)] w (Gv w (WR w.heap.size (base ^ n))) := by
  refine sx_enter Tryd.func90 rfl (n := 26) rfl (Nat.le_of_ble_eq_true rfl) (args := [.int .i64 ((base : Nat) : Int), .int .i64 ((n : Nat) : Int)]) ?_
  refine cw_keep [(0, .int .i64 ((base : Nat) : Int)), (1, .int .i64 ((n : Nat) : Int))] ⟨rfl, rfl, trivial⟩ ?_
  refine cw_seq ?_
  refine cw_region ?_
  refine wl_assign rfl rfl (by decide) ?_
  refine wl_nil ?_
  refine eo_then ?_
  refine cw_seq ?_
  refine cw_region ?_
  refine wl_bslice rfl rfl (by decide) (k := 1) (e := 48) [.int .u64 1] (fun _ => by kernel_rfl) fun g1 v2 nb3 => ?_
  have o4 := O1.mk_ (x := 1) (b := w.heap.size) nb3 (Ext.refl w).size
  have e5 := nb3.ext
  have hw1 : Ext w v2 := (Ext.refl w).trans e5
  have o7 := own1_wd o4 (show 1 ≤ 18446744073709551615 by decide) (show 1 ≠ 0 by decide)
  have j6 := len1 (show 1 ≤ 18446744073709551615 by decide) (show 1 ≠ 0 by decide)
  refine wl_move rfl rfl (by decide) ?_
  refine wl_pureE rfl rfl (v := .int .u64 (IntKind.u64.wrap ((base : Nat) : Int))) (v' := .int .u64 ((base : Nat) : Int)) (by decide) (by kernel_rfl) (cv_u64 (by first | omega | exact hle64)) ?_
  refine wl_bslice rfl rfl (by decide) (k := 1) (e := 48) [.int .u64 ((base : Nat) : Int)] (fun _ => by kernel_rfl) fun g8 v9 nb10 => ?_
  have o11 := O1.mk_ (x := base) (b := w.heap.size) nb10 hw1.size
  have e12 := nb10.ext
  have hw2 : Ext w v9 := hw1.trans e12
  have o14 := own1_wd o11 (show base ≤ 18446744073709551615 by omega) (show base ≠ 0 by omega)
  have j13 := len1 (show base ≤ 18446744073709551615 by omega) (show base ≠ 0 by omega)
  refine wl_assign rfl rfl (by decide) ?_
  refine wl_assign rfl rfl (by decide) ?_
  refine wl_nil ?_
  refine eo_then ?_
  refine cw_seq ?_
  refine cw_block ?_
  refine cw_loop (T := World × Nat × Nat × Nat × Option Addr × Nat × Nat × Option Addr × Nat × Nat)
    (fun ⟨wr, e, p, b, PA, pn, pc, BA, bn, bc⟩ => [(0, .int .i64 ((base : Nat) : Int)), (1, .int .i64 ((e : Nat) : Int)), (5, .slice PA pn pc), (6, .slice BA bn bc)])
    (fun ⟨wr, e, p, b, PA, pn, pc, BA, bn, bc⟩ => wr)
    (fun ⟨wr, e, p, b, PA, pn, pc, BA, bn, bc⟩ => (Ext w wr) ∧ (p * b ^ e = base ^ n) ∧ (1 ≤ p) ∧ (1 ≤ b) ∧ (pn = (wd p).length) ∧ (bn = (wd b).length) ∧ (Own wr w.heap.size 48 1 PA pn pc ((wd p).map W64)) ∧ (Own wr w.heap.size 48 1 BA bn bc ((wd b).map W64)) ∧ (e ≤ n))
    (fun ⟨wr, e, p, b, PA, pn, pc, BA, bn, bc⟩ => e)
    (⟨v9, n, 1, base, (some ⟨g1, 0, none⟩), 1, 1, (some ⟨g8, 0, none⟩), 1, 1⟩ : World × Nat × Nat × Nat × Option Addr × Nat × Nat × Option Addr × Nat × Nat) ⟨hw2, (by rw [Nat.one_mul]), (by decide), (by omega), j6, j13, (o7.ext e12), o14, (Nat.le_refl _)⟩ rfl ⟨rfl, rfl, rfl, rfl, trivial⟩ ?_
  rintro ⟨wr, e, p, b, PA, pn, pc, BA, bn, bc⟩ ⟨hw1, hI, hp1, hb1, hpn, hbn, hpo, hbo, he⟩
  refine cw_re [(0, .int .i64 ((base : Nat) : Int)), (1, .int .i64 ((e : Nat) : Int)), (5, .slice PA pn pc), (6, .slice BA bn bc)] wr rfl ⟨rfl, rfl, rfl, rfl, trivial⟩ ?_
  refine cw_seq ?_
  refine cw_seq ?_
  by_cases he0 : e > 0
  ·
    have hpK := Nat.le_trans (len_wd_mono (pw_p hI hb1)) (len_pow36 (n := n) hbu)
    have hbK := Nat.le_trans (len_wd_mono (pw_b hI hp1 hb1 he0)) (len_pow36 (n := n) hbu)
    refine cw_region ?_
    refine wl_move rfl rfl (by decide) ?_
    refine wl_cmp rfl rfl rfl true (cb_gt_t (a := e) (b := 0) rfl rfl (by omega)) (by decide) ?_
    refine wl_nil ?_
    refine eo_then ?_
    refine cw_true rfl ?_
    refine cw_skip ?_
    refine eo_then ?_
    refine cw_seq ?_
    refine cw_block ?_
    refine cw_seq ?_
    refine cw_seq ?_
    by_cases ho : e % 2 = 1
    ·
      refine cw_region ?_
      refine wl_move rfl rfl (by decide) ?_
      refine wl_ar rfl rfl rfl ((e % 2 : Nat) : Int) (au_rem (a := e) (b := 2) rfl rfl (by omega)) (by decide) ?_
      refine wl_cmp rfl rfl rfl true (cb_eq_t (a := e % 2) (b := 1) rfl rfl (by omega)) (by decide) ?_
      refine wl_nil ?_
      refine eo_then ?_
      refine cw_true rfl ?_
      refine cw_region ?_
      refine wl_move rfl rfl (by decide) ?_
      refine wl_move rfl rfl (by decide) ?_
      refine wl_call rfl rfl (vs := [.slice PA pn pc, .slice BA bn bc]) (by kernel_rfl) (by decide) (rx_MulW hw1.size hpo.wi hbo.wi (by omega)) ?_
      rintro _ v15 ⟨xr17, rfl, r17, e16⟩
      refine ret_intro ?_
      have hw2 : Ext w v15 := hw1.trans e16
      obtain ⟨A18, n18, c18, rfl, j18, o18⟩ := r17
      refine wl_assign rfl rfl (by decide) ?_
      refine wl_nil ?_
      refine eo_then ?_
      refine cw_seq ?_
      by_cases hg : e > 1
      ·
        refine cw_region ?_
        refine wl_move rfl rfl (by decide) ?_
        refine wl_cmp rfl rfl rfl true (cb_gt_t (a := e) (b := 1) rfl rfl (by omega)) (by decide) ?_
        refine wl_nil ?_
        refine eo_then ?_
        refine cw_true rfl ?_
        refine cw_region ?_
        refine wl_move rfl rfl (by decide) ?_
        refine wl_call rfl rfl (vs := [.slice BA bn bc]) (by kernel_rfl) (by decide) (rx_Square hw2.size (hbo.ext e16).wi (by omega)) ?_
        rintro _ v19 ⟨xr21, rfl, r21, e20⟩
        refine ret_intro ?_
        have hw3 : Ext w v19 := hw2.trans e20
        obtain ⟨A22, n22, c22, rfl, j22, o22⟩ := r21
        refine wl_assign rfl rfl (by decide) ?_
        refine wl_nil ?_
        refine eo_block_normal ?_
        refine eo_then ?_
        refine cw_region ?_
        refine wl_move rfl rfl (by decide) ?_
        refine wl_ar rfl rfl rfl ((e / 2 : Nat) : Int) (ai_quo (a := e) (b := 2) rfl rfl (by omega) (by omega)) (by decide) ?_
        refine wl_assign rfl rfl (by decide) ?_
        refine wl_nil ?_
        refine eo_round (⟨v19, e / 2, p * b, b * b, A18, n18, c18, A22, n22, c22⟩ : World × Nat × Nat × Nat × Option Addr × Nat × Nat × Option Addr × Nat × Nat) ⟨hw3, (by rw [pw_odd ho]; exact hI), (by first | decide | omega | exact Nat.mul_pos hp1 hb1), (by first | assumption | exact Nat.mul_pos hb1 hb1), j18, j22, (o18.ext e20), o22, (Nat.le_trans (Nat.div_le_self _ _) he)⟩ (Nat.div_lt_self he0 (by decide)) rfl ⟨rfl, rfl, rfl, rfl, trivial⟩
      ·
        refine cw_region ?_
        refine wl_move rfl rfl (by decide) ?_
        refine wl_cmp rfl rfl rfl false (cb_gt_f (a := e) (b := 1) rfl rfl (by omega)) (by decide) ?_
        refine wl_nil ?_
        refine eo_then ?_
        refine cw_false rfl ?_
        refine cw_skip ?_
        refine eo_block_normal ?_
        refine eo_then ?_
        refine cw_region ?_
        refine wl_move rfl rfl (by decide) ?_
        refine wl_ar rfl rfl rfl ((e / 2 : Nat) : Int) (ai_quo (a := e) (b := 2) rfl rfl (by omega) (by omega)) (by decide) ?_
        refine wl_assign rfl rfl (by decide) ?_
        refine wl_nil ?_
        refine eo_round (⟨v15, e / 2, p * b, b, A18, n18, c18, BA, bn, bc⟩ : World × Nat × Nat × Nat × Option Addr × Nat × Nat × Option Addr × Nat × Nat) ⟨hw2, (by rw [pw_last (by omega)]; exact hI), (by first | decide | omega | exact Nat.mul_pos hp1 hb1), (by first | assumption | exact Nat.mul_pos hb1 hb1), j18, hbn, o18, (hbo.ext e16), (Nat.le_trans (Nat.div_le_self _ _) he)⟩ (Nat.div_lt_self he0 (by decide)) rfl ⟨rfl, rfl, rfl, rfl, trivial⟩
    ·
      refine cw_region ?_
      refine wl_move rfl rfl (by decide) ?_
      refine wl_ar rfl rfl rfl ((e % 2 : Nat) : Int) (au_rem (a := e) (b := 2) rfl rfl (by omega)) (by decide) ?_
      refine wl_cmp rfl rfl rfl false (cb_eq_f (a := e % 2) (b := 1) rfl rfl (by omega)) (by decide) ?_
      refine wl_nil ?_
      refine eo_then ?_
      refine cw_false rfl ?_
      refine cw_skip ?_
      refine eo_then ?_
      refine cw_seq ?_
      by_cases hg : e > 1
      ·
        refine cw_region ?_
        refine wl_move rfl rfl (by decide) ?_
        refine wl_cmp rfl rfl rfl true (cb_gt_t (a := e) (b := 1) rfl rfl (by omega)) (by decide) ?_
        refine wl_nil ?_
        refine eo_then ?_
        refine cw_true rfl ?_
        refine cw_region ?_
        refine wl_move rfl rfl (by decide) ?_
        refine wl_call rfl rfl (vs := [.slice BA bn bc]) (by kernel_rfl) (by decide) (rx_Square hw1.size hbo.wi (by omega)) ?_
        rintro _ v23 ⟨xr25, rfl, r25, e24⟩
        refine ret_intro ?_
        have hw2 : Ext w v23 := hw1.trans e24
        obtain ⟨A26, n26, c26, rfl, j26, o26⟩ := r25
        refine wl_assign rfl rfl (by decide) ?_
        refine wl_nil ?_
        refine eo_block_normal ?_
        refine eo_then ?_
        refine cw_region ?_
        refine wl_move rfl rfl (by decide) ?_
        refine wl_ar rfl rfl rfl ((e / 2 : Nat) : Int) (ai_quo (a := e) (b := 2) rfl rfl (by omega) (by omega)) (by decide) ?_
        refine wl_assign rfl rfl (by decide) ?_
        refine wl_nil ?_
        refine eo_round (⟨v23, e / 2, p, b * b, PA, pn, pc, A26, n26, c26⟩ : World × Nat × Nat × Nat × Option Addr × Nat × Nat × Option Addr × Nat × Nat) ⟨hw2, (by rw [pw_even ho]; exact hI), (by first | decide | omega | exact Nat.mul_pos hp1 hb1), (by first | assumption | exact Nat.mul_pos hb1 hb1), hpn, j26, (hpo.ext e24), o26, (Nat.le_trans (Nat.div_le_self _ _) he)⟩ (Nat.div_lt_self he0 (by decide)) rfl ⟨rfl, rfl, rfl, rfl, trivial⟩
      ·
        refine cw_region ?_
        refine wl_move rfl rfl (by decide) ?_
        refine wl_cmp rfl rfl rfl false (cb_gt_f (a := e) (b := 1) rfl rfl (by omega)) (by decide) ?_
        refine wl_nil ?_
        refine eo_then ?_
        refine cw_false rfl ?_
        refine cw_skip ?_
        refine eo_block_normal ?_
        refine eo_then ?_
        refine cw_region ?_
        refine wl_move rfl rfl (by decide) ?_
        refine wl_ar rfl rfl rfl ((e / 2 : Nat) : Int) (ai_quo (a := e) (b := 2) rfl rfl (by omega) (by omega)) (by decide) ?_
        refine wl_assign rfl rfl (by decide) ?_
        refine wl_nil ?_
        refine eo_round (⟨wr, e / 2, p, b, PA, pn, pc, BA, bn, bc⟩ : World × Nat × Nat × Nat × Option Addr × Nat × Nat × Option Addr × Nat × Nat) ⟨hw1, (by omega), (by first | decide | omega | exact Nat.mul_pos hp1 hb1), (by first | assumption | exact Nat.mul_pos hb1 hb1), hpn, hbn, hpo, hbo, (Nat.le_trans (Nat.div_le_self _ _) he)⟩ (Nat.div_lt_self he0 (by decide)) rfl ⟨rfl, rfl, rfl, rfl, trivial⟩
  ·
    refine cw_region ?_
    refine wl_move rfl rfl (by decide) ?_
    refine wl_cmp rfl rfl rfl false (cb_gt_f (a := e) (b := 0) rfl rfl (by omega)) (by decide) ?_
    refine wl_nil ?_
    refine eo_then ?_
    refine cw_false rfl ?_
    refine cw_exit ?_
    refine eo_thenX ?_
    refine eo_loopX ?_
    refine eo_block_here ?_
    refine eo_then ?_
    refine cw_seq ?_
    refine cw_region ?_
    refine wl_move rfl rfl (by decide) ?_
    refine wl_assign rfl rfl (by decide) ?_
    refine wl_nil ?_
    refine eo_then ?_
    refine cw_ret ?_
    refine eo_ret [.slice PA pn pc] rfl ⟨rfl, trivial⟩ ?_
    have e0 : e = 0 := by omega
    subst e0
    rw [Nat.pow_zero, Nat.mul_one] at hI
    subst hI
    exact ⟨_, rfl, ⟨_, _, _, rfl, hpn, hpo⟩, hw1⟩
end Go.Proofs.YtmjdmjflgiicaaaDoor

namespace Go.Proofs.YtmjdmjflgiicaaaDoor
open Go.RowKit
theorem vald_split {b n k : Nat} {ds : List Nat} (hl : ds.length = n) (hk : k ≤ n) : vald b (ds.take (n - k)) * b ^ k + vald b (ds.drop (n - k)) = vald b ds := by
  have h := vald_append b (ds.take (n - k)) (ds.drop (n - k))
  rw [List.take_append_drop, List.length_drop, hl, show n - (n - k) = k by omega] at h
  exact h.symm
theorem PieceK.pos {b k : Nat} (h : PieceK b k) (hb : b ≤ 36) : 1 ≤ k := by
  rcases Nat.eq_zero_or_pos k with e | e
  · have := h.gt; rw [e, Nat.zero_add, Nat.pow_one] at this; omega
  · exact e
theorem step_ok {b k i v x : Nat} (hk : PieceK b k) (hb : 1 ≤ b) (hi : i + 1 ≤ k) (hv : v < b ^ i) (hx : x < b) : v * b + x ≤ 18446744073709551615 ∧ b ^ i * b ≤ 18446744073709551615 := by
  have h1 : b ^ (i + 1) ≤ b ^ k := Nat.pow_le_pow_right hb hi
  rw [Nat.pow_succ] at h1
  have h2 := hk.le
  have h3 : (v + 1) * b ≤ b ^ i * b := Nat.mul_le_mul_right b hv
  rw [Nat.add_mul, Nat.one_mul] at h3
  exact ⟨by omega, by omega⟩
theorem len_one {x : Nat} (h : x ≤ 18446744073709551615) : (wd x).length ≤ 1 := len_wd_le (by rw [Nat.pow_one, WB_def]; omega)
theorem mem_take_lt {b : Nat} {xs : List Nat} (h : ∀ x, x ∈ xs → x < b) (k : Nat) : ∀ x, x ∈ xs.take k → x < b := fun x hx => h x (List.mem_of_mem_take hx)
theorem mem_drop_lt {b : Nat} {xs : List Nat} (h : ∀ x, x ∈ xs → x < b) (k : Nat) : ∀ x, x ∈ xs.drop k → x < b := fun x hx => h x (List.mem_of_mem_drop hx)
/-- number, up to a length -/
def NumOk (N : Nat) : Prop := ∀ {w : World} {A : Option Addr} {n c base : Nat} {ds : List Nat}, n ≤ N → 2 ≤ base → base ≤ 36 → Rb base w A n c ds → n ≤ 17179869184 →
  Calls Tryd.prog 65 #[.slice A n c, .int .i64 ((base : Nat) : Int)] w (Gv w (WR w.heap.size (vald base ds)))
set_option maxHeartbeats 4000000 in
theorem rx_number_big {N : Nat} (ih : NumOk N) {w : World} {A : Option Addr} {n c base : Nat} {ds : List Nat} (hnN : n ≤ N + 1) (hbl : 2 ≤ base) (hbu : base ≤ 36) (hd : Rb base w A n c ds) (hn : n ≤ 17179869184) (hbig : 200 < n) :
    Calls Tryd.prog 65 #[.slice A n c, .int .i64 ((base : Nat) : Int)] w (Gv w (WR w.heap.size (vald base ds))) := by
  have hB1 : (wd (vald base (ds.take (n - (n / 2))))).length ≤ n := by have := len_vald (by omega) hbu (mem_take_lt hd.wf (n - (n / 2))); rw [List.length_take, hd.len] at this; omega
  have hB2 : (wd (vald base (ds.drop (n - (n / 2))))).length ≤ n := by have := len_vald (by omega) hbu (mem_drop_lt hd.wf (n - (n / 2))); rw [List.length_drop, hd.len] at this; omega
  have hB3 : (wd (base ^ (n / 2))).length ≤ n / 2 + 1 := len_pow36 hbu
  refine sx_enter Tryd.func65 rfl (n := 81) rfl (Nat.le_of_ble_eq_true rfl) (args := [.slice A n c, .int .i64 ((base : Nat) : Int)]) ?_
  refine cw_keep [(0, .slice A n c), (1, .int .i64 ((base : Nat) : Int))] ⟨rfl, rfl, trivial⟩ ?_
  refine cw_seq ?_
  refine cw_region ?_
  refine wl_assign rfl rfl (by decide) ?_
  refine wl_nil ?_
  refine eo_then ?_
  refine cw_seq ?_
  refine cw_seq ?_
  refine cw_region ?_
  refine wl_move rfl rfl (by decide) ?_
  refine wl_pure rfl rfl (v := .int .i64 ((n : Nat) : Int)) (by decide) (by kernel_rfl) ?_
  refine wl_cmp rfl rfl rfl true (cb_gt_t (a := n) (b := 200) rfl rfl (by omega)) (by decide) ?_
  refine wl_nil ?_
  refine eo_then ?_
  refine cw_true rfl ?_
  refine cw_seq ?_
  refine cw_region ?_
  refine wl_move rfl rfl (by decide) ?_
  refine wl_pure rfl rfl (v := .int .i64 ((n : Nat) : Int)) (by decide) (by kernel_rfl) ?_
  refine wl_ar rfl rfl rfl ((n / 2 : Nat) : Int) (ai_quo (a := n) (b := 2) rfl rfl (by omega) (by omega)) (by decide) ?_
  refine wl_assign rfl rfl (by decide) ?_
  refine wl_nil ?_
  refine eo_then ?_
  refine cw_seq ?_
  refine cw_region ?_
  refine wl_move rfl rfl (by decide) ?_
  refine wl_pure rfl rfl (v := .int .i64 ((n : Nat) : Int)) (by decide) (by kernel_rfl) ?_
  refine wl_move rfl rfl (by decide) ?_
  refine wl_ar rfl rfl rfl ((n - (n / 2) : Nat) : Int) (ai_sub (a := n) (b := n / 2) rfl rfl (by omega) (by omega)) (by decide) ?_
  refine wl_assign rfl rfl (by decide) ?_
  refine wl_nil ?_
  refine eo_then ?_
  refine cw_seq ?_
  refine cw_draw mix 14 [] [Is (.slice A n c), Is (.int .i64 ((n - (n / 2) : Nat) : Int)), Is (.slice A (n - (n / 2)) c), Is (.int .i64 ((base : Nat) : Int)), WR w.heap.size (vald base (ds.take (n - (n / 2)))), Is (.int .i64 ((base : Nat) : Int)), Is (.int .i64 ((n / 2 : Nat) : Int)), WR w.heap.size (base ^ (n / 2)), Is (.slice A n c), Is (.int .i64 ((n - (n / 2) : Nat) : Int)), Is (.slice (if c = n - (n / 2) then A else A.map (·.add ((n - (n / 2)) * 1))) (n - (n - (n / 2))) (c - (n - (n / 2)))), Is (.int .i64 ((base : Nat) : Int)), WR w.heap.size (vald base (ds.drop (n - (n / 2)))), WR w.heap.size ((vald base (ds.take (n - (n / 2)))) * (base ^ (n / 2)) + (vald base (ds.drop (n - (n / 2)))))] [[], [], [0, 1], [], [2, 3], [], [], [5, 6], [], [], [8, 9], [], [10, 11], [4, 7, 12]] [[], [], [0, 1], [], [0, 1, 2, 3], [], [], [0, 1, 2, 3, 4, 5, 6], [], [], [8, 9], [], [0, 1, 2, 3, 4, 5, 6, 7, 8, 9, 10, 11], [0, 1, 2, 3, 4, 5, 6, 7, 8, 9, 10, 11, 12], [0, 1, 2, 3, 4, 5, 6, 7, 8, 9, 10, 11, 12, 13]] rfl
    (obs_cons rfl rfl (hob rfl rfl ?_) (obs_cons rfl rfl (hob rfl rfl ?_) (obs_cons rfl rfl (hob rfl rfl ?_) (obs_cons rfl rfl (hob rfl rfl ?_) (obs_cons rfl rfl (hob rfl rfl ?_) (obs_cons rfl rfl (hob rfl rfl ?_) (obs_cons rfl rfl (hob rfl rfl ?_) (obs_cons rfl rfl (hob rfl rfl ?_) (obs_cons rfl rfl (hob rfl rfl ?_) (obs_cons rfl rfl (hob rfl rfl ?_) (obs_cons rfl rfl (hob rfl rfl ?_) (obs_cons rfl rfl (hob rfl rfl ?_) (obs_cons rfl rfl (hob rfl rfl ?_) (obs_cons rfl rfl (hob rfl rfl ?_) obs_nil)))))))))))))) ?_
  · -- 0
    intro v5 e6
    have hw1 : Ext w v5 := (Ext.refl w).trans e6
    refine deps_nil ?_
    refine wl_move rfl rfl (by decide) ?_
    exact pi_done rfl (Ext.refl _) rfl
  · -- 1
    intro v7 e8
    have hw1 : Ext w v7 := (Ext.refl w).trans e8
    refine deps_nil ?_
    refine wl_move rfl rfl (by decide) ?_
    exact pi_done rfl (Ext.refl _) rfl
  · -- 2
    intro v9 e10
    have hw1 : Ext w v9 := (Ext.refl w).trans e10
    refine deps_cons rfl rfl fun x11 y12 h13 e14 f15 => ?_
    obtain rfl := h13
    refine deps_cons rfl rfl fun x16 y17 h18 e19 f20 => ?_
    obtain rfl := h18
    refine deps_nil ?_
    refine wl_slice rfl rfl un_u8 sz_u8 (lo := 0) (hi := n - (n / 2)) rfl rfl (by omega) (by have := (hd.ext e10).rv.le; omega) (v := .slice A (n - (n / 2)) c) (slice_to8 _ _ _) (by decide) ?_
    exact pi_done rfl (Ext.refl _) rfl
  · -- 3
    intro v21 e22
    have hw1 : Ext w v21 := (Ext.refl w).trans e22
    refine deps_nil ?_
    refine wl_move rfl rfl (by decide) ?_
    exact pi_done rfl (Ext.refl _) rfl
  · -- 4
    intro v23 e24
    have hw1 : Ext w v23 := (Ext.refl w).trans e24
    refine deps_cons rfl rfl fun x25 y26 h27 e28 f29 => ?_
    obtain rfl := h27
    refine deps_cons rfl rfl fun x30 y31 h32 e33 f34 => ?_
    obtain rfl := h32
    refine deps_nil ?_
    refine wl_call rfl rfl (vs := [.slice A (n - (n / 2)) c, .int .i64 ((base : Nat) : Int)]) (by kernel_rfl) (by decide) ((ih (by omega) hbl hbu ((hd.take (k := n - (n / 2)) (by omega)).ext e24) (by omega)).mono (Gv.imp (WR.imp hw1.size))) ?_
    rintro _ v35 ⟨xr37, rfl, r37, e36⟩
    refine ret_intro ?_
    have hw2 : Ext w v35 := hw1.trans e36
    obtain ⟨A38, n38, c38, rfl, j38, o38⟩ := r37
    exact pi_done rfl e36 ⟨_, _, _, rfl, j38, o38⟩
  · -- 5
    intro v39 e40
    have hw1 : Ext w v39 := (Ext.refl w).trans e40
    refine deps_nil ?_
    refine wl_move rfl rfl (by decide) ?_
    exact pi_done rfl (Ext.refl _) rfl
  · -- 6
    intro v41 e42
    have hw1 : Ext w v41 := (Ext.refl w).trans e42
    refine deps_nil ?_
    refine wl_move rfl rfl (by decide) ?_
    exact pi_done rfl (Ext.refl _) rfl
  · -- 7
    intro v43 e44
    have hw1 : Ext w v43 := (Ext.refl w).trans e44
    refine deps_cons rfl rfl fun x45 y46 h47 e48 f49 => ?_
    obtain rfl := h47
    refine deps_cons rfl rfl fun x50 y51 h52 e53 f54 => ?_
    obtain rfl := h52
    refine deps_nil ?_
    refine wl_call rfl rfl (vs := [.int .i64 ((base : Nat) : Int), .int .i64 ((n / 2 : Nat) : Int)]) (by kernel_rfl) (by decide) ((rx_powerI (n := n / 2) hbl hbu (by omega)).mono (Gv.imp (WR.imp hw1.size))) ?_
    rintro _ v55 ⟨xr57, rfl, r57, e56⟩
    refine ret_intro ?_
    have hw2 : Ext w v55 := hw1.trans e56
    obtain ⟨A58, n58, c58, rfl, j58, o58⟩ := r57
    exact pi_done rfl e56 ⟨_, _, _, rfl, j58, o58⟩
  · -- 8
    intro v59 e60
    have hw1 : Ext w v59 := (Ext.refl w).trans e60
    refine deps_nil ?_
    refine wl_move rfl rfl (by decide) ?_
    exact pi_done rfl (Ext.refl _) rfl
  · -- 9
    intro v61 e62
    have hw1 : Ext w v61 := (Ext.refl w).trans e62
    refine deps_nil ?_
    refine wl_move rfl rfl (by decide) ?_
    exact pi_done rfl (Ext.refl _) rfl
  · -- 10
    intro v63 e64
    have hw1 : Ext w v63 := (Ext.refl w).trans e64
    refine deps_cons rfl rfl fun x65 y66 h67 e68 f69 => ?_
    obtain rfl := h67
    refine deps_cons rfl rfl fun x70 y71 h72 e73 f74 => ?_
    obtain rfl := h72
    refine deps_nil ?_
    refine wl_slice rfl rfl un_u8 sz_u8 (lo := n - (n / 2)) (hi := n) rfl rfl (by omega) (by have := (hd.ext e64).rv.le; omega) (v := .slice (if c = n - (n / 2) then A else A.map (·.add ((n - (n / 2)) * 1))) (n - (n - (n / 2))) (c - (n - (n / 2)))) (slice_from _ _ _ _) (by decide) ?_
    exact pi_done rfl (Ext.refl _) rfl
  · -- 11
    intro v75 e76
    have hw1 : Ext w v75 := (Ext.refl w).trans e76
    refine deps_nil ?_
    refine wl_move rfl rfl (by decide) ?_
    exact pi_done rfl (Ext.refl _) rfl
  · -- 12
    intro v77 e78
    have hw1 : Ext w v77 := (Ext.refl w).trans e78
    refine deps_cons rfl rfl fun x79 y80 h81 e82 f83 => ?_
    obtain rfl := h81
    refine deps_cons rfl rfl fun x84 y85 h86 e87 f88 => ?_
    obtain rfl := h86
    refine deps_nil ?_
    refine wl_call rfl rfl (vs := [.slice (if c = n - (n / 2) then A else A.map (·.add ((n - (n / 2)) * 1))) (n - (n - (n / 2))) (c - (n - (n / 2))), .int .i64 ((base : Nat) : Int)]) (by kernel_rfl) (by decide) ((ih (by omega) hbl hbu ((hd.drop (k := n - (n / 2)) (by omega)).ext e78) (by omega)).mono (Gv.imp (WR.imp hw1.size))) ?_
    rintro _ v89 ⟨xr91, rfl, r91, e90⟩
    refine ret_intro ?_
    have hw2 : Ext w v89 := hw1.trans e90
    obtain ⟨A92, n92, c92, rfl, j92, o92⟩ := r91
    exact pi_done rfl e90 ⟨_, _, _, rfl, j92, o92⟩
  · -- 13
    intro v93 e94
    have hw1 : Ext w v93 := (Ext.refl w).trans e94
    refine deps_cons rfl rfl fun x95 y96 h97 e98 f99 => ?_
    obtain ⟨A100, n100, c100, rfl, j100, o100⟩ := h97
    have o100 := o100.ext f99
    refine deps_cons rfl rfl fun x101 y102 h103 e104 f105 => ?_
    obtain ⟨A106, n106, c106, rfl, j106, o106⟩ := h103
    have o106 := o106.ext f105
    refine deps_cons rfl rfl fun x107 y108 h109 e110 f111 => ?_
    obtain ⟨A112, n112, c112, rfl, j112, o112⟩ := h109
    have o112 := o112.ext f111
    refine deps_nil ?_
    refine wl_call rfl rfl (vs := [.slice A100 n100 c100, .slice A106 n106 c106, .slice A112 n112 c112]) (by kernel_rfl) (by decide) (rx_MulAdd hw1.size o100.wi o106.wi o112.wi (by omega) (by omega)) ?_
    rintro _ v113 ⟨xr115, rfl, r115, e114⟩
    refine ret_intro ?_
    have hw2 : Ext w v113 := hw1.trans e114
    obtain ⟨A116, n116, c116, rfl, j116, o116⟩ := r115
    exact pi_done rfl e114 ⟨_, _, _, rfl, j116, o116⟩
  · -- all
    intro v117 e118
    have hw1 : Ext w v117 := (Ext.refl w).trans e118
    refine deps_cons rfl rfl fun x119 y120 h121 e122 f123 => ?_
    obtain rfl := h121
    refine deps_cons rfl rfl fun x124 y125 h126 e127 f128 => ?_
    obtain rfl := h126
    refine deps_cons rfl rfl fun x129 y130 h131 e132 f133 => ?_
    obtain rfl := h131
    refine deps_cons rfl rfl fun x134 y135 h136 e137 f138 => ?_
    obtain rfl := h136
    refine deps_cons rfl rfl fun x139 y140 h141 e142 f143 => ?_
    obtain ⟨A144, n144, c144, rfl, j144, o144⟩ := h141
    have o144 := o144.ext f143
    refine deps_cons rfl rfl fun x145 y146 h147 e148 f149 => ?_
    obtain rfl := h147
    refine deps_cons rfl rfl fun x150 y151 h152 e153 f154 => ?_
    obtain rfl := h152
    refine deps_cons rfl rfl fun x155 y156 h157 e158 f159 => ?_
    obtain ⟨A160, n160, c160, rfl, j160, o160⟩ := h157
    have o160 := o160.ext f159
    refine deps_cons rfl rfl fun x161 y162 h163 e164 f165 => ?_
    obtain rfl := h163
    refine deps_cons rfl rfl fun x166 y167 h168 e169 f170 => ?_
    obtain rfl := h168
    refine deps_cons rfl rfl fun x171 y172 h173 e174 f175 => ?_
    obtain rfl := h173
    refine deps_cons rfl rfl fun x176 y177 h178 e179 f180 => ?_
    obtain rfl := h178
    refine deps_cons rfl rfl fun x181 y182 h183 e184 f185 => ?_
    obtain ⟨A186, n186, c186, rfl, j186, o186⟩ := h183
    have o186 := o186.ext f185
    refine deps_cons rfl rfl fun x187 y188 h189 e190 f191 => ?_
    obtain ⟨A192, n192, c192, rfl, j192, o192⟩ := h189
    have o192 := o192.ext f191
    refine deps_nil ?_
    refine wl_assign rfl rfl (by decide) ?_
    refine wl_nil ?_
    refine eo_np ?_
    refine eo_then ?_
    refine cw_ret ?_
    refine eo_thenR ?_
    refine eo_ret [.slice A192 n192 c192] rfl ⟨rfl, trivial⟩ ?_
    have hv : (vald base (ds.take (n - (n / 2)))) * (base ^ (n / 2)) + (vald base (ds.drop (n - (n / 2)))) = vald base ds := vald_split hd.len (by omega)
    exact ⟨_, rfl, ⟨_, _, _, rfl, hv ▸ j192, hv ▸ o192⟩, hw1⟩
set_option maxHeartbeats 4000000 in
theorem rx_number_low {w : World} {A : Option Addr} {n c base : Nat} {ds : List Nat} (hbl : 2 ≤ base) (hbu : base ≤ 36) (hd : Rb base w A n c ds) (hlow : n ≤ 200) :
    Calls Tryd.prog 65 #[.slice A n c, .int .i64 ((base : Nat) : Int)] w (Gv w (WR w.heap.size (vald base ds))) := by
  refine sx_enter Tryd.func65 rfl (n := 81) rfl (Nat.le_of_ble_eq_true rfl) (args := [.slice A n c, .int .i64 ((base : Nat) : Int)]) ?_
  refine cw_keep [(0, .slice A n c), (1, .int .i64 ((base : Nat) : Int))] ⟨rfl, rfl, trivial⟩ ?_
  refine cw_seq ?_
  refine cw_region ?_
  refine wl_assign rfl rfl (by decide) ?_
  refine wl_nil ?_
  refine eo_then ?_
  refine cw_seq ?_
  refine cw_seq ?_
  refine cw_region ?_
  refine wl_move rfl rfl (by decide) ?_
  refine wl_pure rfl rfl (v := .int .i64 ((n : Nat) : Int)) (by decide) (by kernel_rfl) ?_
  refine wl_cmp rfl rfl rfl false (cb_gt_f (a := n) (b := 200) rfl rfl (by omega)) (by decide) ?_
  refine wl_nil ?_
  refine eo_then ?_
  refine cw_false rfl ?_
  refine cw_skip ?_
  refine eo_then ?_
  refine cw_seq ?_
  refine cw_region ?_
  refine wl_move rfl rfl (by decide) ?_
  refine wl_call rfl rfl (vs := [.int .i64 ((base : Nat) : Int)]) (by kernel_rfl) (by decide) (rx_piece hbl hbu) ?_
  rintro _ v1 ⟨k4, p5, xr3, rfl, r3, e2⟩
  have hk1 := p5.pos hbu
  have hk64 := p5.le64
  refine ret_intro ?_
  have hw1 : Ext w v1 := (Ext.refl w).trans e2
  obtain ⟨a6_0, a6_1, rfl, r6_0, r6_1⟩ := r3
  obtain rfl := r6_0
  obtain rfl := r6_1
  refine wl_move rfl rfl (by decide) ?_
  refine wl_pure rfl rfl (v := .int .i64 ((k4 : Nat) : Int)) (by decide) (by kernel_rfl) ?_
  refine wl_pure rfl rfl (v := .int .u64 ((base ^ k4 : Nat) : Int)) (by decide) (by kernel_rfl) ?_
  refine wl_assign rfl rfl (by decide) ?_
  refine wl_assign rfl rfl (by decide) ?_
  refine wl_nil ?_
  refine eo_then ?_
  refine cw_seq ?_
  refine cw_region ?_
  refine wl_assign rfl rfl (by decide) ?_
  refine wl_nil ?_
  refine eo_then ?_
  refine cw_seq ?_
  refine cw_block ?_
  refine cw_loop (T := World × List Nat × List Nat × Option Addr × Nat × Nat × Option Addr × Nat × Nat)
    (fun ⟨wr, pre, rest, DA, dn, dc, QA, qn, qc⟩ => [(0, .slice DA dn dc), (1, .int .i64 ((base : Nat) : Int)), (7, .int .i64 ((k4 : Nat) : Int)), (9, .slice QA qn qc)])
    (fun ⟨wr, pre, rest, DA, dn, dc, QA, qn, qc⟩ => wr)
    (fun ⟨wr, pre, rest, DA, dn, dc, QA, qn, qc⟩ => (Ext w wr) ∧ (pre ++ rest = ds) ∧ (qn = (wd (vald base pre)).length) ∧ (Own wr w.heap.size 48 1 QA qn qc ((wd (vald base pre)).map W64)) ∧ (Rb base wr DA dn dc rest))
    (fun ⟨wr, pre, rest, DA, dn, dc, QA, qn, qc⟩ => dn)
    (⟨v1, [], ds, A, n, c, none, 0, 0⟩ : World × List Nat × List Nat × Option Addr × Nat × Nat × Option Addr × Nat × Nat) ⟨hw1, rfl, rfl, (Own.nil _ _ _ _), (hd.ext e2)⟩ rfl ⟨rfl, rfl, rfl, rfl, trivial⟩ ?_
  rintro ⟨wr, pre, rest, DA, dn, dc, QA, qn, qc⟩ ⟨hw1, hsp, han, hao, rl0⟩
  refine cw_re [(0, .slice DA dn dc), (1, .int .i64 ((base : Nat) : Int)), (7, .int .i64 ((k4 : Nat) : Int)), (9, .slice QA qn qc)] wr rfl ⟨rfl, rfl, rfl, rfl, trivial⟩ ?_
  refine cw_seq ?_
  refine cw_seq ?_
  by_cases hdn : dn > 0
  ·
    refine cw_region ?_
    refine wl_move rfl rfl (by decide) ?_
    refine wl_pure rfl rfl (v := .int .i64 ((dn : Nat) : Int)) (by decide) (by kernel_rfl) ?_
    refine wl_cmp rfl rfl rfl true (cb_gt_t (a := dn) (b := 0) rfl rfl (by omega)) (by decide) ?_
    refine wl_nil ?_
    refine eo_then ?_
    refine cw_true rfl ?_
    refine cw_skip ?_
    refine eo_then ?_
    refine cw_block ?_
    refine cw_seq ?_
    refine cw_region ?_
    refine wl_move rfl rfl (by decide) ?_
    refine wl_move rfl rfl (by decide) ?_
    refine wl_pure rfl rfl (v := .int .i64 ((dn : Nat) : Int)) (by decide) (by kernel_rfl) ?_
    refine wl_mi rfl rfl rfl (((min k4 dn : Nat) : Int)) (by omega) (by decide) ?_
    refine wl_assign rfl rfl (by decide) ?_
    refine wl_nil ?_
    refine eo_then ?_
    refine cw_seq ?_
    refine cw_region ?_
    refine wl_assign rfl rfl (by decide) ?_
    refine wl_assign rfl rfl (by decide) ?_
    refine wl_nil ?_
    refine eo_then ?_
    refine cw_seq ?_
    refine cw_seq ?_
    refine cw_region ?_
    refine wl_move rfl rfl (by decide) ?_
    refine wl_move rfl rfl (by decide) ?_
    refine wl_slice rfl rfl un_u8 sz_u8 (lo := 0) (hi := min k4 dn) rfl rfl (by omega) (by have := rl0.rv.le; omega) (v := .slice DA (min k4 dn) dc) (slice_to8 _ _ _) (by decide) ?_
    refine wl_pure rfl rfl (v := .int .i64 (((min k4 dn) : Nat) : Int)) (by decide) (by kernel_rfl) ?_
    refine wl_move rfl rfl (by decide) ?_
    refine wl_nil ?_
    refine eo_then ?_
    refine cw_block ?_
    refine cw_loop (T := World × Nat × Nat × Nat)
      (fun ⟨wq, i, v, p⟩ => [(0, .slice DA dn dc), (1, .int .i64 ((base : Nat) : Int)), (7, .int .i64 ((k4 : Nat) : Int)), (10, .int .i64 ((min k4 dn : Nat) : Int)), (9, .slice QA qn qc), (11, .int .u64 ((v : Nat) : Int)), (12, .int .u64 ((p : Nat) : Int)), (53, .slice DA (min k4 dn) dc), (54, .int .i64 (((min k4 dn) : Nat) : Int)), (55, .int .i64 ((i : Nat) : Int))])
      (fun ⟨wq, i, v, p⟩ => wq)
      (fun ⟨wq, i, v, p⟩ => (Ext w wq) ∧ (i ≤ min k4 dn) ∧ (v = vald base (rest.take i)) ∧ (p = base ^ i) ∧ (Own wq w.heap.size 48 1 QA qn qc ((wd (vald base pre)).map W64)) ∧ (Rb base wq DA dn dc rest) ∧ (Rb base wq DA (min k4 dn) dc (rest.take (min k4 dn))))
      (fun ⟨wq, i, v, p⟩ => min k4 dn - i)
      (⟨wr, 0, 0, 1⟩ : World × Nat × Nat × Nat) ⟨hw1, (Nat.zero_le _), rfl, rfl, hao, rl0, (rl0.take (k := min k4 dn) (by omega))⟩ rfl ⟨rfl, rfl, rfl, rfl, rfl, rfl, rfl, rfl, rfl, rfl, trivial⟩ ?_
    rintro ⟨wq, i, v, p⟩ ⟨hw1, hi, hv, hpp, hao, rl0, rl53⟩
    refine cw_re [(0, .slice DA dn dc), (1, .int .i64 ((base : Nat) : Int)), (7, .int .i64 ((k4 : Nat) : Int)), (10, .int .i64 ((min k4 dn : Nat) : Int)), (9, .slice QA qn qc), (11, .int .u64 ((v : Nat) : Int)), (12, .int .u64 ((p : Nat) : Int)), (53, .slice DA (min k4 dn) dc), (54, .int .i64 (((min k4 dn) : Nat) : Int)), (55, .int .i64 ((i : Nat) : Int))] wq rfl ⟨rfl, rfl, rfl, rfl, rfl, rfl, rfl, rfl, rfl, rfl, trivial⟩ ?_
    refine cw_seq ?_
    by_cases htst : i < min k4 dn
    ·
      have hx := rl53.dig (i := i) htst
      have hvl : v < base ^ i := by rw [hv]; have := vald_lt (b := base) (by omega) (rest.take i) (mem_take_lt rl0.wf i); rwa [List.length_take, Nat.min_eq_left (by rw [rl0.len]; omega)] at this
      have hso := step_ok p5 (by omega) (show i + 1 ≤ k4 by omega) hvl hx
      rw [← hpp] at hso
      obtain ⟨hso1, hso2⟩ := hso
      refine cw_region ?_
      refine wl_cmp rfl rfl rfl true (cb_lt_t (a := i) (b := min k4 dn) rfl rfl (by omega)) (by decide) ?_
      refine wl_nil ?_
      refine eo_then ?_
      refine cw_seq ?_
      refine cw_true rfl ?_
      refine cw_skip ?_
      refine eo_then ?_
      refine cw_seq ?_
      refine cw_block ?_
      refine cw_seq ?_
      refine cw_region ?_
      obtain ⟨p7, hp7, hc7, hv7⟩ := (rl53).at (by decide) (i := i) (by omega)
      refine wl_idx rfl rfl rfl un_u8 sz_u8 i rfl (by omega) p7 hp7 (by decide) ?_
      refine wl_load rfl rfl (load_cell1 ag_u8 hc7) (by decide) ?_
      refine wl_assign rfl rfl (by decide) ?_
      refine wl_nil ?_
      refine eo_then ?_
      refine cw_seq ?_
      refine cw_region ?_
      refine wl_move rfl rfl (by decide) ?_
      refine wl_move rfl rfl (by decide) ?_
      refine wl_pureE rfl rfl (v := .int .u64 (IntKind.u64.wrap ((base : Nat) : Int))) (v' := .int .u64 ((base : Nat) : Int)) (by decide) (by kernel_rfl) (cv_u64 (by first | omega | exact hle64)) ?_
      refine wl_ar rfl rfl rfl ((v * base : Nat) : Int) (au_mul (a := v) (b := base) rfl rfl (by omega)) (by decide) ?_
      refine wl_move rfl rfl (by decide) ?_
      refine wl_pureE rfl rfl (v := .int .u64 (IntKind.u64.wrap (((rest.take (min k4 dn)).getD i 0 : Nat) : Int))) (v' := .int .u64 (((rest.take (min k4 dn)).getD i 0 : Nat) : Int)) (by decide) (by kernel_rfl) (cv_u64 (by first | omega | exact hle64)) ?_
      refine wl_ar rfl rfl rfl (((v * base) + ((rest.take (min k4 dn)).getD i 0) : Nat) : Int) (au_add (a := v * base) (b := (rest.take (min k4 dn)).getD i 0) rfl rfl (by omega)) (by decide) ?_
      refine wl_assign rfl rfl (by decide) ?_
      refine wl_nil ?_
      refine eo_then ?_
      refine cw_region ?_
      refine wl_move rfl rfl (by decide) ?_
      refine wl_move rfl rfl (by decide) ?_
      refine wl_pureE rfl rfl (v := .int .u64 (IntKind.u64.wrap ((base : Nat) : Int))) (v' := .int .u64 ((base : Nat) : Int)) (by decide) (by kernel_rfl) (cv_u64 (by first | omega | exact hle64)) ?_
      refine wl_ar rfl rfl rfl ((p * base : Nat) : Int) (au_mul (a := p) (b := base) rfl rfl (by omega)) (by decide) ?_
      refine wl_assign rfl rfl (by decide) ?_
      refine wl_nil ?_
      refine eo_block_normal ?_
      refine eo_then ?_
      refine cw_region ?_
      refine wl_ar rfl rfl rfl ((i + 1 : Nat) : Int) (ai_add (a := i) (b := 1) rfl rfl (by omega)) (by decide) ?_
      refine wl_move rfl rfl (by decide) ?_
      refine wl_nil ?_
      refine eo_round (⟨wq, i + 1, v * base + (rest.take (min k4 dn)).getD i 0, p * base⟩ : World × Nat × Nat × Nat) ⟨hw1, (by omega), (by rw [take_get htst (by rw [rl0.len]; omega), vald_snoc, ← hv]), (by rw [hpp, Nat.pow_succ]), hao, rl0, rl53⟩ (show min k4 dn - (i + 1) < min k4 dn - i by omega) rfl ⟨rfl, rfl, rfl, rfl, rfl, rfl, rfl, rfl, rfl, rfl, trivial⟩
    ·
      have him : i = min k4 dn := by omega
      have hpb : p ≤ 18446744073709551615 := by rw [hpp]; exact Nat.le_trans (Nat.pow_le_pow_right (by omega) (by omega)) p5.le
      have hvb : v ≤ 18446744073709551615 := by have := vald_lt (b := base) (by omega) (rest.take i) (mem_take_lt rl0.wf i); rw [List.length_take, Nat.min_eq_left (by rw [rl0.len]; omega), ← hpp, ← hv] at this; omega
      have hlen : (wd (vald base pre)).length ≤ 200 := by have h1 := len_vald (by omega) hbu (ds := pre) (fun x hx => hd.wf x (by rw [← hsp]; exact List.mem_append_left _ hx)); have h2 := hd.len; rw [← hsp, List.length_append] at h2; omega
      have hL1 : (wd (vald base pre * p)).length ≤ 201 := by have := len_wd_mul (vald base pre) p; have := len_one hpb; omega
      have hm : vald base (pre ++ rest.take (min k4 dn)) = vald base pre * p + v := by rw [← him, vald_piece (by rw [rl0.len]; omega), hpp, hv]
      refine cw_region ?_
      refine wl_cmp rfl rfl rfl false (cb_lt_f (a := i) (b := min k4 dn) rfl rfl (by omega)) (by decide) ?_
      refine wl_nil ?_
      refine eo_then ?_
      refine cw_seq ?_
      refine cw_false rfl ?_
      refine cw_exit ?_
      refine eo_thenX ?_
      refine eo_loopX ?_
      refine eo_block_here ?_
      refine eo_then ?_
      refine cw_seq ?_
      refine cw_region ?_
      refine wl_move rfl rfl (by decide) ?_
      refine wl_move rfl rfl (by decide) ?_
      refine wl_call rfl rfl (vs := [.slice QA qn qc, .int .u64 ((p : Nat) : Int)]) (by kernel_rfl) (by decide) (rx_MulWord hw1.size hao.wi (by omega) hpb) ?_
      rintro _ v8 ⟨xr10, rfl, r10, e9⟩
      refine ret_intro ?_
      have hw2 : Ext w v8 := hw1.trans e9
      obtain ⟨A11, n11, c11, rfl, j11, o11⟩ := r10
      refine wl_move rfl rfl (by decide) ?_
      refine wl_bslice rfl rfl (by decide) (k := 1) (e := 48) [.int .u64 ((v : Nat) : Int)] (fun _ => by kernel_rfl) fun g12 v13 nb14 => ?_
      have o15 := O1.mk_ (x := v) (b := w.heap.size) nb14 hw2.size
      have e16 := nb14.ext
      have hw3 : Ext w v13 := hw2.trans e16
      refine wl_call rfl rfl (vs := [.slice A11 n11 c11, .slice (some ⟨g12, 0, none⟩) 1 1]) (by kernel_rfl) (by decide) (rx_AddW hw3.size (o11.ext e16).wi (by omega) (own1_wi o15 hvb) (by decide)) ?_
      rintro _ v19 ⟨xr21, rfl, r21, e20⟩
      refine ret_intro ?_
      have hw4 : Ext w v19 := hw3.trans e20
      obtain ⟨A22, n22, c22, rfl, j22, o22⟩ := r21
      refine wl_assign rfl rfl (by decide) ?_
      refine wl_nil ?_
      refine eo_then ?_
      refine cw_region ?_
      refine wl_move rfl rfl (by decide) ?_
      refine wl_move rfl rfl (by decide) ?_
      refine wl_slice rfl rfl un_u8 sz_u8 (lo := min k4 dn) (hi := dn) rfl rfl (by omega) (by have := (rl0.ext (e9.trans (e16.trans e20))).rv.le; omega) (v := .slice (if dc = min k4 dn then DA else DA.map (·.add ((min k4 dn) * 1))) (dn - (min k4 dn)) (dc - (min k4 dn))) (slice_from _ _ _ _) (by decide) ?_
      refine wl_assign rfl rfl (by decide) ?_
      refine wl_nil ?_
      refine eo_block_normal ?_
      refine eo_round (⟨v19, pre ++ rest.take (min k4 dn), rest.drop (min k4 dn), if dc = min k4 dn then DA else DA.map (·.add ((min k4 dn) * 1)), dn - (min k4 dn), dc - (min k4 dn), A22, n22, c22⟩ : World × List Nat × List Nat × Option Addr × Nat × Nat × Option Addr × Nat × Nat) ⟨hw4, (by rw [List.append_assoc, List.take_append_drop]; exact hsp), (by rw [hm]; exact j22), (by rw [hm]; exact o22), ((rl0.ext (e9.trans (e16.trans e20))).drop (k := min k4 dn) (by omega))⟩ (show dn - min k4 dn < dn by omega) rfl ⟨rfl, rfl, rfl, rfl, trivial⟩
  ·
    refine cw_region ?_
    refine wl_move rfl rfl (by decide) ?_
    refine wl_pure rfl rfl (v := .int .i64 ((dn : Nat) : Int)) (by decide) (by kernel_rfl) ?_
    refine wl_cmp rfl rfl rfl false (cb_gt_f (a := dn) (b := 0) rfl rfl (by omega)) (by decide) ?_
    refine wl_nil ?_
    refine eo_then ?_
    refine cw_false rfl ?_
    refine cw_exit ?_
    refine eo_thenX ?_
    refine eo_loopX ?_
    refine eo_block_here ?_
    refine eo_then ?_
    refine cw_seq ?_
    refine cw_region ?_
    refine wl_move rfl rfl (by decide) ?_
    refine wl_assign rfl rfl (by decide) ?_
    refine wl_nil ?_
    refine eo_then ?_
    refine cw_ret ?_
    refine eo_ret [.slice QA qn qc] rfl ⟨rfl, trivial⟩ ?_
    have hr0 : rest = [] := List.length_eq_zero_iff.1 (by have := rl0.len; omega)
    rw [hr0, List.append_nil] at hsp
    exact ⟨_, rfl, ⟨_, _, _, rfl, hsp ▸ han, hsp ▸ hao⟩, hw1⟩
theorem rx_numberN : ∀ N, NumOk N
  | 0 => fun hn hbl hbu hd _ => rx_number_low hbl hbu hd (by omega)
  | N + 1 => by
    intro hn hbl hbu hd hm
    rename_i w A n c base ds
    by_cases h : 200 < n
    · exact rx_number_big (rx_numberN N) hn hbl hbu hd hm h
    · exact rx_number_low hbl hbu hd (by omega)
theorem rx_number {w : World} {b : Nat} (hb : b ≤ w.heap.size) {A : Option Addr} {n c base : Nat} {ds : List Nat} (hbl : 2 ≤ base) (hbu : base ≤ 36) (hd : Rb base w A n c ds) (hn : n ≤ 17179869184) : Calls Tryd.prog 65 #[.slice A n c, .int .i64 ((base : Nat) : Int)] w (Gv w (WR b (vald base ds))) :=
  (rx_numberN n (Nat.le_refl _) hbl hbu hd hn).mono (Gv.imp (WR.imp hb))
theorem getD_mem {l : List Nat} {i : Nat} (h : i < l.length) : l.getD i 0 ∈ l := by
  rw [List.getD_eq_getElem?_getD, List.getElem?_eq_getElem h]; exact List.getElem_mem h
theorem dig_map {b : Nat} {l : List Nat} (h : ∀ c, c ∈ l → dv c < b) : ∀ x, x ∈ l.map dv → x < b := by
  intro x hx
  obtain ⟨c, hc, rfl⟩ := List.mem_map.1 hx
  exact h c hc
set_option maxHeartbeats 4000000 in
theorem rx_Read_all {w : World} {base : Nat} {bs : List Nat} (hbl : 2 ≤ base) (hbu : base ≤ 36) (hbs : ∀ b, b ∈ bs → b < 256) (hlen : bs.length ≤ 17179869184) :
    Calls Tryd.prog 34 #[.string (strB bs), .int .i64 ((base : Nat) : Int)] w (fun e w' => (Good base bs → Gv w (T2 (WR w.heap.size (vald base (bs.map dv))) (Is (.int .i64 0))) e w') ∧ (¬ Good base bs → Gv w (T2 (Is (.slice none 0 0)) (Is (.int .i64 7))) e w')) := by
  refine sx_enter Tryd.func34 rfl (n := 41) rfl (Nat.le_of_ble_eq_true rfl) (args := [.string (strB bs), .int .i64 ((base : Nat) : Int)]) ?_
  refine cw_keep [(0, .string (strB bs)), (1, .int .i64 ((base : Nat) : Int))] ⟨rfl, rfl, trivial⟩ ?_
  refine cw_seq ?_
  refine cw_region ?_
  refine wl_assign rfl rfl (by decide) ?_
  refine wl_assign rfl rfl (by decide) ?_
  refine wl_nil ?_
  refine eo_then ?_
  refine cw_seq ?_
  refine cw_seq ?_
  refine cw_region ?_
  refine wl_move rfl rfl (by decide) ?_
  refine wl_cmp rfl rfl rfl false (cb_lt_f (a := base) (b := 2) rfl rfl (by omega)) (by decide) ?_
  refine wl_move rfl rfl (by decide) ?_
  refine wl_move rfl rfl (by decide) ?_
  refine wl_cmp rfl rfl rfl false (cb_gt_f (a := base) (b := 36) rfl rfl (by omega)) (by decide) ?_
  refine wl_pure rfl rfl (v := .bool false) (by decide) (by kernel_rfl) ?_
  refine wl_nil ?_
  refine eo_then ?_
  refine cw_false rfl ?_
  refine cw_skip ?_
  refine eo_then ?_
  refine cw_seq ?_
  refine cw_region ?_
  refine wl_move rfl rfl (by decide) ?_
  refine wl_pureE rfl rfl (v := .int .i64 (((strB bs).size : Nat) : Int)) (v' := .int .i64 ((bs.length : Nat) : Int)) (by decide) (by kernel_rfl) (by rw [strB_size]) ?_
  refine wl_make80 (k := bs.length) rfl rfl rfl un_u8 info8 rfl (by omega) (by decide) fun g1 v2 ho3 e4 => ?_
  have ho3 := ho3.mono (Ext.refl w).size
  have hw1 : Ext w v2 := (Ext.refl w).trans e4
  refine wl_assign rfl rfl (by decide) ?_
  refine wl_nil ?_
  refine eo_then ?_
  refine cw_seq ?_
  refine cw_seq ?_
  refine cw_region ?_
  refine wl_move rfl rfl (by decide) ?_
  refine wl_range (bs := bs) rfl rfl Tryd.underlying9 (by decide) fun g5 v6 hg7 it8 e9 => ?_
  have ge10 : w.heap.size ≤ g5 := by rw [← hg7]; exact hw1.size
  clear hg7
  have hw2 : Ext w v6 := hw1.trans e9
  refine wl_nil ?_
  refine eo_then ?_
  refine cw_block ?_
  refine cw_loop (T := World × Nat × Option Addr × Nat)
    (fun ⟨wr, p, OA, oc⟩ => [(0, .string (strB bs)), (1, .int .i64 ((base : Nat) : Int)), (6, .slice OA p oc), (20, .pointer (some ⟨g5, 0, none⟩))])
    (fun ⟨wr, p, OA, oc⟩ => wr)
    (fun ⟨wr, p, OA, oc⟩ => (Ext w wr) ∧ (It wr g5 bs p) ∧ (Own wr w.heap.size 5 1 OA p oc (((bs.take p).map dv).map B8)) ∧ (p ≤ bs.length) ∧ (∀ c, c ∈ bs.take p → dv c < base))
    (fun ⟨wr, p, OA, oc⟩ => bs.length - p)
    (⟨v6, 0, (some ⟨g1, 0, none⟩), bs.length⟩ : World × Nat × Option Addr × Nat) ⟨hw2, it8, (ho3.ext e9), (Nat.zero_le _), (fun c hc => absurd hc (by simp))⟩ rfl ⟨rfl, rfl, rfl, rfl, trivial⟩ ?_
  rintro ⟨wr, p, OA, oc⟩ ⟨hw1, hI, hO, hp, hg⟩
  refine cw_re [(0, .string (strB bs)), (1, .int .i64 ((base : Nat) : Int)), (6, .slice OA p oc), (20, .pointer (some ⟨g5, 0, none⟩))] wr rfl ⟨rfl, rfl, rfl, rfl, trivial⟩ ?_
  refine cw_seq ?_
  by_cases hnx : p < bs.length
  ·
    refine cw_region ?_
    have it11 := hI
    refine wl_nextR rfl rfl hbs it11 (by omega) (by decide) fun v12 r13 z14 hr15 it16 u17 => ?_
    have hw2 : Ext w v12 := u17.ext hw1 ge10
    refine wl_pure rfl rfl (v := .bool true) (by decide) (by kernel_rfl) ?_
    refine wl_nil ?_
    refine eo_then ?_
    refine cw_seq ?_
    refine cw_true rfl ?_
    refine cw_skip ?_
    refine eo_then ?_
    refine cw_block ?_
    refine cw_seq ?_
    refine cw_region ?_
    refine wl_pure rfl rfl (v := .int .i32 ((r13 : Nat) : Int)) (by decide) (by kernel_rfl) ?_
    refine wl_assign rfl rfl (by decide) ?_
    refine wl_nil ?_
    refine eo_then ?_
    refine cw_seq ?_
    refine cw_region ?_
    refine wl_move rfl rfl (by decide) ?_
    refine wl_call rfl rfl (vs := [.int .i32 ((r13 : Nat) : Int)]) (by kernel_rfl) (by decide) (rx_value hr15.le) ?_
    rintro _ v18 ⟨xr20, rfl, r20, e19⟩
    refine ret_intro ?_
    have hw3 : Ext w v18 := hw2.trans e19
    obtain rfl := r20
    refine wl_assign rfl rfl (by decide) ?_
    refine wl_nil ?_
    refine eo_then ?_
    refine cw_seq ?_
    refine cw_seq ?_
    by_cases hge : dv r13 ≥ base
    ·
      have hbad : ¬ Good base bs := fun h => by have := h.2 (bs.getD p 0) (getD_mem hnx); rw [← hr15.dv] at this; omega
      refine cw_region ?_
      refine wl_move rfl rfl (by decide) ?_
      refine wl_move rfl rfl (by decide) ?_
      refine wl_cmp rfl rfl rfl true (cb_ge_t (a := dv r13) (b := base) rfl rfl (by omega)) (by decide) ?_
      refine wl_nil ?_
      refine eo_then ?_
      refine cw_true rfl ?_
      refine cw_seq ?_
      refine cw_region ?_
      refine wl_assign rfl rfl (by decide) ?_
      refine wl_assign rfl rfl (by decide) ?_
      refine wl_nil ?_
      refine eo_then ?_
      refine cw_ret ?_
      refine eo_thenR ?_
      refine eo_block_ret ?_
      refine eo_loopR ?_
      refine eo_block_ret ?_
      refine eo_thenR ?_
      refine eo_ret [.slice none 0 0, .int .i64 7] rfl ⟨rfl, rfl, trivial⟩ ?_
      exact ⟨fun h => absurd h hbad, fun _ => ⟨_, rfl, ⟨_, _, rfl, rfl, rfl⟩, hw3⟩⟩
    ·
      have h1z := hr15.one (by omega)
      have hdv36 := dv_le r13
      refine cw_region ?_
      refine wl_move rfl rfl (by decide) ?_
      refine wl_move rfl rfl (by decide) ?_
      refine wl_cmp rfl rfl rfl false (cb_ge_f (a := dv r13) (b := base) rfl rfl (by omega)) (by decide) ?_
      refine wl_nil ?_
      refine eo_then ?_
      refine cw_false rfl ?_
      refine cw_skip ?_
      refine eo_then ?_
      refine cw_region ?_
      refine wl_move rfl rfl (by decide) ?_
      refine wl_move rfl rfl (by decide) ?_
      refine wl_pureE rfl rfl (v := .int .u8 (IntKind.u8.wrap ((dv r13 : Nat) : Int))) (v' := .int .u8 ((dv r13 : Nat) : Int)) (by decide) (by kernel_rfl) (cv_u8 (by omega)) ?_
      refine wl_bslice rfl rfl (by decide) (k := 1) (e := 5) [.int .u8 ((dv r13 : Nat) : Int)] (fun _ => by kernel_rfl) fun g21 v22 nb => ?_
      have hb23 := nb.bk
      have e24 := nb.ext
      clear nb
      have hw4 : Ext w v22 := hw3.trans e24
      have ow25 := ((hO.updI it11 u17).ext (e19.trans e24))
      refine wl_app rfl rfl rfl un_u8 info8 rfl (by decide) (by decide) ow25 hw4.size [.int .u8 ((dv r13 : Nat) : Int)] rfl (one_news _ hb23) rfl (by omega) (by decide) fun A26 c27 v28 ho29 uo30 kp31 => ?_
      have hw5 : Ext w v28 := uo30.ext hw4 (fun p hp => (ow25.block p hp).1)
      have ho32 : Own v28 w.heap.size 5 1 A26 (p + 1) c27 ((((bs.take p).map dv) ++ [dv r13]).map B8) := by have h := ho29; simp only [List.map_append, List.map_cons, List.map_nil] at h ⊢; exact h
      refine wl_assign rfl rfl (by decide) ?_
      refine wl_nil ?_
      refine eo_block_normal ?_
      have htk : bs.take (p + 1) = bs.take p ++ [bs.getD p 0] := by have := take_get (n := bs.length) hnx (Nat.le_refl _); rwa [List.take_length] at this
      have hdr := hr15.dv
      refine eo_round (⟨v28, p + 1, A26, c27⟩ : World × Nat × Option Addr × Nat) ⟨hw5, (by have h := ((it16.ext (e19.trans e24)).updO uo30 (it_own_ne ow25 (it16.ext (e19.trans e24)))); rwa [h1z.1] at h), (by rw [htk, List.map_append]; rw [hdr] at ho32; exact ho32), (by omega), (by rw [htk]; intro c hc; rcases List.mem_append.1 hc with h | h; (· exact hg c h); (· rw [List.mem_singleton.1 h, ← hdr]; omega))⟩ (show bs.length - (p + 1) < bs.length - p by omega) rfl ⟨rfl, rfl, rfl, rfl, trivial⟩
  ·
    have hpl : p = bs.length := by omega
    refine cw_region ?_
    have it33 := hI
    refine wl_next_end rfl rfl it33 (by omega) (by decide) ?_
    refine wl_pure rfl rfl (v := .bool false) (by decide) (by kernel_rfl) ?_
    refine wl_nil ?_
    refine eo_then ?_
    refine cw_seq ?_
    refine cw_false rfl ?_
    refine cw_exit ?_
    refine eo_thenX ?_
    refine eo_loopX ?_
    refine eo_block_here ?_
    refine eo_then ?_
    refine cw_seq ?_
    refine cw_seq ?_
    by_cases hz : p = 0
    ·
      have hbad : ¬ Good base bs := fun h => h.1 (List.length_eq_zero_iff.1 (by omega))
      refine cw_region ?_
      refine wl_move rfl rfl (by decide) ?_
      refine wl_pure rfl rfl (v := .int .i64 ((p : Nat) : Int)) (by decide) (by kernel_rfl) ?_
      refine wl_cmp rfl rfl rfl true (cb_eq_t (a := p) (b := 0) rfl rfl (by omega)) (by decide) ?_
      refine wl_nil ?_
      refine eo_then ?_
      refine cw_true rfl ?_
      refine cw_seq ?_
      refine cw_region ?_
      refine wl_assign rfl rfl (by decide) ?_
      refine wl_assign rfl rfl (by decide) ?_
      refine wl_nil ?_
      refine eo_then ?_
      refine cw_ret ?_
      refine eo_thenR ?_
      refine eo_ret [.slice none 0 0, .int .i64 7] rfl ⟨rfl, rfl, trivial⟩ ?_
      exact ⟨fun h => absurd h hbad, fun _ => ⟨_, rfl, ⟨_, _, rfl, rfl, rfl⟩, hw1⟩⟩
    ·
      have hgood : Good base bs := ⟨fun e => by rw [e] at hpl; simp at hpl; omega, by have := hg; rwa [hpl, List.take_length] at this⟩
      have hLn : (wd (vald base ((bs.take p).map dv))).length ≤ p := by have := len_vald (b := base) (by omega) hbu (ds := (bs.take p).map dv) (dig_map hg); rw [List.length_map, List.length_take] at this; omega
      refine cw_region ?_
      refine wl_move rfl rfl (by decide) ?_
      refine wl_pure rfl rfl (v := .int .i64 ((p : Nat) : Int)) (by decide) (by kernel_rfl) ?_
      refine wl_cmp rfl rfl rfl false (cb_eq_f (a := p) (b := 0) rfl rfl (by omega)) (by decide) ?_
      refine wl_nil ?_
      refine eo_then ?_
      refine cw_false rfl ?_
      refine cw_skip ?_
      refine eo_then ?_
      refine cw_seq ?_
      refine cw_region ?_
      refine wl_move rfl rfl (by decide) ?_
      refine wl_move rfl rfl (by decide) ?_
      refine wl_call rfl rfl (vs := [.slice OA p oc, .int .i64 ((base : Nat) : Int)]) (by kernel_rfl) (by decide) (rx_number hw1.size hbl hbu (hO.rb (dig_map hg)) (by omega)) ?_
      rintro _ v34 ⟨xr36, rfl, r36, e35⟩
      refine ret_intro ?_
      have hw2 : Ext w v34 := hw1.trans e35
      obtain ⟨A37, n37, c37, rfl, j37, o37⟩ := r36
      refine wl_call rfl rfl (vs := [.slice A37 n37 c37]) (by kernel_rfl) (by decide) (rx_LeastW hw2.size o37.wi (by omega)) ?_
      rintro _ v38 ⟨xr40, rfl, r40, e39⟩
      refine ret_intro ?_
      have hw3 : Ext w v38 := hw2.trans e39
      obtain ⟨A41, n41, c41, rfl, j41, o41⟩ := r40
      refine wl_assign rfl rfl (by decide) ?_
      refine wl_assign rfl rfl (by decide) ?_
      refine wl_nil ?_
      refine eo_then ?_
      refine cw_ret ?_
      refine eo_ret [.slice A41 n41 c41, .int .i64 0] rfl ⟨rfl, rfl, trivial⟩ ?_
      have hfin : vald base ((bs.take p).map dv) = vald base (bs.map dv) := by rw [hpl, List.take_length]
      exact ⟨fun _ => ⟨_, rfl, ⟨_, _, rfl, ⟨_, _, _, rfl, hfin ▸ j41, hfin ▸ o41⟩, rfl⟩, hw3⟩, fun h => absurd hgood h⟩
theorem rx_Read_good {w : World} {b : Nat} (hb : b ≤ w.heap.size) {base : Nat} {bs : List Nat} (hbl : 2 ≤ base) (hbu : base ≤ 36) (hbs : ∀ b, b ∈ bs → b < 256) (hlen : bs.length ≤ 17179869184) (hg : Good base bs) :
    Calls Tryd.prog 34 #[.string (strB bs), .int .i64 ((base : Nat) : Int)] w (Gv w (T2 (WR b (vald base (bs.map dv))) (Is (.int .i64 0)))) := (rx_Read_all hbl hbu hbs hlen).mono fun _e _w' h => Gv.imp (T2.imp (WR.imp hb) Is.imp) _ _ (h.1 hg)
theorem rx_Read_bad {w : World} {base : Nat} {bs : List Nat} (hbl : 2 ≤ base) (hbu : base ≤ 36) (hbs : ∀ b, b ∈ bs → b < 256) (hlen : bs.length ≤ 17179869184) (hg : ¬ Good base bs) :
    Calls Tryd.prog 34 #[.string (strB bs), .int .i64 ((base : Nat) : Int)] w (Gv w (T2 (Is (.slice none 0 0)) (Is (.int .i64 7)))) := (rx_Read_all hbl hbu hbs hlen).mono fun _e _w' h => h.2 hg
end Go.Proofs.YtmjdmjflgiicaaaDoor

namespace Go.Proofs.YtmjdmjflgiicaaaDoor
open Go.RowKit
set_option maxHeartbeats 4000000 in
theorem rx_Text {w : World} {A : Option Addr} {an ac m base : Nat} (hS : Signs w) (hx : Wi w A an ac m) (hal : an ≤ 4194304) (hbl : 2 ≤ base) (hbu : base ≤ 36) :
    Calls Tryd.prog 36 #[.slice A an ac, .int .i64 ((base : Nat) : Int)] w (Gv w (T2 (Is (.string (strB (txtN base m)))) (Is (.int .i64 0)))) := by
  have hml : (wd m).length ≤ 4194304 := Nat.le_trans hx.len hal
  have hlen0 : 0 + max 0 (db base m).length ≤ 137438953472 := by have := len_db_small hbl hml; omega
  refine sx_enter Tryd.func36 rfl (n := 73) rfl (Nat.le_of_ble_eq_true rfl) (args := [.slice A an ac, .int .i64 ((base : Nat) : Int)]) ?_
  refine cw_keep [(0, .slice A an ac), (1, .int .i64 ((base : Nat) : Int))] ⟨rfl, rfl, trivial⟩ ?_
  refine cw_seq ?_
  refine cw_region ?_
  refine wl_assign rfl rfl (by decide) ?_
  refine wl_assign rfl rfl (by decide) ?_
  refine wl_nil ?_
  refine eo_then ?_
  refine cw_seq ?_
  refine cw_seq ?_
  refine cw_region ?_
  refine wl_move rfl rfl (by decide) ?_
  refine wl_cmp rfl rfl rfl false (cb_lt_f (a := base) (b := 2) rfl rfl (by omega)) (by decide) ?_
  refine wl_move rfl rfl (by decide) ?_
  refine wl_move rfl rfl (by decide) ?_
  refine wl_cmp rfl rfl rfl false (cb_gt_f (a := base) (b := 36) rfl rfl (by omega)) (by decide) ?_
  refine wl_pure rfl rfl (v := .bool false) (by decide) (by kernel_rfl) ?_
  refine wl_nil ?_
  refine eo_then ?_
  refine cw_false rfl ?_
  refine cw_skip ?_
  refine eo_then ?_
  refine cw_seq ?_
  refine cw_region ?_
  refine wl_move rfl rfl (by decide) ?_
  refine wl_call rfl rfl (vs := [.slice A an ac]) (by kernel_rfl) (by decide) (g_nat_LeastW (hx.ext (Ext.refl w)) (by omega)) ?_
  rintro _ v1 ⟨xr3, rfl, r3, e2⟩
  refine ret_intro ?_
  have hw1 : Ext w v1 := (Ext.refl w).trans e2
  obtain ⟨A4, n4, c4, rfl, j4, o4⟩ := r3
  refine wl_assign rfl rfl (by decide) ?_
  refine wl_nil ?_
  refine eo_then ?_
  refine cw_seq ?_
  refine cw_seq ?_
  by_cases hz0 : n4 = 0
  ·
    have hm0 : m = 0 := len_wd_zero.1 (by omega)
    refine cw_region ?_
    refine wl_move rfl rfl (by decide) ?_
    refine wl_pure rfl rfl (v := .int .i64 ((n4 : Nat) : Int)) (by decide) (by kernel_rfl) ?_
    refine wl_cmp rfl rfl rfl true (cb_eq_t (a := n4) (b := 0) rfl rfl (by omega)) (by decide) ?_
    refine wl_nil ?_
    refine eo_then ?_
    refine cw_true rfl ?_
    refine cw_seq ?_
    refine cw_region ?_
    refine wl_assign rfl rfl (by decide) ?_
    refine wl_assign rfl rfl (by decide) ?_
    refine wl_nil ?_
    refine eo_then ?_
    refine cw_ret ?_
    refine eo_thenR ?_
    refine eo_ret [.string (strB ([48])), .int .i64 0] rfl ⟨rfl, rfl, trivial⟩ ?_
    have hstr : ([48] : List Nat) = txtN base m := by subst hm0; rfl
    exact ⟨_, rfl, ⟨_, _, rfl, (show Value.string _ = Value.string _ from congrArg (fun l => Value.string (strB l)) hstr), rfl⟩, hw1⟩
  ·
    have hm0 : m ≠ 0 := fun e => hz0 (by rw [j4, e]; rfl)
    refine cw_region ?_
    refine wl_move rfl rfl (by decide) ?_
    refine wl_pure rfl rfl (v := .int .i64 ((n4 : Nat) : Int)) (by decide) (by kernel_rfl) ?_
    refine wl_cmp rfl rfl rfl false (cb_eq_f (a := n4) (b := 0) rfl rfl (by omega)) (by decide) ?_
    refine wl_nil ?_
    refine eo_then ?_
    refine cw_false rfl ?_
    refine cw_skip ?_
    refine eo_then ?_
    refine cw_seq ?_
    refine cw_region ?_
    refine wl_move rfl rfl (by decide) ?_
    refine wl_call rfl rfl (vs := [.int .i64 ((base : Nat) : Int)]) (by kernel_rfl) (by decide) (rx_piece hbl hbu) ?_
    rintro _ v5 ⟨k8, p9, xr7, rfl, r7, e6⟩
    refine ret_intro ?_
    have hw2 : Ext w v5 := hw1.trans e6
    obtain ⟨a10_0, a10_1, rfl, r10_0, r10_1⟩ := r7
    obtain rfl := r10_0
    obtain rfl := r10_1
    refine wl_move rfl rfl (by decide) ?_
    refine wl_pure rfl rfl (v := .int .i64 ((k8 : Nat) : Int)) (by decide) (by kernel_rfl) ?_
    refine wl_pure rfl rfl (v := .int .u64 ((base ^ k8 : Nat) : Int)) (by decide) (by kernel_rfl) ?_
    refine wl_assign rfl rfl (by decide) ?_
    refine wl_assign rfl rfl (by decide) ?_
    refine wl_nil ?_
    refine eo_then ?_
    refine cw_seq ?_
    refine cw_region ?_
    refine wl_move rfl rfl (by decide) ?_
    refine wl_move rfl rfl (by decide) ?_
    refine wl_move rfl rfl (by decide) ?_
    refine wl_pure rfl rfl (v := .agg #[.int .i64 ((base : Nat) : Int), .int .i64 ((k8 : Nat) : Int), .int .u64 ((base ^ k8 : Nat) : Int), .slice none 0 0, .slice none 0 0]) (by decide) (by kernel_rfl) ?_
    refine wl_box rfl rfl (vs := [.int .i64 ((base : Nat) : Int), .int .i64 ((k8 : Nat) : Int), .int .u64 ((base ^ k8 : Nat) : Int), .slice none 0 0, .slice none 0 0]) rfl (by decide) fun g11 v12 nb => ?_
    have hgl := Nat.le_of_eq nb.at_
    have hle0 : w.heap.size ≤ v5.heap.size := hw2.size
    have hb14 := nb.bk
    have ge15 : w.heap.size ≤ g11 := by rw [← nb.at_]; exact hw2.size
    have e13 := nb.ext
    clear nb
    have hw3 : Ext w v12 := hw2.trans e13
    refine wl_assign rfl rfl (by decide) ?_
    refine wl_nil ?_
    refine eo_then ?_
    refine cw_seq ?_
    refine cw_seq ?_
    by_cases h12 : n4 > 12
    ·
      refine cw_region ?_
      refine wl_move rfl rfl (by decide) ?_
      refine wl_pure rfl rfl (v := .int .i64 ((n4 : Nat) : Int)) (by decide) (by kernel_rfl) ?_
      refine wl_cmp rfl rfl rfl true (cb_gt_t (a := n4) (b := 12) rfl rfl (by omega)) (by decide) ?_
      refine wl_nil ?_
      refine eo_then ?_
      refine cw_true rfl ?_
      refine cw_seq ?_
      have hk1 : 1 ≤ k8 := by refine Nat.pos_of_ne_zero (fun e => ?_); have := p9.gt; rw [e, Nat.zero_add, Nat.pow_one] at this; omega
      have hu2 : 2 ≤ base ^ k8 := Nat.le_trans hbl (Nat.le_trans (Nat.le_of_eq (Nat.pow_one base).symm) (Nat.pow_le_pow_right (by omega) hk1))
      have hum := p9.le
      refine cw_region ?_
      refine wl_move rfl rfl (by decide) ?_
      refine wl_bslice rfl rfl (by decide) (k := 1) (e := 48) [.int .u64 ((base ^ k8 : Nat) : Int)] (fun _ => by kernel_rfl) fun g16 v17 nb => ?_
      have hb18 := nb.bk
      have e19 := nb.ext
      clear nb
      have hw4 : Ext w v17 := hw3.trans e19
      refine wl_assign rfl rfl (by decide) ?_
      refine wl_nil ?_
      refine eo_then ?_
      refine cw_block ?_
      refine cw_loop (T := World × Nat × Option Addr × Nat × Nat × Option Addr × Nat)
        (fun ⟨wr, j, QA, qn, qc, PA, pc⟩ => [(0, .slice A4 n4 c4), (1, .int .i64 ((base : Nat) : Int)), (6, .int .i64 ((k8 : Nat) : Int)), (7, .int .u64 ((base ^ k8 : Nat) : Int)), (8, .pointer (some ⟨g11, 0, none⟩)), (9, .slice QA qn qc)])
        (fun ⟨wr, j, QA, qn, qc, PA, pc⟩ => wr)
        (fun ⟨wr, j, QA, qn, qc, PA, pc⟩ => (Ext w wr) ∧ (j = 0 ∨ (base ^ k8) ^ 2 ^ (j - 1) ≤ m) ∧ (qn = (wd ((base ^ k8) ^ 2 ^ j)).length) ∧ (qn ≤ 8388608) ∧ (Own wr 0 48 1 QA qn qc ((wd ((base ^ k8) ^ 2 ^ j)).map W64)) ∧ (Bk wr g11 88 [.int .i64 ((base : Nat) : Int), .int .i64 ((k8 : Nat) : Int), .int .u64 ((base ^ k8 : Nat) : Int), .slice PA j pc, .slice none 0 0]) ∧ (Pw wr v5.heap.size PA j pc (base ^ k8)) ∧ (v5.heap.size ≤ wr.heap.size) ∧ (Own wr 0 48 1 A4 n4 c4 ((wd m).map W64)))
        (fun ⟨wr, j, QA, qn, qc, PA, pc⟩ => 64 - j)
        (⟨v17, 0, (some ⟨g16, 0, none⟩), 1, 1, none, 0⟩ : World × Nat × Option Addr × Nat × Nat × Option Addr × Nat) ⟨hw4, (Or.inl rfl), (by rw [Nat.pow_zero, Nat.pow_one]; exact len1 hum (by omega)), (by decide), (by rw [Nat.pow_zero, Nat.pow_one]; exact (bw_own hb18 hum (by omega))), (hb14.ext e19), (Pw.nil _ _ _), ((Nat.le_trans e13.size e19.size)), ((o4.ext (e6.trans (e13.trans e19)))).mono (Nat.zero_le _)⟩ rfl ⟨rfl, rfl, rfl, rfl, rfl, rfl, trivial⟩ ?_
      rintro ⟨wr, j, QA, qn, qc, PA, pc⟩ ⟨hw1, hjm, hqn, hq8, hq, b_g, hPw, hpb0, hoa⟩
      refine cw_re [(0, .slice A4 n4 c4), (1, .int .i64 ((base : Nat) : Int)), (6, .int .i64 ((k8 : Nat) : Int)), (7, .int .u64 ((base ^ k8 : Nat) : Int)), (8, .pointer (some ⟨g11, 0, none⟩)), (9, .slice QA qn qc)] wr rfl ⟨rfl, rfl, rfl, rfl, rfl, rfl, trivial⟩ ?_
      refine cw_seq ?_
      refine cw_seq ?_
      have hj30 : j ≤ 29 := by rcases hjm with h | h; (· omega); (· have := ip_small (pow_le_bits hu2 h hml) (by omega); omega)
      by_cases hle : (base ^ k8) ^ 2 ^ j ≤ m
      ·
        have hsq : (wd ((base ^ k8) ^ 2 ^ j * (base ^ k8) ^ 2 ^ j)).length ≤ 8388608 := len_sq (Nat.le_trans (len_wd_mono hle) hml)
        refine cw_region ?_
        refine wl_move rfl rfl (by decide) ?_
        refine wl_move rfl rfl (by decide) ?_
        refine wl_call rfl rfl (vs := [.slice QA qn qc, .slice A4 n4 c4]) (by kernel_rfl) (by decide) (rx_Cmp hq.wi (by omega) hoa.wi (by omega)) ?_
        rintro _ v20 ⟨xr22, rfl, r22, e21⟩
        refine ret_intro ?_
        have hw2 : Ext w v20 := hw1.trans e21
        obtain rfl := r22
        refine wl_cmp rfl rfl rfl true (cmp3_leT hle) (by decide) ?_
        refine wl_nil ?_
        refine eo_then ?_
        refine cw_true rfl ?_
        refine cw_skip ?_
        refine eo_then ?_
        refine cw_block ?_
        refine cw_seq ?_
        refine cw_region ?_
        refine wl_move rfl rfl (by decide) ?_
        refine wl_move rfl rfl (by decide) ?_
        refine wl_pure rfl rfl (v := .pointer (some ⟨g11, 0, none⟩)) (by decide) (by kernel_rfl) ?_
        refine wl_pure rfl rfl (v := .pointer (some ⟨g11, 3, none⟩)) (by decide) (by kernel_rfl) ?_
        refine wl_load rfl rfl (load_cell (fun _ => by kernel_rfl) (b_g.ext e21) rfl) (by decide) ?_
        refine wl_move rfl rfl (by decide) ?_
        refine wl_bslice rfl rfl (by decide) (k := 1) (e := 22) [.slice QA qn qc] (fun _ => by kernel_rfl) fun g23 v24 nb => ?_
        have hb25 := nb.bk
        have e26 := nb.ext
        clear nb
        have hw3 : Ext w v24 := hw2.trans e26
        refine wl_appP rfl rfl rfl (hPw.ext (e21.trans e26)) (Nat.le_trans hpb0 ((Nat.le_trans e21.size e26.size))) hb25 hqn hq8 (hq.ext (e21.trans e26)) (by omega) (by decide) fun A27 c28 v29 pw30 uo31 ⟨us32, ow33⟩ => ?_
        have hw4 : Ext w v29 := uo31.ext hw3 (fun p hp => Nat.le_trans hle0 (ow33.block p hp).1)
        refine wl_pure rfl rfl (v := .pointer (some ⟨g11, 0, none⟩)) (by decide) (by kernel_rfl) ?_
        refine wl_pure rfl rfl (v := .pointer (some ⟨g11, 3, none⟩)) (by decide) (by kernel_rfl) ?_
        have hb35 := ((b_g.ext (e21.trans e26)).updO uo31 (own_ne ow33 (b_g.ext (e21.trans e26)) (by decide)))
        refine wl_stored1 rfl rfl rfl (fun _ => by kernel_rfl) rfl hb35 (Nat.le_of_ble_eq_true rfl) rfl [.int .i64 ((base : Nat) : Int), .int .i64 ((k8 : Nat) : Int), .int .u64 ((base ^ k8 : Nat) : Int), .slice A27 (j + 1) c28, .slice none 0 0] rfl fun v34 hb36 u37 hs38 => ?_
        have hw5 : Ext w v34 := u37.ext hw4 ge15
        refine wl_nil ?_
        refine eo_then ?_
        refine cw_seq ?_
        refine cw_seq ?_
        by_cases hbig : 2 * qn > n4 + 2
        ·
          refine cw_region ?_
          refine wl_move rfl rfl (by decide) ?_
          refine wl_pure rfl rfl (v := .int .i64 ((qn : Nat) : Int)) (by decide) (by kernel_rfl) ?_
          refine wl_ar rfl rfl rfl ((2 * qn : Nat) : Int) (ai_mul (a := 2) (b := qn) rfl rfl (by omega)) (by decide) ?_
          refine wl_move rfl rfl (by decide) ?_
          refine wl_pure rfl rfl (v := .int .i64 ((n4 : Nat) : Int)) (by decide) (by kernel_rfl) ?_
          refine wl_ar rfl rfl rfl ((n4 + 2 : Nat) : Int) (ai_add (a := n4) (b := 2) rfl rfl (by omega)) (by decide) ?_
          refine wl_cmp rfl rfl rfl true (cb_gt_t (a := 2 * qn) (b := n4 + 2) rfl rfl (by omega)) (by decide) ?_
          refine wl_nil ?_
          refine eo_then ?_
          refine cw_true rfl ?_
          refine cw_exit ?_
          refine eo_thenX ?_
          refine eo_block_far (by decide) ?_
          refine eo_loopX ?_
          refine eo_block_here ?_
          refine eo_then ?_
          refine cw_seq ?_
          refine cw_region ?_
          refine wl_move rfl rfl (by decide) ?_
          refine wl_move rfl rfl (by decide) ?_
          refine wl_move rfl rfl (by decide) ?_
          refine wl_pure rfl rfl (v := .pointer (some ⟨g11, 0, none⟩)) (by decide) (by kernel_rfl) ?_
          refine wl_pure rfl rfl (v := .pointer (some ⟨g11, 3, none⟩)) (by decide) (by kernel_rfl) ?_
          refine wl_load rfl rfl (load_cell (fun _ => by kernel_rfl) hb36 rfl) (by decide) ?_
          refine wl_pure rfl rfl (v := .int .i64 (((j + 1) : Nat) : Int)) (by decide) (by kernel_rfl) ?_
          refine wl_ar rfl rfl rfl (((j + 1 : Nat) : Int) - 1) (ar_i64s rfl (by omega) (by omega)) (by decide) ?_
          refine wl_call rfl rfl (vs := [.pointer (some ⟨g11, 0, none⟩), .slice A4 n4 c4, .int .i64 (((j + 1 : Nat) : Int) - 1), .int .i64 0]) (by kernel_rfl) (by decide) (rx_halves (j + 1) (lb := v5.heap.size) (bs := []) rfl (hS.ext hw5) (Nat.lt_of_lt_of_le (World.block_lt_of_cell? w _ (hS 0 (by decide))) hle0) hbl hbu hb36 (Own.nil _ _ _ _) hgl (Nat.le_trans hpb0 ((Nat.le_trans (Nat.le_trans (Nat.le_trans e21.size e26.size) uo31.size) u37.by_.size))) (((hoa.ext (e21.trans e26)).updOT ow33 (by decide) uo31).updT hb35 (by decide) u37).wi (by omega) rfl p9 (by decide) hlen0 ((pw30.updT hb35 u37 (by decide) (by decide)).mono (Nat.zero_le _)) (Nat.le_refl _) (by omega)) ?_
          rintro _ v39 ⟨rfl, A40, n41, c42, hb43, ho44, uw45, kp46⟩
          refine ret_intro ?_
          have hw6 : Ext w v39 := uw45.ext hw5 hle0
          refine wl_nil ?_
          refine eo_then ?_
          refine cw_seq ?_
          refine cw_region ?_
          refine wl_move rfl rfl (by decide) ?_
          refine wl_pure rfl rfl (v := .pointer (some ⟨g11, 0, none⟩)) (by decide) (by kernel_rfl) ?_
          refine wl_pure rfl rfl (v := .pointer (some ⟨g11, 4, none⟩)) (by decide) (by kernel_rfl) ?_
          refine wl_load rfl rfl (load_cell (fun _ => by kernel_rfl) hb43 rfl) (by decide) ?_
          refine wl_toStr rfl rfl ho44 (by decide) ?_
          refine wl_assign rfl rfl (by decide) ?_
          refine wl_assign rfl rfl (by decide) ?_
          refine wl_nil ?_
          refine eo_then ?_
          refine cw_ret ?_
          refine eo_ret [.string (strB ([] ++ txt (padTo (db base m) 0))), .int .i64 0] rfl ⟨rfl, rfl, trivial⟩ ?_
          have hstr : ([] ++ txt (padTo (db base m) 0) : List Nat) = txtN base m := by rw [List.nil_append, padTo_of (Nat.zero_le _), txtN, if_neg hm0]
          exact ⟨_, rfl, ⟨_, _, rfl, (show Value.string _ = Value.string _ from congrArg (fun l => Value.string (strB l)) hstr), rfl⟩, hw6⟩
        ·
          refine cw_region ?_
          refine wl_move rfl rfl (by decide) ?_
          refine wl_pure rfl rfl (v := .int .i64 ((qn : Nat) : Int)) (by decide) (by kernel_rfl) ?_
          refine wl_ar rfl rfl rfl ((2 * qn : Nat) : Int) (ai_mul (a := 2) (b := qn) rfl rfl (by omega)) (by decide) ?_
          refine wl_move rfl rfl (by decide) ?_
          refine wl_pure rfl rfl (v := .int .i64 ((n4 : Nat) : Int)) (by decide) (by kernel_rfl) ?_
          refine wl_ar rfl rfl rfl ((n4 + 2 : Nat) : Int) (ai_add (a := n4) (b := 2) rfl rfl (by omega)) (by decide) ?_
          refine wl_cmp rfl rfl rfl false (cb_gt_f (a := 2 * qn) (b := n4 + 2) rfl rfl (by omega)) (by decide) ?_
          refine wl_nil ?_
          refine eo_then ?_
          refine cw_false rfl ?_
          refine cw_skip ?_
          refine eo_then ?_
          refine cw_region ?_
          refine wl_move rfl rfl (by decide) ?_
          refine wl_call rfl rfl (vs := [.slice QA qn qc]) (by kernel_rfl) (by decide) (rx_Square (Nat.zero_le _) (((hq.ext (e21.trans e26)).updOT ow33 (by decide) uo31).updT hb35 (by decide) u37).wi (by omega)) ?_
          rintro _ v47 ⟨xr49, rfl, r49, e48⟩
          refine ret_intro ?_
          have hw6 : Ext w v47 := hw5.trans e48
          obtain ⟨A50, n50, c50, rfl, j50, o50⟩ := r49
          refine wl_assign rfl rfl (by decide) ?_
          refine wl_nil ?_
          refine eo_block_normal ?_
          refine eo_round (⟨v47, j + 1, A50, n50, c50, A27, c28⟩ : World × Nat × Option Addr × Nat × Nat × Option Addr × Nat) ⟨hw6, (Or.inr hle), (by rw [j50, pow_sq]), (by rw [j50]; exact hsq), (by rw [← pow_sq]; exact o50), (hb36.ext e48), ((pw30.updT hb35 u37 (by decide) (by decide)).ext e48), (Nat.le_trans hpb0 ((Nat.le_trans (Nat.le_trans (Nat.le_trans (Nat.le_trans e21.size e26.size) uo31.size) u37.by_.size) e48.size))), ((((hoa.ext (e21.trans e26)).updOT ow33 (by decide) uo31).updT hb35 (by decide) u37).ext e48)⟩ (show 64 - (j + 1) < 64 - j by omega) rfl ⟨rfl, rfl, rfl, rfl, rfl, rfl, trivial⟩
      ·
        refine cw_region ?_
        refine wl_move rfl rfl (by decide) ?_
        refine wl_move rfl rfl (by decide) ?_
        refine wl_call rfl rfl (vs := [.slice QA qn qc, .slice A4 n4 c4]) (by kernel_rfl) (by decide) (rx_Cmp hq.wi (by omega) hoa.wi (by omega)) ?_
        rintro _ v51 ⟨xr53, rfl, r53, e52⟩
        refine ret_intro ?_
        have hw2 : Ext w v51 := hw1.trans e52
        obtain rfl := r53
        refine wl_cmp rfl rfl rfl false (cmp3_leF (by omega)) (by decide) ?_
        refine wl_nil ?_
        refine eo_then ?_
        refine cw_false rfl ?_
        refine cw_exit ?_
        refine eo_thenX ?_
        refine eo_loopX ?_
        refine eo_block_here ?_
        refine eo_then ?_
        refine cw_seq ?_
        refine cw_region ?_
        refine wl_move rfl rfl (by decide) ?_
        refine wl_move rfl rfl (by decide) ?_
        refine wl_move rfl rfl (by decide) ?_
        refine wl_pure rfl rfl (v := .pointer (some ⟨g11, 0, none⟩)) (by decide) (by kernel_rfl) ?_
        refine wl_pure rfl rfl (v := .pointer (some ⟨g11, 3, none⟩)) (by decide) (by kernel_rfl) ?_
        refine wl_load rfl rfl (load_cell (fun _ => by kernel_rfl) (b_g.ext e52) rfl) (by decide) ?_
        refine wl_pure rfl rfl (v := .int .i64 ((j : Nat) : Int)) (by decide) (by kernel_rfl) ?_
        refine wl_ar rfl rfl rfl (((j : Nat) : Int) - 1) (ar_i64s rfl (by omega) (by omega)) (by decide) ?_
        refine wl_call rfl rfl (vs := [.pointer (some ⟨g11, 0, none⟩), .slice A4 n4 c4, .int .i64 (((j : Nat) : Int) - 1), .int .i64 0]) (by kernel_rfl) (by decide) (rx_halves (j) (lb := v5.heap.size) (bs := []) rfl (hS.ext hw2) (Nat.lt_of_lt_of_le (World.block_lt_of_cell? w _ (hS 0 (by decide))) hle0) hbl hbu (b_g.ext e52) (Own.nil _ _ _ _) hgl (Nat.le_trans hpb0 (e52.size)) (hoa.ext e52).wi (by omega) rfl p9 (by decide) hlen0 ((hPw.ext e52).mono (Nat.zero_le _)) (Nat.le_refl _) (by omega)) ?_
        rintro _ v54 ⟨rfl, A55, n56, c57, hb58, ho59, uw60, kp61⟩
        refine ret_intro ?_
        have hw3 : Ext w v54 := uw60.ext hw2 hle0
        refine wl_nil ?_
        refine eo_then ?_
        refine cw_seq ?_
        refine cw_region ?_
        refine wl_move rfl rfl (by decide) ?_
        refine wl_pure rfl rfl (v := .pointer (some ⟨g11, 0, none⟩)) (by decide) (by kernel_rfl) ?_
        refine wl_pure rfl rfl (v := .pointer (some ⟨g11, 4, none⟩)) (by decide) (by kernel_rfl) ?_
        refine wl_load rfl rfl (load_cell (fun _ => by kernel_rfl) hb58 rfl) (by decide) ?_
        refine wl_toStr rfl rfl ho59 (by decide) ?_
        refine wl_assign rfl rfl (by decide) ?_
        refine wl_assign rfl rfl (by decide) ?_
        refine wl_nil ?_
        refine eo_then ?_
        refine cw_ret ?_
        refine eo_ret [.string (strB ([] ++ txt (padTo (db base m) 0))), .int .i64 0] rfl ⟨rfl, rfl, trivial⟩ ?_
        have hstr : ([] ++ txt (padTo (db base m) 0) : List Nat) = txtN base m := by rw [List.nil_append, padTo_of (Nat.zero_le _), txtN, if_neg hm0]
        exact ⟨_, rfl, ⟨_, _, rfl, (show Value.string _ = Value.string _ from congrArg (fun l => Value.string (strB l)) hstr), rfl⟩, hw3⟩
    ·
      refine cw_region ?_
      refine wl_move rfl rfl (by decide) ?_
      refine wl_pure rfl rfl (v := .int .i64 ((n4 : Nat) : Int)) (by decide) (by kernel_rfl) ?_
      refine wl_cmp rfl rfl rfl false (cb_gt_f (a := n4) (b := 12) rfl rfl (by omega)) (by decide) ?_
      refine wl_nil ?_
      refine eo_then ?_
      refine cw_false rfl ?_
      refine cw_skip ?_
      refine eo_then ?_
      refine cw_seq ?_
      refine cw_region ?_
      refine wl_move rfl rfl (by decide) ?_
      refine wl_move rfl rfl (by decide) ?_
      refine wl_move rfl rfl (by decide) ?_
      refine wl_pure rfl rfl (v := .pointer (some ⟨g11, 0, none⟩)) (by decide) (by kernel_rfl) ?_
      refine wl_pure rfl rfl (v := .pointer (some ⟨g11, 3, none⟩)) (by decide) (by kernel_rfl) ?_
      refine wl_load rfl rfl (load_cell (fun _ => by kernel_rfl) hb14 rfl) (by decide) ?_
      refine wl_pure rfl rfl (v := .int .i64 0) (by decide) (by kernel_rfl) ?_
      refine wl_ar rfl rfl rfl (((0 : Nat) : Int) - 1) (ar_i64s rfl (by omega) (by omega)) (by decide) ?_
      refine wl_call rfl rfl (vs := [.pointer (some ⟨g11, 0, none⟩), .slice A4 n4 c4, .int .i64 (((0 : Nat) : Int) - 1), .int .i64 0]) (by kernel_rfl) (by decide) (rx_halves 0 (lb := v5.heap.size) (bs := []) rfl (hS.ext hw3) (Nat.lt_of_lt_of_le (World.block_lt_of_cell? w _ (hS 0 (by decide))) hle0) hbl hbu hb14 (Own.nil _ _ _ _) hgl (e13.size) (o4.ext (e6.trans e13)).wi (by omega) rfl p9 (by decide) hlen0 (Pw.nil _ _ _) (Nat.le_refl _) (by omega)) ?_
      rintro _ v62 ⟨rfl, A63, n64, c65, hb66, ho67, uw68, kp69⟩
      refine ret_intro ?_
      have hw4 : Ext w v62 := uw68.ext hw3 hle0
      refine wl_nil ?_
      refine eo_then ?_
      refine cw_seq ?_
      refine cw_region ?_
      refine wl_move rfl rfl (by decide) ?_
      refine wl_pure rfl rfl (v := .pointer (some ⟨g11, 0, none⟩)) (by decide) (by kernel_rfl) ?_
      refine wl_pure rfl rfl (v := .pointer (some ⟨g11, 4, none⟩)) (by decide) (by kernel_rfl) ?_
      refine wl_load rfl rfl (load_cell (fun _ => by kernel_rfl) hb66 rfl) (by decide) ?_
      refine wl_toStr rfl rfl ho67 (by decide) ?_
      refine wl_assign rfl rfl (by decide) ?_
      refine wl_assign rfl rfl (by decide) ?_
      refine wl_nil ?_
      refine eo_then ?_
      refine cw_ret ?_
      refine eo_ret [.string (strB ([] ++ txt (padTo (db base m) 0))), .int .i64 0] rfl ⟨rfl, rfl, trivial⟩ ?_
      have hstr : ([] ++ txt (padTo (db base m) 0) : List Nat) = txtN base m := by rw [List.nil_append, padTo_of (Nat.zero_le _), txtN, if_neg hm0]
      exact ⟨_, rfl, ⟨_, _, rfl, (show Value.string _ = Value.string _ from congrArg (fun l => Value.string (strB l)) hstr), rfl⟩, hw4⟩
end Go.Proofs.YtmjdmjflgiicaaaDoor

namespace Go.Proofs.YtmjdmjflgiicaaaDoor
open Go.RowKit
theorem Rune.eq {bs : List Nat} {p r z : Nat} (h : Rune bs p r z) (hr : r < 128) : z = 1 ∧ r = bs.getD p 0 := by
  by_cases h1 : bs.getD p 0 < 128
  · exact ⟨(h.low h1).2, (h.low h1).1⟩
  · have := h.high (by omega); omega
set_option maxHeartbeats 4000000 in
theorem rx_DecF {w : World} {A : Option Addr} {an ac m : Nat} (hS : Signs w) (hx : Wi w A an ac m) (hal : an ≤ 4194304) :
    Calls Tryd.prog 42 #[.slice A an ac] w (Gv w (Is (.string (strB (txtN 10 m))))) := by
  refine sx_enter Tryd.func42 rfl (n := 11) rfl (Nat.le_of_ble_eq_true rfl) (args := [.slice A an ac]) ?_
  refine cw_keep [(0, .slice A an ac)] ⟨rfl, trivial⟩ ?_
  refine cw_seq ?_
  refine cw_region ?_
  refine wl_assign rfl rfl (by decide) ?_
  refine wl_nil ?_
  refine eo_then ?_
  refine cw_seq ?_
  refine cw_region ?_
  refine wl_move rfl rfl (by decide) ?_
  refine wl_call rfl rfl (vs := [.slice A an ac, .int .i64 10]) (by kernel_rfl) (by decide) (rx_Text (base := 10) (hS.ext (Ext.refl w)) hx (by omega) (by decide) (by decide)) ?_
  rintro _ v1 ⟨xr3, rfl, r3, e2⟩
  refine ret_intro ?_
  have hw1 : Ext w v1 := (Ext.refl w).trans e2
  obtain ⟨a4_0, a4_1, rfl, r4_0, r4_1⟩ := r3
  obtain rfl := r4_0
  obtain rfl := r4_1
  refine wl_move rfl rfl (by decide) ?_
  refine wl_pure rfl rfl (v := .string (strB (txtN 10 m))) (by decide) (by kernel_rfl) ?_
  refine wl_pure rfl rfl (v := .int .i64 0) (by decide) (by kernel_rfl) ?_
  refine wl_assign rfl rfl (by decide) ?_
  refine wl_assign rfl rfl (by decide) ?_
  refine wl_nil ?_
  refine eo_then ?_
  refine cw_seq ?_
  refine cw_region ?_
  refine wl_move rfl rfl (by decide) ?_
  refine wl_assign rfl rfl (by decide) ?_
  refine wl_nil ?_
  refine eo_then ?_
  refine cw_ret ?_
  refine eo_ret [.string (strB (txtN 10 m))] rfl ⟨rfl, trivial⟩ ?_
  exact ⟨_, rfl, rfl, hw1⟩
set_option maxHeartbeats 4000000 in
theorem rx_Digits {w : World} {A : Option Addr} {an ac m : Nat} (hS : Signs w) (hx : Wi w A an ac m) (hal : an ≤ 4194304) :
    Calls Tryd.prog 40 #[.slice A an ac] w (Gv w (Is (.int .i64 (((txtN 10 m).length : Nat) : Int)))) := by
  refine sx_enter Tryd.func40 rfl (n := 6) rfl (Nat.le_of_ble_eq_true rfl) (args := [.slice A an ac]) ?_
  refine cw_keep [(0, .slice A an ac)] ⟨rfl, trivial⟩ ?_
  refine cw_seq ?_
  refine cw_region ?_
  refine wl_assign rfl rfl (by decide) ?_
  refine wl_nil ?_
  refine eo_then ?_
  refine cw_seq ?_
  refine cw_region ?_
  refine wl_move rfl rfl (by decide) ?_
  refine wl_call rfl rfl (vs := [.slice A an ac]) (by kernel_rfl) (by decide) (rx_DecF (hS.ext (Ext.refl w)) hx (by omega)) ?_
  rintro _ v1 ⟨xr3, rfl, r3, e2⟩
  refine ret_intro ?_
  have hw1 : Ext w v1 := (Ext.refl w).trans e2
  obtain rfl := r3
  refine wl_pureE rfl rfl (v := .int .i64 (((strB (txtN 10 m)).size : Nat) : Int)) (v' := .int .i64 (((txtN 10 m).length : Nat) : Int)) (by decide) (by kernel_rfl) (by rw [strB_size]) ?_
  refine wl_assign rfl rfl (by decide) ?_
  refine wl_nil ?_
  refine eo_then ?_
  refine cw_ret ?_
  refine eo_ret [.int .i64 (((txtN 10 m).length : Nat) : Int)] rfl ⟨rfl, trivial⟩ ?_
  exact ⟨_, rfl, rfl, hw1⟩
end Go.Proofs.YtmjdmjflgiicaaaDoor

namespace Go.Proofs.YtmjdmjflgiicaaaDoor
theorem db_push {b v d : Nat} (hb : 2 ≤ b) (hd : d < b) (h : v * b + d ≠ 0) : db b (v * b + d) = d :: db b v := by
  rw [db_pos hb h]
  have e1 : (v * b + d) % b = d := by rw [Nat.add_comm, Nat.add_mul_mod_self_right, Nat.mod_eq_of_lt hd]
  have e2 : (v * b + d) / b = v := by rw [Nat.add_comm, Nat.add_mul_div_right _ _ (by omega), Nat.div_eq_of_lt hd, Nat.zero_add]
  rw [e1, e2]
theorem txtN_more {v d : Nat} (hd : d < 10) : (txtN 10 (v * 10 + d)).length = (txtN 10 v).length + if v = 0 then 0 else 1 := by
  unfold txtN
  by_cases h : v * 10 + d = 0
  · have h1 : v = 0 := by omega
    rw [if_pos h, if_pos h1, if_pos h1]; rfl
  · rw [if_neg h, txt_len, db_push (by decide) hd h]
    by_cases h1 : v = 0
    · rw [if_pos h1, if_pos h1, h1]; rfl
    · rw [if_neg h1, if_neg h1, txt_len]; rfl
end Go.Proofs.YtmjdmjflgiicaaaDoor

namespace Go.Proofs.YtmjdmjflgiicaaaDoor
open Go.RowKit
theorem strE_eql_t {a b : List Nat} (h : a = b) : strE .eql a b = some true := by simp [strE, h]
theorem strE_neq_t {a b : List Nat} (h : a = b) : strE .neq a b = some false := by simp [strE, h]
theorem strE_neq_f {a b : List Nat} (h : a ≠ b) : strE .neq a b = some true := by simp [strE, h]
theorem a8_sub {A B : Int} {a b : Nat} (ha : A = (a : Int)) (hb : B = (b : Int)) (h : b ≤ a) (h2 : a ≤ 255) : arB .sub .u8 A B = some ((a - b : Nat) : Int) := by
  subst ha hb; simp only [arB, Option.some.injEq]; rw [show (a : Int) - (b : Int) = ((a - b : Nat) : Int) by omega, IntWalk.u8_in _ ⟨by omega, by omega⟩]
theorem g_same4 {w : World} {b b' : Nat} {A B : Option Addr} {n c m d k : Nat} (hx : Own w b 48 1 A n c ((wd k).map W64)) (hl : n ≤ 1099511627776) (hy : Own w b' 48 1 B m d ((wd k).map W64)) (hl' : m ≤ 1099511627776) :
    Calls Tryd.prog 37 #[.slice A n c, .slice B m d] w (Gv w (Is (.bool true))) := by
  have h := ref1_Same (hx.rd (Wf_wd _)) hl (hy.rd (Wf_wd _)) hl'
  rw [decide_eq_true rfl] at h
  exact h.mono gbool
set_option maxHeartbeats 4000000 in
theorem g_law4_awake {w : World} (hS : Signs w) :
    Calls Tryd.prog 33 #[] w (Gv w (Is (.bool true))) := by
  refine sx_enter Tryd.func33 rfl (n := 14) rfl (Nat.le_of_ble_eq_true rfl) (args := []) ?_
  refine cw_keep [] trivial ?_
  refine cw_seq ?_
  refine cw_region ?_
  refine wl_assign rfl rfl (by decide) ?_
  refine wl_nil ?_
  refine eo_then ?_
  refine cw_seq ?_
  refine cw_region ?_
  refine wl_bslice rfl rfl (by decide) (k := 1) (e := 48) [.int .u64 255] (fun _ => by kernel_rfl) fun g1 v2 nb3 => ?_
  have o4 := O1.mk_ (x := 255) (b := w.heap.size) nb3 (Ext.refl w).size
  have e5 := nb3.ext
  have hw1 : Ext w v2 := (Ext.refl w).trans e5
  have o7 := own1_wd o4 (by decide : 255 ≤ 18446744073709551615) (by decide : 255 ≠ 0)
  have j6 := len1 (by decide : 255 ≤ 18446744073709551615) (by decide : 255 ≠ 0)
  refine wl_call rfl rfl (vs := [.slice (some ⟨g1, 0, none⟩) 1 1, .int .i64 16]) (by kernel_rfl) (by decide) (rx_Text (base := 16) (hS.ext hw1) o7.wi (by decide) (by decide) (by decide)) ?_
  rintro _ v8 ⟨xr10, rfl, r10, e9⟩
  refine ret_intro ?_
  have hw2 : Ext w v8 := hw1.trans e9
  obtain ⟨a11_0, a11_1, rfl, r11_0, r11_1⟩ := r10
  obtain rfl := r11_0
  obtain rfl := r11_1
  refine wl_move rfl rfl (by decide) ?_
  refine wl_pure rfl rfl (v := .string (strB (txtN 16 255))) (by decide) (by kernel_rfl) ?_
  refine wl_pure rfl rfl (v := .int .i64 0) (by decide) (by kernel_rfl) ?_
  refine wl_assign rfl rfl (by decide) ?_
  refine wl_assign rfl rfl (by decide) ?_
  refine wl_nil ?_
  refine eo_then ?_
  refine cw_seq ?_
  refine cw_region ?_
  refine wl_move rfl rfl (by decide) ?_
  refine wl_streq (a := txtN 16 255) (b := [102, 102]) rfl rfl rfl (by decide +kernel) (by decide) true (strE_eql_t (by decide +kernel)) (by decide) ?_
  refine wl_move rfl rfl (by decide) ?_
  refine wl_move rfl rfl (by decide) ?_
  refine wl_cmp rfl rfl rfl true (by decide) (by decide) ?_
  refine wl_pure rfl rfl (v := .bool true) (by decide) (by kernel_rfl) ?_
  refine wl_assign rfl rfl (by decide) ?_
  refine wl_nil ?_
  refine eo_then ?_
  refine cw_ret ?_
  refine eo_ret [.bool true] rfl ⟨rfl, trivial⟩ ?_
  exact ⟨_, rfl, rfl, hw2⟩
set_option maxHeartbeats 4000000 in
theorem rx_Read_badb {w : World} {bs : List Nat} {b : Int} (hbad : b < 2 ∨ 36 < b) :
    Calls Tryd.prog 34 #[.string (strB bs), .int .i64 b] w (Gv w (T2 (Is (.slice none 0 0)) (Is (.int .i64 3)))) := by
  refine sx_enter Tryd.func34 rfl (n := 41) rfl (Nat.le_of_ble_eq_true rfl) (args := [.string (strB bs), .int .i64 b]) ?_
  refine cw_keep [(0, .string (strB bs)), (1, .int .i64 b)] ⟨rfl, rfl, trivial⟩ ?_
  refine cw_seq ?_
  refine cw_region ?_
  refine wl_assign rfl rfl (by decide) ?_
  refine wl_assign rfl rfl (by decide) ?_
  refine wl_nil ?_
  refine eo_then ?_
  refine cw_seq ?_
  refine cw_seq ?_
  rcases hbad with hbad | hbad
  ·
    refine cw_region ?_
    refine wl_move rfl rfl (by decide) ?_
    refine wl_cmp rfl rfl rfl true (lt_t hbad) (by decide) ?_
    refine wl_move rfl rfl (by decide) ?_
    refine wl_off rfl (by decide) ?_
    refine wl_off rfl (by decide) ?_
    refine wl_pure rfl rfl (v := .bool true) (by decide) (by kernel_rfl) ?_
    refine wl_nil ?_
    refine eo_then ?_
    refine cw_true rfl ?_
    refine cw_seq ?_
    refine cw_region ?_
    refine wl_assign rfl rfl (by decide) ?_
    refine wl_assign rfl rfl (by decide) ?_
    refine wl_nil ?_
    refine eo_then ?_
    refine cw_ret ?_
    refine eo_thenR ?_
    refine eo_ret [.slice none 0 0, .int .i64 3] rfl ⟨rfl, rfl, trivial⟩ ?_
    exact ⟨_, rfl, ⟨_, _, rfl, rfl, rfl⟩, (Ext.refl w)⟩
  ·
    refine cw_region ?_
    refine wl_move rfl rfl (by decide) ?_
    refine wl_cmp rfl rfl rfl false (lt_f (by omega)) (by decide) ?_
    refine wl_move rfl rfl (by decide) ?_
    refine wl_move rfl rfl (by decide) ?_
    refine wl_cmp rfl rfl rfl true (gt_t hbad) (by decide) ?_
    refine wl_pure rfl rfl (v := .bool true) (by decide) (by kernel_rfl) ?_
    refine wl_nil ?_
    refine eo_then ?_
    refine cw_true rfl ?_
    refine cw_seq ?_
    refine cw_region ?_
    refine wl_assign rfl rfl (by decide) ?_
    refine wl_assign rfl rfl (by decide) ?_
    refine wl_nil ?_
    refine eo_then ?_
    refine cw_ret ?_
    refine eo_thenR ?_
    refine eo_ret [.slice none 0 0, .int .i64 3] rfl ⟨rfl, rfl, trivial⟩ ?_
    exact ⟨_, rfl, ⟨_, _, rfl, rfl, rfl⟩, (Ext.refl w)⟩
end Go.Proofs.YtmjdmjflgiicaaaDoor

namespace Go.Proofs.YtmjdmjflgiicaaaDoor
open Go.RowKit
/-- what the law's sign says -/
def sgv (c : Nat) : Int := if dv c < 36 then (dv c : Int) else -1
set_option maxHeartbeats 4000000 in
theorem g_law4_sign {w : World} {c : Nat} {b : Int} (hc : c ≤ 255) :
    Calls Tryd.prog 35 #[.int .u8 ((c : Nat) : Int), .int .i64 b] w (Gv w (T2 (Is (.int .i64 (sgv c))) (Is (.bool (decide (0 ≤ sgv c ∧ sgv c < b)))))) := by
  refine sx_enter Tryd.func35 rfl (n := 47) rfl (Nat.le_of_ble_eq_true rfl) (args := [.int .u8 ((c : Nat) : Int), .int .i64 b]) ?_
  refine cw_keep [(0, .int .u8 ((c : Nat) : Int)), (1, .int .i64 b)] ⟨rfl, rfl, trivial⟩ ?_
  refine cw_seq ?_
  refine cw_region ?_
  refine wl_assign rfl rfl (by decide) ?_
  refine wl_assign rfl rfl (by decide) ?_
  refine wl_nil ?_
  refine eo_then ?_
  refine cw_seq ?_
  refine cw_region ?_
  refine wl_assign rfl rfl (by decide) ?_
  refine wl_nil ?_
  refine eo_then ?_
  refine cw_seq ?_
  refine cw_block ?_
  refine cw_seq ?_
  by_cases ha48 : c ≥ 48
  ·
    by_cases hb57 : c ≤ 57
    ·
      refine cw_region ?_
      refine wl_move rfl rfl (by decide) ?_
      refine wl_cmp rfl rfl rfl true (cb_ge_t (a := c) (b := 48) rfl rfl (by omega)) (by decide) ?_
      refine wl_move rfl rfl (by decide) ?_
      refine wl_move rfl rfl (by decide) ?_
      refine wl_cmp rfl rfl rfl true (cb_le_t (a := c) (b := 57) rfl rfl (by omega)) (by decide) ?_
      refine wl_pure rfl rfl (v := .bool true) (by decide) (by kernel_rfl) ?_
      refine wl_assign rfl rfl (by decide) ?_
      refine wl_nil ?_
      refine eo_then ?_
      refine cw_true rfl ?_
      refine cw_region ?_
      refine wl_move rfl rfl (by decide) ?_
      refine wl_ar rfl rfl rfl ((c - 48 : Nat) : Int) (a8_sub (a := c) (b := 48) rfl rfl (by omega) (by omega)) (by decide) ?_
      refine wl_pureE rfl rfl (v := .int .i64 (IntKind.i64.wrap ((c - 48 : Nat) : Int))) (v' := .int .i64 ((c - 48 : Nat) : Int)) (by decide) (by kernel_rfl) (cv_i64 (by first | omega | exact hle64)) ?_
      refine wl_assign rfl rfl (by decide) ?_
      refine wl_nil ?_
      refine eo_block_normal ?_
      refine eo_then ?_
      refine cw_seq ?_
      have hv : sgv c = ((c - 48 : Nat) : Int) := by unfold sgv dv; (repeat' split) <;> omega
      by_cases hvb : sgv c < b
      ·
        refine cw_region ?_
        refine wl_move rfl rfl (by decide) ?_
        refine wl_move rfl rfl (by decide) ?_
        refine wl_cmp rfl rfl rfl true (cb_ge_t (a := c - 48) (b := 0) rfl rfl (by omega)) (by decide) ?_
        refine wl_move rfl rfl (by decide) ?_
        refine wl_move rfl rfl (by decide) ?_
        refine wl_move rfl rfl (by decide) ?_
        refine wl_cmp rfl rfl rfl true (lt_t (by omega)) (by decide) ?_
        refine wl_pure rfl rfl (v := .bool true) (by decide) (by kernel_rfl) ?_
        refine wl_assign rfl rfl (by decide) ?_
        refine wl_assign rfl rfl (by decide) ?_
        refine wl_nil ?_
        refine eo_then ?_
        refine cw_ret ?_
        refine eo_ret [.int .i64 ((c - 48 : Nat) : Int), .bool true] rfl ⟨rfl, rfl, trivial⟩ ?_
        exact ⟨_, rfl, ⟨_, _, rfl, (show Value.int .i64 (((c - 48 : Nat) : Int)) = _ by rw [hv]), (show Value.bool true = _ by rw [decide_eq_true (by omega)])⟩, (Ext.refl w)⟩
      ·
        refine cw_region ?_
        refine wl_move rfl rfl (by decide) ?_
        refine wl_move rfl rfl (by decide) ?_
        refine wl_cmp rfl rfl rfl true (cb_ge_t (a := c - 48) (b := 0) rfl rfl (by omega)) (by decide) ?_
        refine wl_move rfl rfl (by decide) ?_
        refine wl_move rfl rfl (by decide) ?_
        refine wl_move rfl rfl (by decide) ?_
        refine wl_cmp rfl rfl rfl false (lt_f (by omega)) (by decide) ?_
        refine wl_pure rfl rfl (v := .bool false) (by decide) (by kernel_rfl) ?_
        refine wl_assign rfl rfl (by decide) ?_
        refine wl_assign rfl rfl (by decide) ?_
        refine wl_nil ?_
        refine eo_then ?_
        refine cw_ret ?_
        refine eo_ret [.int .i64 ((c - 48 : Nat) : Int), .bool false] rfl ⟨rfl, rfl, trivial⟩ ?_
        exact ⟨_, rfl, ⟨_, _, rfl, (show Value.int .i64 (((c - 48 : Nat) : Int)) = _ by rw [hv]), (show Value.bool false = _ by rw [decide_eq_false (by omega)])⟩, (Ext.refl w)⟩
    ·
      refine cw_region ?_
      refine wl_move rfl rfl (by decide) ?_
      refine wl_cmp rfl rfl rfl true (cb_ge_t (a := c) (b := 48) rfl rfl (by omega)) (by decide) ?_
      refine wl_move rfl rfl (by decide) ?_
      refine wl_move rfl rfl (by decide) ?_
      refine wl_cmp rfl rfl rfl false (cb_le_f (a := c) (b := 57) rfl rfl (by omega)) (by decide) ?_
      refine wl_pure rfl rfl (v := .bool false) (by decide) (by kernel_rfl) ?_
      refine wl_assign rfl rfl (by decide) ?_
      refine wl_nil ?_
      refine eo_then ?_
      refine cw_false rfl ?_
      refine cw_seq ?_
      by_cases ha97 : c ≥ 97
      ·
        by_cases hb122 : c ≤ 122
        ·
          refine cw_region ?_
          refine wl_move rfl rfl (by decide) ?_
          refine wl_cmp rfl rfl rfl true (cb_ge_t (a := c) (b := 97) rfl rfl (by omega)) (by decide) ?_
          refine wl_move rfl rfl (by decide) ?_
          refine wl_move rfl rfl (by decide) ?_
          refine wl_cmp rfl rfl rfl true (cb_le_t (a := c) (b := 122) rfl rfl (by omega)) (by decide) ?_
          refine wl_pure rfl rfl (v := .bool true) (by decide) (by kernel_rfl) ?_
          refine wl_assign rfl rfl (by decide) ?_
          refine wl_nil ?_
          refine eo_then ?_
          refine cw_true rfl ?_
          refine cw_region ?_
          refine wl_move rfl rfl (by decide) ?_
          refine wl_ar rfl rfl rfl ((c - 97 : Nat) : Int) (a8_sub (a := c) (b := 97) rfl rfl (by omega) (by omega)) (by decide) ?_
          refine wl_pureE rfl rfl (v := .int .i64 (IntKind.i64.wrap ((c - 97 : Nat) : Int))) (v' := .int .i64 ((c - 97 : Nat) : Int)) (by decide) (by kernel_rfl) (cv_i64 (by first | omega | exact hle64)) ?_
          refine wl_ar rfl rfl rfl (((c - 97) + 10 : Nat) : Int) (ai_add (a := c - 97) (b := 10) rfl rfl (by omega)) (by decide) ?_
          refine wl_assign rfl rfl (by decide) ?_
          refine wl_nil ?_
          refine eo_block_normal ?_
          refine eo_then ?_
          refine cw_seq ?_
          have hv : sgv c = (((c - 97) + 10 : Nat) : Int) := by unfold sgv dv; (repeat' split) <;> omega
          by_cases hvb : sgv c < b
          ·
            refine cw_region ?_
            refine wl_move rfl rfl (by decide) ?_
            refine wl_move rfl rfl (by decide) ?_
            refine wl_cmp rfl rfl rfl true (cb_ge_t (a := (c - 97) + 10) (b := 0) rfl rfl (by omega)) (by decide) ?_
            refine wl_move rfl rfl (by decide) ?_
            refine wl_move rfl rfl (by decide) ?_
            refine wl_move rfl rfl (by decide) ?_
            refine wl_cmp rfl rfl rfl true (lt_t (by omega)) (by decide) ?_
            refine wl_pure rfl rfl (v := .bool true) (by decide) (by kernel_rfl) ?_
            refine wl_assign rfl rfl (by decide) ?_
            refine wl_assign rfl rfl (by decide) ?_
            refine wl_nil ?_
            refine eo_then ?_
            refine cw_ret ?_
            refine eo_ret [.int .i64 (((c - 97) + 10 : Nat) : Int), .bool true] rfl ⟨rfl, rfl, trivial⟩ ?_
            exact ⟨_, rfl, ⟨_, _, rfl, (show Value.int .i64 ((((c - 97) + 10 : Nat) : Int)) = _ by rw [hv]), (show Value.bool true = _ by rw [decide_eq_true (by omega)])⟩, (Ext.refl w)⟩
          ·
            refine cw_region ?_
            refine wl_move rfl rfl (by decide) ?_
            refine wl_move rfl rfl (by decide) ?_
            refine wl_cmp rfl rfl rfl true (cb_ge_t (a := (c - 97) + 10) (b := 0) rfl rfl (by omega)) (by decide) ?_
            refine wl_move rfl rfl (by decide) ?_
            refine wl_move rfl rfl (by decide) ?_
            refine wl_move rfl rfl (by decide) ?_
            refine wl_cmp rfl rfl rfl false (lt_f (by omega)) (by decide) ?_
            refine wl_pure rfl rfl (v := .bool false) (by decide) (by kernel_rfl) ?_
            refine wl_assign rfl rfl (by decide) ?_
            refine wl_assign rfl rfl (by decide) ?_
            refine wl_nil ?_
            refine eo_then ?_
            refine cw_ret ?_
            refine eo_ret [.int .i64 (((c - 97) + 10 : Nat) : Int), .bool false] rfl ⟨rfl, rfl, trivial⟩ ?_
            exact ⟨_, rfl, ⟨_, _, rfl, (show Value.int .i64 ((((c - 97) + 10 : Nat) : Int)) = _ by rw [hv]), (show Value.bool false = _ by rw [decide_eq_false (by omega)])⟩, (Ext.refl w)⟩
        ·
          refine cw_region ?_
          refine wl_move rfl rfl (by decide) ?_
          refine wl_cmp rfl rfl rfl true (cb_ge_t (a := c) (b := 97) rfl rfl (by omega)) (by decide) ?_
          refine wl_move rfl rfl (by decide) ?_
          refine wl_move rfl rfl (by decide) ?_
          refine wl_cmp rfl rfl rfl false (cb_le_f (a := c) (b := 122) rfl rfl (by omega)) (by decide) ?_
          refine wl_pure rfl rfl (v := .bool false) (by decide) (by kernel_rfl) ?_
          refine wl_assign rfl rfl (by decide) ?_
          refine wl_nil ?_
          refine eo_then ?_
          refine cw_false rfl ?_
          refine cw_seq ?_
          by_cases ha65 : c ≥ 65
          ·
            by_cases hb90 : c ≤ 90
            ·
              refine cw_region ?_
              refine wl_move rfl rfl (by decide) ?_
              refine wl_cmp rfl rfl rfl true (cb_ge_t (a := c) (b := 65) rfl rfl (by omega)) (by decide) ?_
              refine wl_move rfl rfl (by decide) ?_
              refine wl_move rfl rfl (by decide) ?_
              refine wl_cmp rfl rfl rfl true (cb_le_t (a := c) (b := 90) rfl rfl (by omega)) (by decide) ?_
              refine wl_pure rfl rfl (v := .bool true) (by decide) (by kernel_rfl) ?_
              refine wl_assign rfl rfl (by decide) ?_
              refine wl_nil ?_
              refine eo_then ?_
              refine cw_true rfl ?_
              refine cw_region ?_
              refine wl_move rfl rfl (by decide) ?_
              refine wl_ar rfl rfl rfl ((c - 65 : Nat) : Int) (a8_sub (a := c) (b := 65) rfl rfl (by omega) (by omega)) (by decide) ?_
              refine wl_pureE rfl rfl (v := .int .i64 (IntKind.i64.wrap ((c - 65 : Nat) : Int))) (v' := .int .i64 ((c - 65 : Nat) : Int)) (by decide) (by kernel_rfl) (cv_i64 (by first | omega | exact hle64)) ?_
              refine wl_ar rfl rfl rfl (((c - 65) + 10 : Nat) : Int) (ai_add (a := c - 65) (b := 10) rfl rfl (by omega)) (by decide) ?_
              refine wl_assign rfl rfl (by decide) ?_
              refine wl_nil ?_
              refine eo_block_normal ?_
              refine eo_then ?_
              refine cw_seq ?_
              have hv : sgv c = (((c - 65) + 10 : Nat) : Int) := by unfold sgv dv; (repeat' split) <;> omega
              by_cases hvb : sgv c < b
              ·
                refine cw_region ?_
                refine wl_move rfl rfl (by decide) ?_
                refine wl_move rfl rfl (by decide) ?_
                refine wl_cmp rfl rfl rfl true (cb_ge_t (a := (c - 65) + 10) (b := 0) rfl rfl (by omega)) (by decide) ?_
                refine wl_move rfl rfl (by decide) ?_
                refine wl_move rfl rfl (by decide) ?_
                refine wl_move rfl rfl (by decide) ?_
                refine wl_cmp rfl rfl rfl true (lt_t (by omega)) (by decide) ?_
                refine wl_pure rfl rfl (v := .bool true) (by decide) (by kernel_rfl) ?_
                refine wl_assign rfl rfl (by decide) ?_
                refine wl_assign rfl rfl (by decide) ?_
                refine wl_nil ?_
                refine eo_then ?_
                refine cw_ret ?_
                refine eo_ret [.int .i64 (((c - 65) + 10 : Nat) : Int), .bool true] rfl ⟨rfl, rfl, trivial⟩ ?_
                exact ⟨_, rfl, ⟨_, _, rfl, (show Value.int .i64 ((((c - 65) + 10 : Nat) : Int)) = _ by rw [hv]), (show Value.bool true = _ by rw [decide_eq_true (by omega)])⟩, (Ext.refl w)⟩
              ·
                refine cw_region ?_
                refine wl_move rfl rfl (by decide) ?_
                refine wl_move rfl rfl (by decide) ?_
                refine wl_cmp rfl rfl rfl true (cb_ge_t (a := (c - 65) + 10) (b := 0) rfl rfl (by omega)) (by decide) ?_
                refine wl_move rfl rfl (by decide) ?_
                refine wl_move rfl rfl (by decide) ?_
                refine wl_move rfl rfl (by decide) ?_
                refine wl_cmp rfl rfl rfl false (lt_f (by omega)) (by decide) ?_
                refine wl_pure rfl rfl (v := .bool false) (by decide) (by kernel_rfl) ?_
                refine wl_assign rfl rfl (by decide) ?_
                refine wl_assign rfl rfl (by decide) ?_
                refine wl_nil ?_
                refine eo_then ?_
                refine cw_ret ?_
                refine eo_ret [.int .i64 (((c - 65) + 10 : Nat) : Int), .bool false] rfl ⟨rfl, rfl, trivial⟩ ?_
                exact ⟨_, rfl, ⟨_, _, rfl, (show Value.int .i64 ((((c - 65) + 10 : Nat) : Int)) = _ by rw [hv]), (show Value.bool false = _ by rw [decide_eq_false (by omega)])⟩, (Ext.refl w)⟩
            ·
              refine cw_region ?_
              refine wl_move rfl rfl (by decide) ?_
              refine wl_cmp rfl rfl rfl true (cb_ge_t (a := c) (b := 65) rfl rfl (by omega)) (by decide) ?_
              refine wl_move rfl rfl (by decide) ?_
              refine wl_move rfl rfl (by decide) ?_
              refine wl_cmp rfl rfl rfl false (cb_le_f (a := c) (b := 90) rfl rfl (by omega)) (by decide) ?_
              refine wl_pure rfl rfl (v := .bool false) (by decide) (by kernel_rfl) ?_
              refine wl_assign rfl rfl (by decide) ?_
              refine wl_nil ?_
              refine eo_then ?_
              refine cw_false rfl ?_
              refine cw_skip ?_
              refine eo_block_normal ?_
              refine eo_then ?_
              refine cw_seq ?_
              have h36 : ¬ dv c < 36 := by unfold dv; (repeat' split) <;> omega
              have hv : sgv c = -1 := by unfold sgv; rw [if_neg h36]
              refine cw_region ?_
              refine wl_move rfl rfl (by decide) ?_
              refine wl_move rfl rfl (by decide) ?_
              refine wl_cmp rfl rfl rfl false (by decide) (by decide) ?_
              refine wl_move rfl rfl (by decide) ?_
              refine wl_off rfl (by decide) ?_
              refine wl_off rfl (by decide) ?_
              refine wl_off rfl (by decide) ?_
              refine wl_pure rfl rfl (v := .bool false) (by decide) (by kernel_rfl) ?_
              refine wl_assign rfl rfl (by decide) ?_
              refine wl_assign rfl rfl (by decide) ?_
              refine wl_nil ?_
              refine eo_then ?_
              refine cw_ret ?_
              refine eo_ret [.int .i64 (-1), .bool false] rfl ⟨rfl, rfl, trivial⟩ ?_
              exact ⟨_, rfl, ⟨_, _, rfl, (show Value.int .i64 (-1) = _ by rw [hv]), (show Value.bool false = _ by rw [decide_eq_false (by omega)])⟩, (Ext.refl w)⟩
          ·
            refine cw_region ?_
            refine wl_move rfl rfl (by decide) ?_
            refine wl_cmp rfl rfl rfl false (cb_ge_f (a := c) (b := 65) rfl rfl (by omega)) (by decide) ?_
            refine wl_move rfl rfl (by decide) ?_
            refine wl_off rfl (by decide) ?_
            refine wl_off rfl (by decide) ?_
            refine wl_pure rfl rfl (v := .bool false) (by decide) (by kernel_rfl) ?_
            refine wl_assign rfl rfl (by decide) ?_
            refine wl_nil ?_
            refine eo_then ?_
            refine cw_false rfl ?_
            refine cw_skip ?_
            refine eo_block_normal ?_
            refine eo_then ?_
            refine cw_seq ?_
            have h36 : ¬ dv c < 36 := by unfold dv; (repeat' split) <;> omega
            have hv : sgv c = -1 := by unfold sgv; rw [if_neg h36]
            refine cw_region ?_
            refine wl_move rfl rfl (by decide) ?_
            refine wl_move rfl rfl (by decide) ?_
            refine wl_cmp rfl rfl rfl false (by decide) (by decide) ?_
            refine wl_move rfl rfl (by decide) ?_
            refine wl_off rfl (by decide) ?_
            refine wl_off rfl (by decide) ?_
            refine wl_off rfl (by decide) ?_
            refine wl_pure rfl rfl (v := .bool false) (by decide) (by kernel_rfl) ?_
            refine wl_assign rfl rfl (by decide) ?_
            refine wl_assign rfl rfl (by decide) ?_
            refine wl_nil ?_
            refine eo_then ?_
            refine cw_ret ?_
            refine eo_ret [.int .i64 (-1), .bool false] rfl ⟨rfl, rfl, trivial⟩ ?_
            exact ⟨_, rfl, ⟨_, _, rfl, (show Value.int .i64 (-1) = _ by rw [hv]), (show Value.bool false = _ by rw [decide_eq_false (by omega)])⟩, (Ext.refl w)⟩
      ·
        refine cw_region ?_
        refine wl_move rfl rfl (by decide) ?_
        refine wl_cmp rfl rfl rfl false (cb_ge_f (a := c) (b := 97) rfl rfl (by omega)) (by decide) ?_
        refine wl_move rfl rfl (by decide) ?_
        refine wl_off rfl (by decide) ?_
        refine wl_off rfl (by decide) ?_
        refine wl_pure rfl rfl (v := .bool false) (by decide) (by kernel_rfl) ?_
        refine wl_assign rfl rfl (by decide) ?_
        refine wl_nil ?_
        refine eo_then ?_
        refine cw_false rfl ?_
        refine cw_seq ?_
        by_cases ha65 : c ≥ 65
        ·
          by_cases hb90 : c ≤ 90
          ·
            refine cw_region ?_
            refine wl_move rfl rfl (by decide) ?_
            refine wl_cmp rfl rfl rfl true (cb_ge_t (a := c) (b := 65) rfl rfl (by omega)) (by decide) ?_
            refine wl_move rfl rfl (by decide) ?_
            refine wl_move rfl rfl (by decide) ?_
            refine wl_cmp rfl rfl rfl true (cb_le_t (a := c) (b := 90) rfl rfl (by omega)) (by decide) ?_
            refine wl_pure rfl rfl (v := .bool true) (by decide) (by kernel_rfl) ?_
            refine wl_assign rfl rfl (by decide) ?_
            refine wl_nil ?_
            refine eo_then ?_
            refine cw_true rfl ?_
            refine cw_region ?_
            refine wl_move rfl rfl (by decide) ?_
            refine wl_ar rfl rfl rfl ((c - 65 : Nat) : Int) (a8_sub (a := c) (b := 65) rfl rfl (by omega) (by omega)) (by decide) ?_
            refine wl_pureE rfl rfl (v := .int .i64 (IntKind.i64.wrap ((c - 65 : Nat) : Int))) (v' := .int .i64 ((c - 65 : Nat) : Int)) (by decide) (by kernel_rfl) (cv_i64 (by first | omega | exact hle64)) ?_
            refine wl_ar rfl rfl rfl (((c - 65) + 10 : Nat) : Int) (ai_add (a := c - 65) (b := 10) rfl rfl (by omega)) (by decide) ?_
            refine wl_assign rfl rfl (by decide) ?_
            refine wl_nil ?_
            refine eo_block_normal ?_
            refine eo_then ?_
            refine cw_seq ?_
            have hv : sgv c = (((c - 65) + 10 : Nat) : Int) := by unfold sgv dv; (repeat' split) <;> omega
            by_cases hvb : sgv c < b
            ·
              refine cw_region ?_
              refine wl_move rfl rfl (by decide) ?_
              refine wl_move rfl rfl (by decide) ?_
              refine wl_cmp rfl rfl rfl true (cb_ge_t (a := (c - 65) + 10) (b := 0) rfl rfl (by omega)) (by decide) ?_
              refine wl_move rfl rfl (by decide) ?_
              refine wl_move rfl rfl (by decide) ?_
              refine wl_move rfl rfl (by decide) ?_
              refine wl_cmp rfl rfl rfl true (lt_t (by omega)) (by decide) ?_
              refine wl_pure rfl rfl (v := .bool true) (by decide) (by kernel_rfl) ?_
              refine wl_assign rfl rfl (by decide) ?_
              refine wl_assign rfl rfl (by decide) ?_
              refine wl_nil ?_
              refine eo_then ?_
              refine cw_ret ?_
              refine eo_ret [.int .i64 (((c - 65) + 10 : Nat) : Int), .bool true] rfl ⟨rfl, rfl, trivial⟩ ?_
              exact ⟨_, rfl, ⟨_, _, rfl, (show Value.int .i64 ((((c - 65) + 10 : Nat) : Int)) = _ by rw [hv]), (show Value.bool true = _ by rw [decide_eq_true (by omega)])⟩, (Ext.refl w)⟩
            ·
              refine cw_region ?_
              refine wl_move rfl rfl (by decide) ?_
              refine wl_move rfl rfl (by decide) ?_
              refine wl_cmp rfl rfl rfl true (cb_ge_t (a := (c - 65) + 10) (b := 0) rfl rfl (by omega)) (by decide) ?_
              refine wl_move rfl rfl (by decide) ?_
              refine wl_move rfl rfl (by decide) ?_
              refine wl_move rfl rfl (by decide) ?_
              refine wl_cmp rfl rfl rfl false (lt_f (by omega)) (by decide) ?_
              refine wl_pure rfl rfl (v := .bool false) (by decide) (by kernel_rfl) ?_
              refine wl_assign rfl rfl (by decide) ?_
              refine wl_assign rfl rfl (by decide) ?_
              refine wl_nil ?_
              refine eo_then ?_
              refine cw_ret ?_
              refine eo_ret [.int .i64 (((c - 65) + 10 : Nat) : Int), .bool false] rfl ⟨rfl, rfl, trivial⟩ ?_
              exact ⟨_, rfl, ⟨_, _, rfl, (show Value.int .i64 ((((c - 65) + 10 : Nat) : Int)) = _ by rw [hv]), (show Value.bool false = _ by rw [decide_eq_false (by omega)])⟩, (Ext.refl w)⟩
          ·
            refine cw_region ?_
            refine wl_move rfl rfl (by decide) ?_
            refine wl_cmp rfl rfl rfl true (cb_ge_t (a := c) (b := 65) rfl rfl (by omega)) (by decide) ?_
            refine wl_move rfl rfl (by decide) ?_
            refine wl_move rfl rfl (by decide) ?_
            refine wl_cmp rfl rfl rfl false (cb_le_f (a := c) (b := 90) rfl rfl (by omega)) (by decide) ?_
            refine wl_pure rfl rfl (v := .bool false) (by decide) (by kernel_rfl) ?_
            refine wl_assign rfl rfl (by decide) ?_
            refine wl_nil ?_
            refine eo_then ?_
            refine cw_false rfl ?_
            refine cw_skip ?_
            refine eo_block_normal ?_
            refine eo_then ?_
            refine cw_seq ?_
            have h36 : ¬ dv c < 36 := by unfold dv; (repeat' split) <;> omega
            have hv : sgv c = -1 := by unfold sgv; rw [if_neg h36]
            refine cw_region ?_
            refine wl_move rfl rfl (by decide) ?_
            refine wl_move rfl rfl (by decide) ?_
            refine wl_cmp rfl rfl rfl false (by decide) (by decide) ?_
            refine wl_move rfl rfl (by decide) ?_
            refine wl_off rfl (by decide) ?_
            refine wl_off rfl (by decide) ?_
            refine wl_off rfl (by decide) ?_
            refine wl_pure rfl rfl (v := .bool false) (by decide) (by kernel_rfl) ?_
            refine wl_assign rfl rfl (by decide) ?_
            refine wl_assign rfl rfl (by decide) ?_
            refine wl_nil ?_
            refine eo_then ?_
            refine cw_ret ?_
            refine eo_ret [.int .i64 (-1), .bool false] rfl ⟨rfl, rfl, trivial⟩ ?_
            exact ⟨_, rfl, ⟨_, _, rfl, (show Value.int .i64 (-1) = _ by rw [hv]), (show Value.bool false = _ by rw [decide_eq_false (by omega)])⟩, (Ext.refl w)⟩
        ·
          refine cw_region ?_
          refine wl_move rfl rfl (by decide) ?_
          refine wl_cmp rfl rfl rfl false (cb_ge_f (a := c) (b := 65) rfl rfl (by omega)) (by decide) ?_
          refine wl_move rfl rfl (by decide) ?_
          refine wl_off rfl (by decide) ?_
          refine wl_off rfl (by decide) ?_
          refine wl_pure rfl rfl (v := .bool false) (by decide) (by kernel_rfl) ?_
          refine wl_assign rfl rfl (by decide) ?_
          refine wl_nil ?_
          refine eo_then ?_
          refine cw_false rfl ?_
          refine cw_skip ?_
          refine eo_block_normal ?_
          refine eo_then ?_
          refine cw_seq ?_
          have h36 : ¬ dv c < 36 := by unfold dv; (repeat' split) <;> omega
          have hv : sgv c = -1 := by unfold sgv; rw [if_neg h36]
          refine cw_region ?_
          refine wl_move rfl rfl (by decide) ?_
          refine wl_move rfl rfl (by decide) ?_
          refine wl_cmp rfl rfl rfl false (by decide) (by decide) ?_
          refine wl_move rfl rfl (by decide) ?_
          refine wl_off rfl (by decide) ?_
          refine wl_off rfl (by decide) ?_
          refine wl_off rfl (by decide) ?_
          refine wl_pure rfl rfl (v := .bool false) (by decide) (by kernel_rfl) ?_
          refine wl_assign rfl rfl (by decide) ?_
          refine wl_assign rfl rfl (by decide) ?_
          refine wl_nil ?_
          refine eo_then ?_
          refine cw_ret ?_
          refine eo_ret [.int .i64 (-1), .bool false] rfl ⟨rfl, rfl, trivial⟩ ?_
          exact ⟨_, rfl, ⟨_, _, rfl, (show Value.int .i64 (-1) = _ by rw [hv]), (show Value.bool false = _ by rw [decide_eq_false (by omega)])⟩, (Ext.refl w)⟩
  ·
    refine cw_region ?_
    refine wl_move rfl rfl (by decide) ?_
    refine wl_cmp rfl rfl rfl false (cb_ge_f (a := c) (b := 48) rfl rfl (by omega)) (by decide) ?_
    refine wl_move rfl rfl (by decide) ?_
    refine wl_off rfl (by decide) ?_
    refine wl_off rfl (by decide) ?_
    refine wl_pure rfl rfl (v := .bool false) (by decide) (by kernel_rfl) ?_
    refine wl_assign rfl rfl (by decide) ?_
    refine wl_nil ?_
    refine eo_then ?_
    refine cw_false rfl ?_
    refine cw_seq ?_
    by_cases ha97 : c ≥ 97
    ·
      by_cases hb122 : c ≤ 122
      ·
        refine cw_region ?_
        refine wl_move rfl rfl (by decide) ?_
        refine wl_cmp rfl rfl rfl true (cb_ge_t (a := c) (b := 97) rfl rfl (by omega)) (by decide) ?_
        refine wl_move rfl rfl (by decide) ?_
        refine wl_move rfl rfl (by decide) ?_
        refine wl_cmp rfl rfl rfl true (cb_le_t (a := c) (b := 122) rfl rfl (by omega)) (by decide) ?_
        refine wl_pure rfl rfl (v := .bool true) (by decide) (by kernel_rfl) ?_
        refine wl_assign rfl rfl (by decide) ?_
        refine wl_nil ?_
        refine eo_then ?_
        refine cw_true rfl ?_
        refine cw_region ?_
        refine wl_move rfl rfl (by decide) ?_
        refine wl_ar rfl rfl rfl ((c - 97 : Nat) : Int) (a8_sub (a := c) (b := 97) rfl rfl (by omega) (by omega)) (by decide) ?_
        refine wl_pureE rfl rfl (v := .int .i64 (IntKind.i64.wrap ((c - 97 : Nat) : Int))) (v' := .int .i64 ((c - 97 : Nat) : Int)) (by decide) (by kernel_rfl) (cv_i64 (by first | omega | exact hle64)) ?_
        refine wl_ar rfl rfl rfl (((c - 97) + 10 : Nat) : Int) (ai_add (a := c - 97) (b := 10) rfl rfl (by omega)) (by decide) ?_
        refine wl_assign rfl rfl (by decide) ?_
        refine wl_nil ?_
        refine eo_block_normal ?_
        refine eo_then ?_
        refine cw_seq ?_
        have hv : sgv c = (((c - 97) + 10 : Nat) : Int) := by unfold sgv dv; (repeat' split) <;> omega
        by_cases hvb : sgv c < b
        ·
          refine cw_region ?_
          refine wl_move rfl rfl (by decide) ?_
          refine wl_move rfl rfl (by decide) ?_
          refine wl_cmp rfl rfl rfl true (cb_ge_t (a := (c - 97) + 10) (b := 0) rfl rfl (by omega)) (by decide) ?_
          refine wl_move rfl rfl (by decide) ?_
          refine wl_move rfl rfl (by decide) ?_
          refine wl_move rfl rfl (by decide) ?_
          refine wl_cmp rfl rfl rfl true (lt_t (by omega)) (by decide) ?_
          refine wl_pure rfl rfl (v := .bool true) (by decide) (by kernel_rfl) ?_
          refine wl_assign rfl rfl (by decide) ?_
          refine wl_assign rfl rfl (by decide) ?_
          refine wl_nil ?_
          refine eo_then ?_
          refine cw_ret ?_
          refine eo_ret [.int .i64 (((c - 97) + 10 : Nat) : Int), .bool true] rfl ⟨rfl, rfl, trivial⟩ ?_
          exact ⟨_, rfl, ⟨_, _, rfl, (show Value.int .i64 ((((c - 97) + 10 : Nat) : Int)) = _ by rw [hv]), (show Value.bool true = _ by rw [decide_eq_true (by omega)])⟩, (Ext.refl w)⟩
        ·
          refine cw_region ?_
          refine wl_move rfl rfl (by decide) ?_
          refine wl_move rfl rfl (by decide) ?_
          refine wl_cmp rfl rfl rfl true (cb_ge_t (a := (c - 97) + 10) (b := 0) rfl rfl (by omega)) (by decide) ?_
          refine wl_move rfl rfl (by decide) ?_
          refine wl_move rfl rfl (by decide) ?_
          refine wl_move rfl rfl (by decide) ?_
          refine wl_cmp rfl rfl rfl false (lt_f (by omega)) (by decide) ?_
          refine wl_pure rfl rfl (v := .bool false) (by decide) (by kernel_rfl) ?_
          refine wl_assign rfl rfl (by decide) ?_
          refine wl_assign rfl rfl (by decide) ?_
          refine wl_nil ?_
          refine eo_then ?_
          refine cw_ret ?_
          refine eo_ret [.int .i64 (((c - 97) + 10 : Nat) : Int), .bool false] rfl ⟨rfl, rfl, trivial⟩ ?_
          exact ⟨_, rfl, ⟨_, _, rfl, (show Value.int .i64 ((((c - 97) + 10 : Nat) : Int)) = _ by rw [hv]), (show Value.bool false = _ by rw [decide_eq_false (by omega)])⟩, (Ext.refl w)⟩
      ·
        refine cw_region ?_
        refine wl_move rfl rfl (by decide) ?_
        refine wl_cmp rfl rfl rfl true (cb_ge_t (a := c) (b := 97) rfl rfl (by omega)) (by decide) ?_
        refine wl_move rfl rfl (by decide) ?_
        refine wl_move rfl rfl (by decide) ?_
        refine wl_cmp rfl rfl rfl false (cb_le_f (a := c) (b := 122) rfl rfl (by omega)) (by decide) ?_
        refine wl_pure rfl rfl (v := .bool false) (by decide) (by kernel_rfl) ?_
        refine wl_assign rfl rfl (by decide) ?_
        refine wl_nil ?_
        refine eo_then ?_
        refine cw_false rfl ?_
        refine cw_seq ?_
        by_cases ha65 : c ≥ 65
        ·
          by_cases hb90 : c ≤ 90
          ·
            refine cw_region ?_
            refine wl_move rfl rfl (by decide) ?_
            refine wl_cmp rfl rfl rfl true (cb_ge_t (a := c) (b := 65) rfl rfl (by omega)) (by decide) ?_
            refine wl_move rfl rfl (by decide) ?_
            refine wl_move rfl rfl (by decide) ?_
            refine wl_cmp rfl rfl rfl true (cb_le_t (a := c) (b := 90) rfl rfl (by omega)) (by decide) ?_
            refine wl_pure rfl rfl (v := .bool true) (by decide) (by kernel_rfl) ?_
            refine wl_assign rfl rfl (by decide) ?_
            refine wl_nil ?_
            refine eo_then ?_
            refine cw_true rfl ?_
            refine cw_region ?_
            refine wl_move rfl rfl (by decide) ?_
            refine wl_ar rfl rfl rfl ((c - 65 : Nat) : Int) (a8_sub (a := c) (b := 65) rfl rfl (by omega) (by omega)) (by decide) ?_
            refine wl_pureE rfl rfl (v := .int .i64 (IntKind.i64.wrap ((c - 65 : Nat) : Int))) (v' := .int .i64 ((c - 65 : Nat) : Int)) (by decide) (by kernel_rfl) (cv_i64 (by first | omega | exact hle64)) ?_
            refine wl_ar rfl rfl rfl (((c - 65) + 10 : Nat) : Int) (ai_add (a := c - 65) (b := 10) rfl rfl (by omega)) (by decide) ?_
            refine wl_assign rfl rfl (by decide) ?_
            refine wl_nil ?_
            refine eo_block_normal ?_
            refine eo_then ?_
            refine cw_seq ?_
            have hv : sgv c = (((c - 65) + 10 : Nat) : Int) := by unfold sgv dv; (repeat' split) <;> omega
            by_cases hvb : sgv c < b
            ·
              refine cw_region ?_
              refine wl_move rfl rfl (by decide) ?_
              refine wl_move rfl rfl (by decide) ?_
              refine wl_cmp rfl rfl rfl true (cb_ge_t (a := (c - 65) + 10) (b := 0) rfl rfl (by omega)) (by decide) ?_
              refine wl_move rfl rfl (by decide) ?_
              refine wl_move rfl rfl (by decide) ?_
              refine wl_move rfl rfl (by decide) ?_
              refine wl_cmp rfl rfl rfl true (lt_t (by omega)) (by decide) ?_
              refine wl_pure rfl rfl (v := .bool true) (by decide) (by kernel_rfl) ?_
              refine wl_assign rfl rfl (by decide) ?_
              refine wl_assign rfl rfl (by decide) ?_
              refine wl_nil ?_
              refine eo_then ?_
              refine cw_ret ?_
              refine eo_ret [.int .i64 (((c - 65) + 10 : Nat) : Int), .bool true] rfl ⟨rfl, rfl, trivial⟩ ?_
              exact ⟨_, rfl, ⟨_, _, rfl, (show Value.int .i64 ((((c - 65) + 10 : Nat) : Int)) = _ by rw [hv]), (show Value.bool true = _ by rw [decide_eq_true (by omega)])⟩, (Ext.refl w)⟩
            ·
              refine cw_region ?_
              refine wl_move rfl rfl (by decide) ?_
              refine wl_move rfl rfl (by decide) ?_
              refine wl_cmp rfl rfl rfl true (cb_ge_t (a := (c - 65) + 10) (b := 0) rfl rfl (by omega)) (by decide) ?_
              refine wl_move rfl rfl (by decide) ?_
              refine wl_move rfl rfl (by decide) ?_
              refine wl_move rfl rfl (by decide) ?_
              refine wl_cmp rfl rfl rfl false (lt_f (by omega)) (by decide) ?_
              refine wl_pure rfl rfl (v := .bool false) (by decide) (by kernel_rfl) ?_
              refine wl_assign rfl rfl (by decide) ?_
              refine wl_assign rfl rfl (by decide) ?_
              refine wl_nil ?_
              refine eo_then ?_
              refine cw_ret ?_
              refine eo_ret [.int .i64 (((c - 65) + 10 : Nat) : Int), .bool false] rfl ⟨rfl, rfl, trivial⟩ ?_
              exact ⟨_, rfl, ⟨_, _, rfl, (show Value.int .i64 ((((c - 65) + 10 : Nat) : Int)) = _ by rw [hv]), (show Value.bool false = _ by rw [decide_eq_false (by omega)])⟩, (Ext.refl w)⟩
          ·
            refine cw_region ?_
            refine wl_move rfl rfl (by decide) ?_
            refine wl_cmp rfl rfl rfl true (cb_ge_t (a := c) (b := 65) rfl rfl (by omega)) (by decide) ?_
            refine wl_move rfl rfl (by decide) ?_
            refine wl_move rfl rfl (by decide) ?_
            refine wl_cmp rfl rfl rfl false (cb_le_f (a := c) (b := 90) rfl rfl (by omega)) (by decide) ?_
            refine wl_pure rfl rfl (v := .bool false) (by decide) (by kernel_rfl) ?_
            refine wl_assign rfl rfl (by decide) ?_
            refine wl_nil ?_
            refine eo_then ?_
            refine cw_false rfl ?_
            refine cw_skip ?_
            refine eo_block_normal ?_
            refine eo_then ?_
            refine cw_seq ?_
            have h36 : ¬ dv c < 36 := by unfold dv; (repeat' split) <;> omega
            have hv : sgv c = -1 := by unfold sgv; rw [if_neg h36]
            refine cw_region ?_
            refine wl_move rfl rfl (by decide) ?_
            refine wl_move rfl rfl (by decide) ?_
            refine wl_cmp rfl rfl rfl false (by decide) (by decide) ?_
            refine wl_move rfl rfl (by decide) ?_
            refine wl_off rfl (by decide) ?_
            refine wl_off rfl (by decide) ?_
            refine wl_off rfl (by decide) ?_
            refine wl_pure rfl rfl (v := .bool false) (by decide) (by kernel_rfl) ?_
            refine wl_assign rfl rfl (by decide) ?_
            refine wl_assign rfl rfl (by decide) ?_
            refine wl_nil ?_
            refine eo_then ?_
            refine cw_ret ?_
            refine eo_ret [.int .i64 (-1), .bool false] rfl ⟨rfl, rfl, trivial⟩ ?_
            exact ⟨_, rfl, ⟨_, _, rfl, (show Value.int .i64 (-1) = _ by rw [hv]), (show Value.bool false = _ by rw [decide_eq_false (by omega)])⟩, (Ext.refl w)⟩
        ·
          refine cw_region ?_
          refine wl_move rfl rfl (by decide) ?_
          refine wl_cmp rfl rfl rfl false (cb_ge_f (a := c) (b := 65) rfl rfl (by omega)) (by decide) ?_
          refine wl_move rfl rfl (by decide) ?_
          refine wl_off rfl (by decide) ?_
          refine wl_off rfl (by decide) ?_
          refine wl_pure rfl rfl (v := .bool false) (by decide) (by kernel_rfl) ?_
          refine wl_assign rfl rfl (by decide) ?_
          refine wl_nil ?_
          refine eo_then ?_
          refine cw_false rfl ?_
          refine cw_skip ?_
          refine eo_block_normal ?_
          refine eo_then ?_
          refine cw_seq ?_
          have h36 : ¬ dv c < 36 := by unfold dv; (repeat' split) <;> omega
          have hv : sgv c = -1 := by unfold sgv; rw [if_neg h36]
          refine cw_region ?_
          refine wl_move rfl rfl (by decide) ?_
          refine wl_move rfl rfl (by decide) ?_
          refine wl_cmp rfl rfl rfl false (by decide) (by decide) ?_
          refine wl_move rfl rfl (by decide) ?_
          refine wl_off rfl (by decide) ?_
          refine wl_off rfl (by decide) ?_
          refine wl_off rfl (by decide) ?_
          refine wl_pure rfl rfl (v := .bool false) (by decide) (by kernel_rfl) ?_
          refine wl_assign rfl rfl (by decide) ?_
          refine wl_assign rfl rfl (by decide) ?_
          refine wl_nil ?_
          refine eo_then ?_
          refine cw_ret ?_
          refine eo_ret [.int .i64 (-1), .bool false] rfl ⟨rfl, rfl, trivial⟩ ?_
          exact ⟨_, rfl, ⟨_, _, rfl, (show Value.int .i64 (-1) = _ by rw [hv]), (show Value.bool false = _ by rw [decide_eq_false (by omega)])⟩, (Ext.refl w)⟩
    ·
      refine cw_region ?_
      refine wl_move rfl rfl (by decide) ?_
      refine wl_cmp rfl rfl rfl false (cb_ge_f (a := c) (b := 97) rfl rfl (by omega)) (by decide) ?_
      refine wl_move rfl rfl (by decide) ?_
      refine wl_off rfl (by decide) ?_
      refine wl_off rfl (by decide) ?_
      refine wl_pure rfl rfl (v := .bool false) (by decide) (by kernel_rfl) ?_
      refine wl_assign rfl rfl (by decide) ?_
      refine wl_nil ?_
      refine eo_then ?_
      refine cw_false rfl ?_
      refine cw_seq ?_
      by_cases ha65 : c ≥ 65
      ·
        by_cases hb90 : c ≤ 90
        ·
          refine cw_region ?_
          refine wl_move rfl rfl (by decide) ?_
          refine wl_cmp rfl rfl rfl true (cb_ge_t (a := c) (b := 65) rfl rfl (by omega)) (by decide) ?_
          refine wl_move rfl rfl (by decide) ?_
          refine wl_move rfl rfl (by decide) ?_
          refine wl_cmp rfl rfl rfl true (cb_le_t (a := c) (b := 90) rfl rfl (by omega)) (by decide) ?_
          refine wl_pure rfl rfl (v := .bool true) (by decide) (by kernel_rfl) ?_
          refine wl_assign rfl rfl (by decide) ?_
          refine wl_nil ?_
          refine eo_then ?_
          refine cw_true rfl ?_
          refine cw_region ?_
          refine wl_move rfl rfl (by decide) ?_
          refine wl_ar rfl rfl rfl ((c - 65 : Nat) : Int) (a8_sub (a := c) (b := 65) rfl rfl (by omega) (by omega)) (by decide) ?_
          refine wl_pureE rfl rfl (v := .int .i64 (IntKind.i64.wrap ((c - 65 : Nat) : Int))) (v' := .int .i64 ((c - 65 : Nat) : Int)) (by decide) (by kernel_rfl) (cv_i64 (by first | omega | exact hle64)) ?_
          refine wl_ar rfl rfl rfl (((c - 65) + 10 : Nat) : Int) (ai_add (a := c - 65) (b := 10) rfl rfl (by omega)) (by decide) ?_
          refine wl_assign rfl rfl (by decide) ?_
          refine wl_nil ?_
          refine eo_block_normal ?_
          refine eo_then ?_
          refine cw_seq ?_
          have hv : sgv c = (((c - 65) + 10 : Nat) : Int) := by unfold sgv dv; (repeat' split) <;> omega
          by_cases hvb : sgv c < b
          ·
            refine cw_region ?_
            refine wl_move rfl rfl (by decide) ?_
            refine wl_move rfl rfl (by decide) ?_
            refine wl_cmp rfl rfl rfl true (cb_ge_t (a := (c - 65) + 10) (b := 0) rfl rfl (by omega)) (by decide) ?_
            refine wl_move rfl rfl (by decide) ?_
            refine wl_move rfl rfl (by decide) ?_
            refine wl_move rfl rfl (by decide) ?_
            refine wl_cmp rfl rfl rfl true (lt_t (by omega)) (by decide) ?_
            refine wl_pure rfl rfl (v := .bool true) (by decide) (by kernel_rfl) ?_
            refine wl_assign rfl rfl (by decide) ?_
            refine wl_assign rfl rfl (by decide) ?_
            refine wl_nil ?_
            refine eo_then ?_
            refine cw_ret ?_
            refine eo_ret [.int .i64 (((c - 65) + 10 : Nat) : Int), .bool true] rfl ⟨rfl, rfl, trivial⟩ ?_
            exact ⟨_, rfl, ⟨_, _, rfl, (show Value.int .i64 ((((c - 65) + 10 : Nat) : Int)) = _ by rw [hv]), (show Value.bool true = _ by rw [decide_eq_true (by omega)])⟩, (Ext.refl w)⟩
          ·
            refine cw_region ?_
            refine wl_move rfl rfl (by decide) ?_
            refine wl_move rfl rfl (by decide) ?_
            refine wl_cmp rfl rfl rfl true (cb_ge_t (a := (c - 65) + 10) (b := 0) rfl rfl (by omega)) (by decide) ?_
            refine wl_move rfl rfl (by decide) ?_
            refine wl_move rfl rfl (by decide) ?_
            refine wl_move rfl rfl (by decide) ?_
            refine wl_cmp rfl rfl rfl false (lt_f (by omega)) (by decide) ?_
            refine wl_pure rfl rfl (v := .bool false) (by decide) (by kernel_rfl) ?_
            refine wl_assign rfl rfl (by decide) ?_
            refine wl_assign rfl rfl (by decide) ?_
            refine wl_nil ?_
            refine eo_then ?_
            refine cw_ret ?_
            refine eo_ret [.int .i64 (((c - 65) + 10 : Nat) : Int), .bool false] rfl ⟨rfl, rfl, trivial⟩ ?_
            exact ⟨_, rfl, ⟨_, _, rfl, (show Value.int .i64 ((((c - 65) + 10 : Nat) : Int)) = _ by rw [hv]), (show Value.bool false = _ by rw [decide_eq_false (by omega)])⟩, (Ext.refl w)⟩
        ·
          refine cw_region ?_
          refine wl_move rfl rfl (by decide) ?_
          refine wl_cmp rfl rfl rfl true (cb_ge_t (a := c) (b := 65) rfl rfl (by omega)) (by decide) ?_
          refine wl_move rfl rfl (by decide) ?_
          refine wl_move rfl rfl (by decide) ?_
          refine wl_cmp rfl rfl rfl false (cb_le_f (a := c) (b := 90) rfl rfl (by omega)) (by decide) ?_
          refine wl_pure rfl rfl (v := .bool false) (by decide) (by kernel_rfl) ?_
          refine wl_assign rfl rfl (by decide) ?_
          refine wl_nil ?_
          refine eo_then ?_
          refine cw_false rfl ?_
          refine cw_skip ?_
          refine eo_block_normal ?_
          refine eo_then ?_
          refine cw_seq ?_
          have h36 : ¬ dv c < 36 := by unfold dv; (repeat' split) <;> omega
          have hv : sgv c = -1 := by unfold sgv; rw [if_neg h36]
          refine cw_region ?_
          refine wl_move rfl rfl (by decide) ?_
          refine wl_move rfl rfl (by decide) ?_
          refine wl_cmp rfl rfl rfl false (by decide) (by decide) ?_
          refine wl_move rfl rfl (by decide) ?_
          refine wl_off rfl (by decide) ?_
          refine wl_off rfl (by decide) ?_
          refine wl_off rfl (by decide) ?_
          refine wl_pure rfl rfl (v := .bool false) (by decide) (by kernel_rfl) ?_
          refine wl_assign rfl rfl (by decide) ?_
          refine wl_assign rfl rfl (by decide) ?_
          refine wl_nil ?_
          refine eo_then ?_
          refine cw_ret ?_
          refine eo_ret [.int .i64 (-1), .bool false] rfl ⟨rfl, rfl, trivial⟩ ?_
          exact ⟨_, rfl, ⟨_, _, rfl, (show Value.int .i64 (-1) = _ by rw [hv]), (show Value.bool false = _ by rw [decide_eq_false (by omega)])⟩, (Ext.refl w)⟩
      ·
        refine cw_region ?_
        refine wl_move rfl rfl (by decide) ?_
        refine wl_cmp rfl rfl rfl false (cb_ge_f (a := c) (b := 65) rfl rfl (by omega)) (by decide) ?_
        refine wl_move rfl rfl (by decide) ?_
        refine wl_off rfl (by decide) ?_
        refine wl_off rfl (by decide) ?_
        refine wl_pure rfl rfl (v := .bool false) (by decide) (by kernel_rfl) ?_
        refine wl_assign rfl rfl (by decide) ?_
        refine wl_nil ?_
        refine eo_then ?_
        refine cw_false rfl ?_
        refine cw_skip ?_
        refine eo_block_normal ?_
        refine eo_then ?_
        refine cw_seq ?_
        have h36 : ¬ dv c < 36 := by unfold dv; (repeat' split) <;> omega
        have hv : sgv c = -1 := by unfold sgv; rw [if_neg h36]
        refine cw_region ?_
        refine wl_move rfl rfl (by decide) ?_
        refine wl_move rfl rfl (by decide) ?_
        refine wl_cmp rfl rfl rfl false (by decide) (by decide) ?_
        refine wl_move rfl rfl (by decide) ?_
        refine wl_off rfl (by decide) ?_
        refine wl_off rfl (by decide) ?_
        refine wl_off rfl (by decide) ?_
        refine wl_pure rfl rfl (v := .bool false) (by decide) (by kernel_rfl) ?_
        refine wl_assign rfl rfl (by decide) ?_
        refine wl_assign rfl rfl (by decide) ?_
        refine wl_nil ?_
        refine eo_then ?_
        refine cw_ret ?_
        refine eo_ret [.int .i64 (-1), .bool false] rfl ⟨rfl, rfl, trivial⟩ ?_
        exact ⟨_, rfl, ⟨_, _, rfl, (show Value.int .i64 (-1) = _ by rw [hv]), (show Value.bool false = _ by rw [decide_eq_false (by omega)])⟩, (Ext.refl w)⟩
theorem g_sign_ok {w : World} {c base : Nat} (hc : c ≤ 255) (hbu : base ≤ 36) (h : dv c < base) : Calls Tryd.prog 35 #[.int .u8 ((c : Nat) : Int), .int .i64 ((base : Nat) : Int)] w (Gv w (T2 (Is (.int .i64 ((dv c : Nat) : Int))) (Is (.bool true)))) := by
  have h1 := g_law4_sign (w := w) (b := ((base : Nat) : Int)) hc
  have h2 : sgv c = ((dv c : Nat) : Int) := by unfold sgv; rw [if_pos (by omega)]
  rw [h2, decide_eq_true (by omega)] at h1
  exact h1
theorem g_sign_no {w : World} {c base : Nat} (hc : c ≤ 255) (_hbu : base ≤ 36) (h : ¬ dv c < base) : Calls Tryd.prog 35 #[.int .u8 ((c : Nat) : Int), .int .i64 ((base : Nat) : Int)] w (Gv w (T2 (Is (.int .i64 (sgv c))) (Is (.bool false)))) := by
  have h1 := g_law4_sign (w := w) (b := ((base : Nat) : Int)) hc
  rw [decide_eq_false (by unfold sgv; split <;> omega)] at h1
  exact h1
theorem len_wd_dv {base : Nat} {bs : List Nat} (hbl : 2 ≤ base) (hbu : base ≤ 36) (h : ∀ c, c ∈ bs → dv c < base) : (wd (vald base (bs.map dv))).length ≤ bs.length := by
  have := len_vald (b := base) (by omega) hbu (dig_map h)
  rwa [List.length_map] at this
end Go.Proofs.YtmjdmjflgiicaaaDoor

namespace Go.Proofs.YtmjdmjflgiicaaaDoor
open Go.RowKit
theorem len_wd_w64 {x : Nat} (h : x ≤ 18446744073709551615) : (wd x).length ≤ 1 := len_wd_le (by rw [WB_def, Nat.pow_one]; omega)
set_option maxHeartbeats 4000000 in
theorem law_RadixStep_bad {w : World} {bs : List Nat} (_hbs : ∀ b, b ∈ bs → b < 256) (hlen : bs.length ≤ 1048576) {c : Nat} (hc : c ≤ 255) (hS : Signs w) {b : Int} (hbad : b < 2 ∨ 36 < b) :
    Calls Tryd.prog 6 #[.string (strB bs), .int .i64 b, .int .u8 ((c : Nat) : Int)] w (Gv w (Is (.bool true))) := by
  refine sx_enter Tryd.func6 rfl (n := 117) rfl (Nat.le_of_ble_eq_true rfl) (args := [.string (strB bs), .int .i64 b, .int .u8 ((c : Nat) : Int)]) ?_
  refine cw_keep [(0, .string (strB bs)), (1, .int .i64 b), (2, .int .u8 ((c : Nat) : Int))] ⟨rfl, rfl, rfl, trivial⟩ ?_
  refine cw_seq ?_
  refine cw_region ?_
  refine wl_assign rfl rfl (by decide) ?_
  refine wl_nil ?_
  refine eo_then ?_
  refine cw_seq ?_
  refine cw_seq ?_
  refine cw_region ?_
  refine wl_call rfl rfl (vs := []) (by kernel_rfl) (by decide) (g_law4_awake (hS.ext (Ext.refl w))) ?_
  rintro _ v1 ⟨xr3, rfl, r3, e2⟩
  refine ret_intro ?_
  have hw1 : Ext w v1 := (Ext.refl w).trans e2
  obtain rfl := r3
  refine wl_pure rfl rfl (v := .bool false) (by decide) (by kernel_rfl) ?_
  refine wl_nil ?_
  refine eo_then ?_
  refine cw_false rfl ?_
  refine cw_skip ?_
  refine eo_then ?_
  refine cw_seq ?_
  refine cw_region ?_
  refine wl_move rfl rfl (by decide) ?_
  refine wl_move rfl rfl (by decide) ?_
  refine wl_call rfl rfl (vs := [.string (strB bs), .int .i64 b]) (by kernel_rfl) (by decide) (rx_Read_badb hbad) ?_
  rintro _ v4 ⟨xr6, rfl, r6, e5⟩
  refine ret_intro ?_
  have hw2 : Ext w v4 := hw1.trans e5
  obtain ⟨a7_0, a7_1, rfl, r7_0, r7_1⟩ := r6
  obtain rfl := r7_0
  obtain rfl := r7_1
  refine wl_move rfl rfl (by decide) ?_
  refine wl_pure rfl rfl (v := .slice none 0 0) (by decide) (by kernel_rfl) ?_
  refine wl_pure rfl rfl (v := .int .i64 3) (by decide) (by kernel_rfl) ?_
  refine wl_assign rfl rfl (by decide) ?_
  refine wl_assign rfl rfl (by decide) ?_
  refine wl_nil ?_
  refine eo_then ?_
  refine cw_seq ?_
  refine cw_region ?_
  refine wl_move rfl rfl (by decide) ?_
  refine wl_move rfl rfl (by decide) ?_
  refine wl_bslice rfl rfl (by decide) (k := 1) (e := 5) [.int .u8 ((c : Nat) : Int)] (fun _ => by kernel_rfl) fun g8 v9 nb => ?_
  have hb10 := nb.bk
  have e11 := nb.ext
  clear nb
  have hw3 : Ext w v9 := hw2.trans e11
  refine wl_toStr (bs := [c]) (lb := 0) rfl rfl (Own.mk_ (Nat.zero_le _) hb10 (Nat.le_refl _) (by rw [len_maxLen]; omega) rfl rfl) (by decide) ?_
  refine wl_op rfl rfl rfl (r := .string (strB (bs ++ ([c])))) rfl (fun w => str_add (a := bs) (b := [c]) (by simp only [List.length_cons, List.length_nil]; omega)) (by decide) ?_
  refine wl_move rfl rfl (by decide) ?_
  refine wl_call rfl rfl (vs := [.string (strB (bs ++ ([c]))), .int .i64 b]) (by kernel_rfl) (by decide) (rx_Read_badb hbad) ?_
  rintro _ v12 ⟨xr14, rfl, r14, e13⟩
  refine ret_intro ?_
  have hw4 : Ext w v12 := hw3.trans e13
  obtain ⟨a15_0, a15_1, rfl, r15_0, r15_1⟩ := r14
  obtain rfl := r15_0
  obtain rfl := r15_1
  refine wl_move rfl rfl (by decide) ?_
  refine wl_pure rfl rfl (v := .slice none 0 0) (by decide) (by kernel_rfl) ?_
  refine wl_pure rfl rfl (v := .int .i64 3) (by decide) (by kernel_rfl) ?_
  refine wl_assign rfl rfl (by decide) ?_
  refine wl_assign rfl rfl (by decide) ?_
  refine wl_nil ?_
  refine eo_then ?_
  refine cw_seq ?_
  refine cw_region ?_
  refine wl_move rfl rfl (by decide) ?_
  refine wl_bslice rfl rfl (by decide) (k := 1) (e := 5) [.int .u8 ((c : Nat) : Int)] (fun _ => by kernel_rfl) fun g16 v17 nb => ?_
  have hb18 := nb.bk
  have e19 := nb.ext
  clear nb
  have hw5 : Ext w v17 := hw4.trans e19
  refine wl_toStr (bs := [c]) (lb := 0) rfl rfl (Own.mk_ (Nat.zero_le _) hb18 (Nat.le_refl _) (by rw [len_maxLen]; omega) rfl rfl) (by decide) ?_
  refine wl_move rfl rfl (by decide) ?_
  refine wl_call rfl rfl (vs := [.string (strB ([c])), .int .i64 b]) (by kernel_rfl) (by decide) (rx_Read_badb hbad) ?_
  rintro _ v20 ⟨xr22, rfl, r22, e21⟩
  refine ret_intro ?_
  have hw6 : Ext w v20 := hw5.trans e21
  obtain ⟨a23_0, a23_1, rfl, r23_0, r23_1⟩ := r22
  obtain rfl := r23_0
  obtain rfl := r23_1
  refine wl_move rfl rfl (by decide) ?_
  refine wl_pure rfl rfl (v := .slice none 0 0) (by decide) (by kernel_rfl) ?_
  refine wl_pure rfl rfl (v := .int .i64 3) (by decide) (by kernel_rfl) ?_
  refine wl_assign rfl rfl (by decide) ?_
  refine wl_assign rfl rfl (by decide) ?_
  refine wl_nil ?_
  refine eo_then ?_
  refine cw_seq ?_
  refine cw_region ?_
  refine wl_move rfl rfl (by decide) ?_
  refine wl_move rfl rfl (by decide) ?_
  refine wl_call rfl rfl (vs := [.int .u8 ((c : Nat) : Int), .int .i64 b]) (by kernel_rfl) (by decide) (g_law4_sign hc) ?_
  rintro _ v24 ⟨xr26, rfl, r26, e25⟩
  refine ret_intro ?_
  have hw7 : Ext w v24 := hw6.trans e25
  obtain ⟨a27_0, a27_1, rfl, r27_0, r27_1⟩ := r26
  obtain rfl := r27_0
  obtain rfl := r27_1
  refine wl_move rfl rfl (by decide) ?_
  refine wl_pure rfl rfl (v := .int .i64 (sgv c)) (by decide) (by kernel_rfl) ?_
  refine wl_pure rfl rfl (v := .bool (decide (0 ≤ sgv c ∧ sgv c < b))) (by decide) (by kernel_rfl) ?_
  refine wl_assign rfl rfl (by decide) ?_
  refine wl_assign rfl rfl (by decide) ?_
  refine wl_nil ?_
  refine eo_then ?_
  refine cw_seq ?_
  refine cw_seq ?_
  rcases hbad with hbad | hbad
  ·
    refine cw_region ?_
    refine wl_move rfl rfl (by decide) ?_
    refine wl_cmp rfl rfl rfl true (lt_t hbad) (by decide) ?_
    refine wl_move rfl rfl (by decide) ?_
    refine wl_off rfl (by decide) ?_
    refine wl_off rfl (by decide) ?_
    refine wl_pure rfl rfl (v := .bool true) (by decide) (by kernel_rfl) ?_
    refine wl_nil ?_
    refine eo_then ?_
    refine cw_true rfl ?_
    refine cw_seq ?_
    refine cw_region ?_
    refine wl_move rfl rfl (by decide) ?_
    refine wl_cmp rfl rfl rfl true (by decide) (by decide) ?_
    refine wl_move rfl rfl (by decide) ?_
    refine wl_move rfl rfl (by decide) ?_
    refine wl_cmp rfl rfl rfl true (by decide) (by decide) ?_
    refine wl_pure rfl rfl (v := .bool true) (by decide) (by kernel_rfl) ?_
    refine wl_move rfl rfl (by decide) ?_
    refine wl_move rfl rfl (by decide) ?_
    refine wl_cmp rfl rfl rfl true (by decide) (by decide) ?_
    refine wl_pure rfl rfl (v := .bool true) (by decide) (by kernel_rfl) ?_
    refine wl_assign rfl rfl (by decide) ?_
    refine wl_nil ?_
    refine eo_then ?_
    refine cw_ret ?_
    refine eo_thenR ?_
    refine eo_ret [.bool true] rfl ⟨rfl, trivial⟩ ?_
    exact ⟨_, rfl, rfl, hw7⟩
  ·
    refine cw_region ?_
    refine wl_move rfl rfl (by decide) ?_
    refine wl_cmp rfl rfl rfl false (lt_f (by omega)) (by decide) ?_
    refine wl_move rfl rfl (by decide) ?_
    refine wl_move rfl rfl (by decide) ?_
    refine wl_cmp rfl rfl rfl true (gt_t hbad) (by decide) ?_
    refine wl_pure rfl rfl (v := .bool true) (by decide) (by kernel_rfl) ?_
    refine wl_nil ?_
    refine eo_then ?_
    refine cw_true rfl ?_
    refine cw_seq ?_
    refine cw_region ?_
    refine wl_move rfl rfl (by decide) ?_
    refine wl_cmp rfl rfl rfl true (by decide) (by decide) ?_
    refine wl_move rfl rfl (by decide) ?_
    refine wl_move rfl rfl (by decide) ?_
    refine wl_cmp rfl rfl rfl true (by decide) (by decide) ?_
    refine wl_pure rfl rfl (v := .bool true) (by decide) (by kernel_rfl) ?_
    refine wl_move rfl rfl (by decide) ?_
    refine wl_move rfl rfl (by decide) ?_
    refine wl_cmp rfl rfl rfl true (by decide) (by decide) ?_
    refine wl_pure rfl rfl (v := .bool true) (by decide) (by kernel_rfl) ?_
    refine wl_assign rfl rfl (by decide) ?_
    refine wl_nil ?_
    refine eo_then ?_
    refine cw_ret ?_
    refine eo_thenR ?_
    refine eo_ret [.bool true] rfl ⟨rfl, trivial⟩ ?_
    exact ⟨_, rfl, rfl, hw7⟩
set_option maxHeartbeats 4000000 in
theorem law_RadixStep_nog {w : World} {bs : List Nat} (hbs : ∀ b, b ∈ bs → b < 256) (hlen : bs.length ≤ 1048576) {c : Nat} (hc : c ≤ 255) (hS : Signs w) {base : Nat} (hbl : 2 ≤ base) (hbu : base ≤ 36) (hg : Good base bs) (hok : ¬ dv c < base) :
    Calls Tryd.prog 6 #[.string (strB bs), .int .i64 ((base : Nat) : Int), .int .u8 ((c : Nat) : Int)] w (Gv w (Is (.bool true))) := by
  refine sx_enter Tryd.func6 rfl (n := 117) rfl (Nat.le_of_ble_eq_true rfl) (args := [.string (strB bs), .int .i64 ((base : Nat) : Int), .int .u8 ((c : Nat) : Int)]) ?_
  refine cw_keep [(0, .string (strB bs)), (1, .int .i64 ((base : Nat) : Int)), (2, .int .u8 ((c : Nat) : Int))] ⟨rfl, rfl, rfl, trivial⟩ ?_
  refine cw_seq ?_
  refine cw_region ?_
  refine wl_assign rfl rfl (by decide) ?_
  refine wl_nil ?_
  refine eo_then ?_
  refine cw_seq ?_
  refine cw_seq ?_
  refine cw_region ?_
  refine wl_call rfl rfl (vs := []) (by kernel_rfl) (by decide) (g_law4_awake (hS.ext (Ext.refl w))) ?_
  rintro _ v1 ⟨xr3, rfl, r3, e2⟩
  refine ret_intro ?_
  have hw1 : Ext w v1 := (Ext.refl w).trans e2
  obtain rfl := r3
  refine wl_pure rfl rfl (v := .bool false) (by decide) (by kernel_rfl) ?_
  refine wl_nil ?_
  refine eo_then ?_
  refine cw_false rfl ?_
  refine cw_skip ?_
  refine eo_then ?_
  refine cw_seq ?_
  have hbs1 : ∀ b, b ∈ [c] → b < 256 := fun b hb => by rw [List.mem_singleton] at hb; omega
  have hbs2 : ∀ b, b ∈ bs ++ [c] → b < 256 := fun b hb => by rcases List.mem_append.1 hb with h | h; (· exact hbs b h); (· exact hbs1 b h)
  have hg1 : ¬ Good base [c] := fun h => hok (h.2 c (by simp))
  have hav : (wd (vald base (bs.map dv))).length ≤ 1048576 := (Nat.le_trans (len_wd_dv hbl hbu hg.2) hlen)
  have hg2 : ¬ Good base (bs ++ ([c])) := fun h => hok (h.2 c (by simp))
  refine cw_region ?_
  refine wl_move rfl rfl (by decide) ?_
  refine wl_move rfl rfl (by decide) ?_
  refine wl_call rfl rfl (vs := [.string (strB bs), .int .i64 ((base : Nat) : Int)]) (by kernel_rfl) (by decide) (rx_Read_good hw1.size hbl hbu hbs (by omega) hg) ?_
  rintro _ v4 ⟨xr6, rfl, r6, e5⟩
  refine ret_intro ?_
  have hw2 : Ext w v4 := hw1.trans e5
  obtain ⟨a7_0, a7_1, rfl, r7_0, r7_1⟩ := r6
  obtain ⟨A8, n8, c8, rfl, j8, o8⟩ := r7_0
  obtain rfl := r7_1
  refine wl_move rfl rfl (by decide) ?_
  refine wl_pure rfl rfl (v := .slice A8 n8 c8) (by decide) (by kernel_rfl) ?_
  refine wl_pure rfl rfl (v := .int .i64 0) (by decide) (by kernel_rfl) ?_
  refine wl_assign rfl rfl (by decide) ?_
  refine wl_assign rfl rfl (by decide) ?_
  refine wl_nil ?_
  refine eo_then ?_
  refine cw_seq ?_
  refine cw_region ?_
  refine wl_move rfl rfl (by decide) ?_
  refine wl_move rfl rfl (by decide) ?_
  refine wl_bslice rfl rfl (by decide) (k := 1) (e := 5) [.int .u8 ((c : Nat) : Int)] (fun _ => by kernel_rfl) fun g9 v10 nb => ?_
  have hb11 := nb.bk
  have e12 := nb.ext
  clear nb
  have hw3 : Ext w v10 := hw2.trans e12
  refine wl_toStr (bs := [c]) (lb := 0) rfl rfl (Own.mk_ (Nat.zero_le _) hb11 (Nat.le_refl _) (by rw [len_maxLen]; omega) rfl rfl) (by decide) ?_
  refine wl_op rfl rfl rfl (r := .string (strB (bs ++ ([c])))) rfl (fun w => str_add (a := bs) (b := [c]) (by simp only [List.length_cons, List.length_nil]; omega)) (by decide) ?_
  refine wl_move rfl rfl (by decide) ?_
  refine wl_call rfl rfl (vs := [.string (strB (bs ++ ([c]))), .int .i64 ((base : Nat) : Int)]) (by kernel_rfl) (by decide) (rx_Read_bad hbl hbu hbs2 (by rw [List.length_append]; simp only [List.length_cons, List.length_nil]; omega) hg2) ?_
  rintro _ v13 ⟨xr15, rfl, r15, e14⟩
  refine ret_intro ?_
  have hw4 : Ext w v13 := hw3.trans e14
  obtain ⟨a16_0, a16_1, rfl, r16_0, r16_1⟩ := r15
  obtain rfl := r16_0
  obtain rfl := r16_1
  refine wl_move rfl rfl (by decide) ?_
  refine wl_pure rfl rfl (v := .slice none 0 0) (by decide) (by kernel_rfl) ?_
  refine wl_pure rfl rfl (v := .int .i64 7) (by decide) (by kernel_rfl) ?_
  refine wl_assign rfl rfl (by decide) ?_
  refine wl_assign rfl rfl (by decide) ?_
  refine wl_nil ?_
  refine eo_then ?_
  refine cw_seq ?_
  refine cw_region ?_
  refine wl_move rfl rfl (by decide) ?_
  refine wl_bslice rfl rfl (by decide) (k := 1) (e := 5) [.int .u8 ((c : Nat) : Int)] (fun _ => by kernel_rfl) fun g17 v18 nb => ?_
  have hb19 := nb.bk
  have e20 := nb.ext
  clear nb
  have hw5 : Ext w v18 := hw4.trans e20
  refine wl_toStr (bs := [c]) (lb := 0) rfl rfl (Own.mk_ (Nat.zero_le _) hb19 (Nat.le_refl _) (by rw [len_maxLen]; omega) rfl rfl) (by decide) ?_
  refine wl_move rfl rfl (by decide) ?_
  refine wl_call rfl rfl (vs := [.string (strB ([c])), .int .i64 ((base : Nat) : Int)]) (by kernel_rfl) (by decide) (rx_Read_bad hbl hbu hbs1 (by simp only [List.length_cons, List.length_nil]; omega) hg1) ?_
  rintro _ v21 ⟨xr23, rfl, r23, e22⟩
  refine ret_intro ?_
  have hw6 : Ext w v21 := hw5.trans e22
  obtain ⟨a24_0, a24_1, rfl, r24_0, r24_1⟩ := r23
  obtain rfl := r24_0
  obtain rfl := r24_1
  refine wl_move rfl rfl (by decide) ?_
  refine wl_pure rfl rfl (v := .slice none 0 0) (by decide) (by kernel_rfl) ?_
  refine wl_pure rfl rfl (v := .int .i64 7) (by decide) (by kernel_rfl) ?_
  refine wl_assign rfl rfl (by decide) ?_
  refine wl_assign rfl rfl (by decide) ?_
  refine wl_nil ?_
  refine eo_then ?_
  refine cw_seq ?_
  refine cw_region ?_
  refine wl_move rfl rfl (by decide) ?_
  refine wl_move rfl rfl (by decide) ?_
  refine wl_call rfl rfl (vs := [.int .u8 ((c : Nat) : Int), .int .i64 ((base : Nat) : Int)]) (by kernel_rfl) (by decide) (g_sign_no hc hbu hok) ?_
  rintro _ v25 ⟨xr27, rfl, r27, e26⟩
  refine ret_intro ?_
  have hw7 : Ext w v25 := hw6.trans e26
  obtain ⟨a28_0, a28_1, rfl, r28_0, r28_1⟩ := r27
  obtain rfl := r28_0
  obtain rfl := r28_1
  refine wl_move rfl rfl (by decide) ?_
  refine wl_pure rfl rfl (v := .int .i64 (sgv c)) (by decide) (by kernel_rfl) ?_
  refine wl_pure rfl rfl (v := .bool false) (by decide) (by kernel_rfl) ?_
  refine wl_assign rfl rfl (by decide) ?_
  refine wl_assign rfl rfl (by decide) ?_
  refine wl_nil ?_
  refine eo_then ?_
  refine cw_seq ?_
  refine cw_seq ?_
  refine cw_region ?_
  refine wl_move rfl rfl (by decide) ?_
  refine wl_cmp rfl rfl rfl false (cb_lt_f (a := base) (b := 2) rfl rfl (by omega)) (by decide) ?_
  refine wl_move rfl rfl (by decide) ?_
  refine wl_move rfl rfl (by decide) ?_
  refine wl_cmp rfl rfl rfl false (cb_gt_f (a := base) (b := 36) rfl rfl (by omega)) (by decide) ?_
  refine wl_pure rfl rfl (v := .bool false) (by decide) (by kernel_rfl) ?_
  refine wl_nil ?_
  refine eo_then ?_
  refine cw_false rfl ?_
  refine cw_skip ?_
  refine eo_then ?_
  refine cw_seq ?_
  refine cw_seq ?_
  refine cw_region ?_
  refine wl_move rfl rfl (by decide) ?_
  refine wl_pure rfl rfl (v := .bool true) (by decide) (by kernel_rfl) ?_
  refine wl_nil ?_
  refine eo_then ?_
  refine cw_true rfl ?_
  refine cw_seq ?_
  refine cw_region ?_
  refine wl_move rfl rfl (by decide) ?_
  refine wl_cmp rfl rfl rfl true (by decide) (by decide) ?_
  refine wl_move rfl rfl (by decide) ?_
  refine wl_move rfl rfl (by decide) ?_
  refine wl_cmp rfl rfl rfl true (by decide) (by decide) ?_
  refine wl_pure rfl rfl (v := .bool true) (by decide) (by kernel_rfl) ?_
  refine wl_assign rfl rfl (by decide) ?_
  refine wl_nil ?_
  refine eo_then ?_
  refine cw_ret ?_
  refine eo_thenR ?_
  refine eo_ret [.bool true] rfl ⟨rfl, trivial⟩ ?_
  exact ⟨_, rfl, rfl, hw7⟩
set_option maxHeartbeats 4000000 in
theorem law_RadixStep_nob {w : World} {bs : List Nat} (hbs : ∀ b, b ∈ bs → b < 256) (hlen : bs.length ≤ 1048576) {c : Nat} (hc : c ≤ 255) (hS : Signs w) {base : Nat} (hbl : 2 ≤ base) (hbu : base ≤ 36) (hg : ¬ Good base bs) (hok : ¬ dv c < base) :
    Calls Tryd.prog 6 #[.string (strB bs), .int .i64 ((base : Nat) : Int), .int .u8 ((c : Nat) : Int)] w (Gv w (Is (.bool true))) := by
  refine sx_enter Tryd.func6 rfl (n := 117) rfl (Nat.le_of_ble_eq_true rfl) (args := [.string (strB bs), .int .i64 ((base : Nat) : Int), .int .u8 ((c : Nat) : Int)]) ?_
  refine cw_keep [(0, .string (strB bs)), (1, .int .i64 ((base : Nat) : Int)), (2, .int .u8 ((c : Nat) : Int))] ⟨rfl, rfl, rfl, trivial⟩ ?_
  refine cw_seq ?_
  refine cw_region ?_
  refine wl_assign rfl rfl (by decide) ?_
  refine wl_nil ?_
  refine eo_then ?_
  refine cw_seq ?_
  refine cw_seq ?_
  refine cw_region ?_
  refine wl_call rfl rfl (vs := []) (by kernel_rfl) (by decide) (g_law4_awake (hS.ext (Ext.refl w))) ?_
  rintro _ v1 ⟨xr3, rfl, r3, e2⟩
  refine ret_intro ?_
  have hw1 : Ext w v1 := (Ext.refl w).trans e2
  obtain rfl := r3
  refine wl_pure rfl rfl (v := .bool false) (by decide) (by kernel_rfl) ?_
  refine wl_nil ?_
  refine eo_then ?_
  refine cw_false rfl ?_
  refine cw_skip ?_
  refine eo_then ?_
  refine cw_seq ?_
  have hbs1 : ∀ b, b ∈ [c] → b < 256 := fun b hb => by rw [List.mem_singleton] at hb; omega
  have hbs2 : ∀ b, b ∈ bs ++ [c] → b < 256 := fun b hb => by rcases List.mem_append.1 hb with h | h; (· exact hbs b h); (· exact hbs1 b h)
  have hg1 : ¬ Good base [c] := fun h => hok (h.2 c (by simp))
  have hg2 : ¬ Good base (bs ++ ([c])) := fun h => hok (h.2 c (by simp))
  refine cw_region ?_
  refine wl_move rfl rfl (by decide) ?_
  refine wl_move rfl rfl (by decide) ?_
  refine wl_call rfl rfl (vs := [.string (strB bs), .int .i64 ((base : Nat) : Int)]) (by kernel_rfl) (by decide) (rx_Read_bad hbl hbu hbs (by omega) hg) ?_
  rintro _ v4 ⟨xr6, rfl, r6, e5⟩
  refine ret_intro ?_
  have hw2 : Ext w v4 := hw1.trans e5
  obtain ⟨a7_0, a7_1, rfl, r7_0, r7_1⟩ := r6
  obtain rfl := r7_0
  obtain rfl := r7_1
  refine wl_move rfl rfl (by decide) ?_
  refine wl_pure rfl rfl (v := .slice none 0 0) (by decide) (by kernel_rfl) ?_
  refine wl_pure rfl rfl (v := .int .i64 7) (by decide) (by kernel_rfl) ?_
  refine wl_assign rfl rfl (by decide) ?_
  refine wl_assign rfl rfl (by decide) ?_
  refine wl_nil ?_
  refine eo_then ?_
  refine cw_seq ?_
  refine cw_region ?_
  refine wl_move rfl rfl (by decide) ?_
  refine wl_move rfl rfl (by decide) ?_
  refine wl_bslice rfl rfl (by decide) (k := 1) (e := 5) [.int .u8 ((c : Nat) : Int)] (fun _ => by kernel_rfl) fun g8 v9 nb => ?_
  have hb10 := nb.bk
  have e11 := nb.ext
  clear nb
  have hw3 : Ext w v9 := hw2.trans e11
  refine wl_toStr (bs := [c]) (lb := 0) rfl rfl (Own.mk_ (Nat.zero_le _) hb10 (Nat.le_refl _) (by rw [len_maxLen]; omega) rfl rfl) (by decide) ?_
  refine wl_op rfl rfl rfl (r := .string (strB (bs ++ ([c])))) rfl (fun w => str_add (a := bs) (b := [c]) (by simp only [List.length_cons, List.length_nil]; omega)) (by decide) ?_
  refine wl_move rfl rfl (by decide) ?_
  refine wl_call rfl rfl (vs := [.string (strB (bs ++ ([c]))), .int .i64 ((base : Nat) : Int)]) (by kernel_rfl) (by decide) (rx_Read_bad hbl hbu hbs2 (by rw [List.length_append]; simp only [List.length_cons, List.length_nil]; omega) hg2) ?_
  rintro _ v12 ⟨xr14, rfl, r14, e13⟩
  refine ret_intro ?_
  have hw4 : Ext w v12 := hw3.trans e13
  obtain ⟨a15_0, a15_1, rfl, r15_0, r15_1⟩ := r14
  obtain rfl := r15_0
  obtain rfl := r15_1
  refine wl_move rfl rfl (by decide) ?_
  refine wl_pure rfl rfl (v := .slice none 0 0) (by decide) (by kernel_rfl) ?_
  refine wl_pure rfl rfl (v := .int .i64 7) (by decide) (by kernel_rfl) ?_
  refine wl_assign rfl rfl (by decide) ?_
  refine wl_assign rfl rfl (by decide) ?_
  refine wl_nil ?_
  refine eo_then ?_
  refine cw_seq ?_
  refine cw_region ?_
  refine wl_move rfl rfl (by decide) ?_
  refine wl_bslice rfl rfl (by decide) (k := 1) (e := 5) [.int .u8 ((c : Nat) : Int)] (fun _ => by kernel_rfl) fun g16 v17 nb => ?_
  have hb18 := nb.bk
  have e19 := nb.ext
  clear nb
  have hw5 : Ext w v17 := hw4.trans e19
  refine wl_toStr (bs := [c]) (lb := 0) rfl rfl (Own.mk_ (Nat.zero_le _) hb18 (Nat.le_refl _) (by rw [len_maxLen]; omega) rfl rfl) (by decide) ?_
  refine wl_move rfl rfl (by decide) ?_
  refine wl_call rfl rfl (vs := [.string (strB ([c])), .int .i64 ((base : Nat) : Int)]) (by kernel_rfl) (by decide) (rx_Read_bad hbl hbu hbs1 (by simp only [List.length_cons, List.length_nil]; omega) hg1) ?_
  rintro _ v20 ⟨xr22, rfl, r22, e21⟩
  refine ret_intro ?_
  have hw6 : Ext w v20 := hw5.trans e21
  obtain ⟨a23_0, a23_1, rfl, r23_0, r23_1⟩ := r22
  obtain rfl := r23_0
  obtain rfl := r23_1
  refine wl_move rfl rfl (by decide) ?_
  refine wl_pure rfl rfl (v := .slice none 0 0) (by decide) (by kernel_rfl) ?_
  refine wl_pure rfl rfl (v := .int .i64 7) (by decide) (by kernel_rfl) ?_
  refine wl_assign rfl rfl (by decide) ?_
  refine wl_assign rfl rfl (by decide) ?_
  refine wl_nil ?_
  refine eo_then ?_
  refine cw_seq ?_
  refine cw_region ?_
  refine wl_move rfl rfl (by decide) ?_
  refine wl_move rfl rfl (by decide) ?_
  refine wl_call rfl rfl (vs := [.int .u8 ((c : Nat) : Int), .int .i64 ((base : Nat) : Int)]) (by kernel_rfl) (by decide) (g_sign_no hc hbu hok) ?_
  rintro _ v24 ⟨xr26, rfl, r26, e25⟩
  refine ret_intro ?_
  have hw7 : Ext w v24 := hw6.trans e25
  obtain ⟨a27_0, a27_1, rfl, r27_0, r27_1⟩ := r26
  obtain rfl := r27_0
  obtain rfl := r27_1
  refine wl_move rfl rfl (by decide) ?_
  refine wl_pure rfl rfl (v := .int .i64 (sgv c)) (by decide) (by kernel_rfl) ?_
  refine wl_pure rfl rfl (v := .bool false) (by decide) (by kernel_rfl) ?_
  refine wl_assign rfl rfl (by decide) ?_
  refine wl_assign rfl rfl (by decide) ?_
  refine wl_nil ?_
  refine eo_then ?_
  refine cw_seq ?_
  refine cw_seq ?_
  refine cw_region ?_
  refine wl_move rfl rfl (by decide) ?_
  refine wl_cmp rfl rfl rfl false (cb_lt_f (a := base) (b := 2) rfl rfl (by omega)) (by decide) ?_
  refine wl_move rfl rfl (by decide) ?_
  refine wl_move rfl rfl (by decide) ?_
  refine wl_cmp rfl rfl rfl false (cb_gt_f (a := base) (b := 36) rfl rfl (by omega)) (by decide) ?_
  refine wl_pure rfl rfl (v := .bool false) (by decide) (by kernel_rfl) ?_
  refine wl_nil ?_
  refine eo_then ?_
  refine cw_false rfl ?_
  refine cw_skip ?_
  refine eo_then ?_
  refine cw_seq ?_
  refine cw_seq ?_
  refine cw_region ?_
  refine wl_move rfl rfl (by decide) ?_
  refine wl_pure rfl rfl (v := .bool true) (by decide) (by kernel_rfl) ?_
  refine wl_nil ?_
  refine eo_then ?_
  refine cw_true rfl ?_
  refine cw_seq ?_
  refine cw_region ?_
  refine wl_move rfl rfl (by decide) ?_
  refine wl_cmp rfl rfl rfl true (by decide) (by decide) ?_
  refine wl_move rfl rfl (by decide) ?_
  refine wl_move rfl rfl (by decide) ?_
  refine wl_cmp rfl rfl rfl true (by decide) (by decide) ?_
  refine wl_pure rfl rfl (v := .bool true) (by decide) (by kernel_rfl) ?_
  refine wl_assign rfl rfl (by decide) ?_
  refine wl_nil ?_
  refine eo_then ?_
  refine cw_ret ?_
  refine eo_thenR ?_
  refine eo_ret [.bool true] rfl ⟨rfl, trivial⟩ ?_
  exact ⟨_, rfl, rfl, hw7⟩
set_option maxHeartbeats 4000000 in
theorem law_RadixStep_yes {w : World} {bs : List Nat} (hbs : ∀ b, b ∈ bs → b < 256) (hlen : bs.length ≤ 1048576) {c : Nat} (hc : c ≤ 255) (hS : Signs w) {base : Nat} (hbl : 2 ≤ base) (hbu : base ≤ 36) (hg : Good base bs) (hok : dv c < base) :
    Calls Tryd.prog 6 #[.string (strB bs), .int .i64 ((base : Nat) : Int), .int .u8 ((c : Nat) : Int)] w (Gv w (Is (.bool true))) := by
  refine sx_enter Tryd.func6 rfl (n := 117) rfl (Nat.le_of_ble_eq_true rfl) (args := [.string (strB bs), .int .i64 ((base : Nat) : Int), .int .u8 ((c : Nat) : Int)]) ?_
  refine cw_keep [(0, .string (strB bs)), (1, .int .i64 ((base : Nat) : Int)), (2, .int .u8 ((c : Nat) : Int))] ⟨rfl, rfl, rfl, trivial⟩ ?_
  refine cw_seq ?_
  refine cw_region ?_
  refine wl_assign rfl rfl (by decide) ?_
  refine wl_nil ?_
  refine eo_then ?_
  refine cw_seq ?_
  refine cw_seq ?_
  refine cw_region ?_
  refine wl_call rfl rfl (vs := []) (by kernel_rfl) (by decide) (g_law4_awake (hS.ext (Ext.refl w))) ?_
  rintro _ v1 ⟨xr3, rfl, r3, e2⟩
  refine ret_intro ?_
  have hw1 : Ext w v1 := (Ext.refl w).trans e2
  obtain rfl := r3
  refine wl_pure rfl rfl (v := .bool false) (by decide) (by kernel_rfl) ?_
  refine wl_nil ?_
  refine eo_then ?_
  refine cw_false rfl ?_
  refine cw_skip ?_
  refine eo_then ?_
  refine cw_seq ?_
  have hbs1 : ∀ b, b ∈ [c] → b < 256 := fun b hb => by rw [List.mem_singleton] at hb; omega
  have hbs2 : ∀ b, b ∈ bs ++ [c] → b < 256 := fun b hb => by rcases List.mem_append.1 hb with h | h; (· exact hbs b h); (· exact hbs1 b h)
  have hg1 : Good base [c] := ⟨by simp, fun d hd => by rw [List.mem_singleton.1 hd]; exact hok⟩
  have hav : (wd (vald base (bs.map dv))).length ≤ 1048576 := (Nat.le_trans (len_wd_dv hbl hbu hg.2) hlen)
  have hcv : (wd (dv c)).length ≤ 1 := by exact len_wd_w64 (by have := dv_le c; omega)
  have hg2 : Good base (bs ++ ([c])) := ⟨by simp, fun d hd => by rcases List.mem_append.1 hd with h | h; (· exact hg.2 d h); (· rw [List.mem_singleton.1 h]; exact hok)⟩
  have hbv : (wd (vald base (bs.map dv) * base + dv c)).length ≤ 1048577 := by have h := len_wd_dv hbl hbu hg2.2; rw [List.map_append, List.map_cons, List.map_nil, vald_snoc, List.length_append] at h; simp only [List.length_cons, List.length_nil] at h; omega
  refine cw_region ?_
  refine wl_move rfl rfl (by decide) ?_
  refine wl_move rfl rfl (by decide) ?_
  refine wl_call rfl rfl (vs := [.string (strB bs), .int .i64 ((base : Nat) : Int)]) (by kernel_rfl) (by decide) (rx_Read_good hw1.size hbl hbu hbs (by omega) hg) ?_
  rintro _ v4 ⟨xr6, rfl, r6, e5⟩
  refine ret_intro ?_
  have hw2 : Ext w v4 := hw1.trans e5
  obtain ⟨a7_0, a7_1, rfl, r7_0, r7_1⟩ := r6
  obtain ⟨A8, n8, c8, rfl, j8, o8⟩ := r7_0
  obtain rfl := r7_1
  refine wl_move rfl rfl (by decide) ?_
  refine wl_pure rfl rfl (v := .slice A8 n8 c8) (by decide) (by kernel_rfl) ?_
  refine wl_pure rfl rfl (v := .int .i64 0) (by decide) (by kernel_rfl) ?_
  refine wl_assign rfl rfl (by decide) ?_
  refine wl_assign rfl rfl (by decide) ?_
  refine wl_nil ?_
  refine eo_then ?_
  refine cw_seq ?_
  refine cw_region ?_
  refine wl_move rfl rfl (by decide) ?_
  refine wl_move rfl rfl (by decide) ?_
  refine wl_bslice rfl rfl (by decide) (k := 1) (e := 5) [.int .u8 ((c : Nat) : Int)] (fun _ => by kernel_rfl) fun g9 v10 nb => ?_
  have hb11 := nb.bk
  have e12 := nb.ext
  clear nb
  have hw3 : Ext w v10 := hw2.trans e12
  refine wl_toStr (bs := [c]) (lb := 0) rfl rfl (Own.mk_ (Nat.zero_le _) hb11 (Nat.le_refl _) (by rw [len_maxLen]; omega) rfl rfl) (by decide) ?_
  refine wl_op rfl rfl rfl (r := .string (strB (bs ++ ([c])))) rfl (fun w => str_add (a := bs) (b := [c]) (by simp only [List.length_cons, List.length_nil]; omega)) (by decide) ?_
  refine wl_move rfl rfl (by decide) ?_
  refine wl_call rfl rfl (vs := [.string (strB (bs ++ ([c]))), .int .i64 ((base : Nat) : Int)]) (by kernel_rfl) (by decide) (by have h := (rx_Read_good hw3.size hbl hbu hbs2 (by rw [List.length_append]; simp only [List.length_cons, List.length_nil]; omega) hg2); rw [List.map_append, List.map_cons, List.map_nil, vald_snoc] at h; exact h) ?_
  rintro _ v13 ⟨xr15, rfl, r15, e14⟩
  refine ret_intro ?_
  have hw4 : Ext w v13 := hw3.trans e14
  obtain ⟨a16_0, a16_1, rfl, r16_0, r16_1⟩ := r15
  obtain ⟨A17, n17, c17, rfl, j17, o17⟩ := r16_0
  obtain rfl := r16_1
  refine wl_move rfl rfl (by decide) ?_
  refine wl_pure rfl rfl (v := .slice A17 n17 c17) (by decide) (by kernel_rfl) ?_
  refine wl_pure rfl rfl (v := .int .i64 0) (by decide) (by kernel_rfl) ?_
  refine wl_assign rfl rfl (by decide) ?_
  refine wl_assign rfl rfl (by decide) ?_
  refine wl_nil ?_
  refine eo_then ?_
  refine cw_seq ?_
  refine cw_region ?_
  refine wl_move rfl rfl (by decide) ?_
  refine wl_bslice rfl rfl (by decide) (k := 1) (e := 5) [.int .u8 ((c : Nat) : Int)] (fun _ => by kernel_rfl) fun g18 v19 nb => ?_
  have hb20 := nb.bk
  have e21 := nb.ext
  clear nb
  have hw5 : Ext w v19 := hw4.trans e21
  refine wl_toStr (bs := [c]) (lb := 0) rfl rfl (Own.mk_ (Nat.zero_le _) hb20 (Nat.le_refl _) (by rw [len_maxLen]; omega) rfl rfl) (by decide) ?_
  refine wl_move rfl rfl (by decide) ?_
  refine wl_call rfl rfl (vs := [.string (strB ([c])), .int .i64 ((base : Nat) : Int)]) (by kernel_rfl) (by decide) (by have h := (rx_Read_good hw5.size hbl hbu hbs1 (by simp only [List.length_cons, List.length_nil]; omega) hg1); rw [show vald base ([c].map dv) = dv c by simp [vald]] at h; exact h) ?_
  rintro _ v22 ⟨xr24, rfl, r24, e23⟩
  refine ret_intro ?_
  have hw6 : Ext w v22 := hw5.trans e23
  obtain ⟨a25_0, a25_1, rfl, r25_0, r25_1⟩ := r24
  obtain ⟨A26, n26, c26, rfl, j26, o26⟩ := r25_0
  obtain rfl := r25_1
  refine wl_move rfl rfl (by decide) ?_
  refine wl_pure rfl rfl (v := .slice A26 n26 c26) (by decide) (by kernel_rfl) ?_
  refine wl_pure rfl rfl (v := .int .i64 0) (by decide) (by kernel_rfl) ?_
  refine wl_assign rfl rfl (by decide) ?_
  refine wl_assign rfl rfl (by decide) ?_
  refine wl_nil ?_
  refine eo_then ?_
  refine cw_seq ?_
  refine cw_region ?_
  refine wl_move rfl rfl (by decide) ?_
  refine wl_move rfl rfl (by decide) ?_
  refine wl_call rfl rfl (vs := [.int .u8 ((c : Nat) : Int), .int .i64 ((base : Nat) : Int)]) (by kernel_rfl) (by decide) (g_sign_ok hc hbu hok) ?_
  rintro _ v27 ⟨xr29, rfl, r29, e28⟩
  refine ret_intro ?_
  have hw7 : Ext w v27 := hw6.trans e28
  obtain ⟨a30_0, a30_1, rfl, r30_0, r30_1⟩ := r29
  obtain rfl := r30_0
  obtain rfl := r30_1
  refine wl_move rfl rfl (by decide) ?_
  refine wl_pure rfl rfl (v := .int .i64 ((dv c : Nat) : Int)) (by decide) (by kernel_rfl) ?_
  refine wl_pure rfl rfl (v := .bool true) (by decide) (by kernel_rfl) ?_
  refine wl_assign rfl rfl (by decide) ?_
  refine wl_assign rfl rfl (by decide) ?_
  refine wl_nil ?_
  refine eo_then ?_
  refine cw_seq ?_
  refine cw_seq ?_
  refine cw_region ?_
  refine wl_move rfl rfl (by decide) ?_
  refine wl_cmp rfl rfl rfl false (cb_lt_f (a := base) (b := 2) rfl rfl (by omega)) (by decide) ?_
  refine wl_move rfl rfl (by decide) ?_
  refine wl_move rfl rfl (by decide) ?_
  refine wl_cmp rfl rfl rfl false (cb_gt_f (a := base) (b := 36) rfl rfl (by omega)) (by decide) ?_
  refine wl_pure rfl rfl (v := .bool false) (by decide) (by kernel_rfl) ?_
  refine wl_nil ?_
  refine eo_then ?_
  refine cw_false rfl ?_
  refine cw_skip ?_
  refine eo_then ?_
  refine cw_seq ?_
  refine cw_seq ?_
  refine cw_region ?_
  refine wl_move rfl rfl (by decide) ?_
  refine wl_pure rfl rfl (v := .bool false) (by decide) (by kernel_rfl) ?_
  refine wl_nil ?_
  refine eo_then ?_
  refine cw_false rfl ?_
  refine cw_skip ?_
  refine eo_then ?_
  refine cw_seq ?_
  refine cw_seq ?_
  refine cw_region ?_
  refine wl_move rfl rfl (by decide) ?_
  refine wl_cmp rfl rfl rfl false (by decide) (by decide) ?_
  refine wl_move rfl rfl (by decide) ?_
  refine wl_move rfl rfl (by decide) ?_
  refine wl_move rfl rfl (by decide) ?_
  refine wl_pureE rfl rfl (v := .int .u64 (IntKind.u64.wrap ((dv c : Nat) : Int))) (v' := .int .u64 ((dv c : Nat) : Int)) (by decide) (by kernel_rfl) (cv_u64 (by first | omega | exact hle64)) ?_
  refine wl_bslice rfl rfl (by decide) (k := 1) (e := 48) [.int .u64 ((dv c : Nat) : Int)] (fun _ => by kernel_rfl) fun g31 v32 nb33 => ?_
  have o34 := O1.mk_ (x := dv c) (b := w.heap.size) nb33 hw7.size
  have e35 := nb33.ext
  have hw8 : Ext w v32 := hw7.trans e35
  refine wl_call rfl rfl (vs := [.slice (some ⟨g31, 0, none⟩) 1 1]) (by kernel_rfl) (by decide) (rx_LeastW hw8.size (own1_wi o34 (show dv c ≤ 18446744073709551615 by have := dv_le c; omega)) (by decide)) ?_
  rintro _ v38 ⟨xr40, rfl, r40, e39⟩
  refine ret_intro ?_
  have hw9 : Ext w v38 := hw8.trans e39
  obtain ⟨A41, n41, c41, rfl, j41, o41⟩ := r40
  refine wl_call rfl rfl (vs := [.slice A26 n26 c26, .slice A41 n41 c41]) (by kernel_rfl) (by decide) (g_same4 (o26.ext (e28.trans (e35.trans e39))) (by omega) o41 (by omega)) ?_
  rintro _ v42 ⟨xr44, rfl, r44, e43⟩
  refine ret_intro ?_
  have hw10 : Ext w v42 := hw9.trans e43
  obtain rfl := r44
  refine wl_pure rfl rfl (v := .bool false) (by decide) (by kernel_rfl) ?_
  refine wl_pure rfl rfl (v := .bool false) (by decide) (by kernel_rfl) ?_
  refine wl_move rfl rfl (by decide) ?_
  refine wl_move rfl rfl (by decide) ?_
  refine wl_cmp rfl rfl rfl true (by decide) (by decide) ?_
  refine wl_move rfl rfl (by decide) ?_
  refine wl_cmp rfl rfl rfl true (by decide) (by decide) ?_
  refine wl_move rfl rfl (by decide) ?_
  refine wl_move rfl rfl (by decide) ?_
  refine wl_streq (a := bs) (b := []) rfl rfl rfl hbs (by decide) true (strE_neq_f (hg.1)) (by decide) ?_
  refine wl_pure rfl rfl (v := .bool true) (by decide) (by kernel_rfl) ?_
  refine wl_pure rfl rfl (v := .bool false) (by decide) (by kernel_rfl) ?_
  refine wl_pure rfl rfl (v := .bool false) (by decide) (by kernel_rfl) ?_
  refine wl_nil ?_
  refine eo_then ?_
  refine cw_false rfl ?_
  refine cw_skip ?_
  refine eo_then ?_
  refine cw_seq ?_
  refine cw_seq ?_
  refine cw_region ?_
  refine wl_move rfl rfl (by decide) ?_
  refine wl_cmp rfl rfl rfl false (by decide) (by decide) ?_
  refine wl_nil ?_
  refine eo_then ?_
  refine cw_false rfl ?_
  refine cw_skip ?_
  refine eo_then ?_
  refine cw_seq ?_
  refine cw_seq ?_
  refine cw_region ?_
  refine wl_move rfl rfl (by decide) ?_
  refine wl_move rfl rfl (by decide) ?_
  refine wl_move rfl rfl (by decide) ?_
  refine wl_pureE rfl rfl (v := .int .u64 (IntKind.u64.wrap ((base : Nat) : Int))) (v' := .int .u64 ((base : Nat) : Int)) (by decide) (by kernel_rfl) (cv_u64 (by first | omega | exact hle64)) ?_
  refine wl_bslice rfl rfl (by decide) (k := 1) (e := 48) [.int .u64 ((base : Nat) : Int)] (fun _ => by kernel_rfl) fun g45 v46 nb47 => ?_
  have o48 := O1.mk_ (x := base) (b := w.heap.size) nb47 hw10.size
  have e49 := nb47.ext
  have hw11 : Ext w v46 := hw10.trans e49
  have o51 := own1_wd o48 (show base ≤ 18446744073709551615 by omega) (show base ≠ 0 by omega)
  have j50 := len1 (show base ≤ 18446744073709551615 by omega) (show base ≠ 0 by omega)
  refine wl_move rfl rfl (by decide) ?_
  refine wl_call rfl rfl (vs := [.slice A8 n8 c8, .slice (some ⟨g45, 0, none⟩) 1 1, .slice A26 n26 c26]) (by kernel_rfl) (by decide) (rx_MulAdd hw11.size (o8.ext (e12.trans (e14.trans (e21.trans (e23.trans (e28.trans (e35.trans (e39.trans (e43.trans e49))))))))).wi o51.wi (o26.ext (e28.trans (e35.trans (e39.trans (e43.trans e49))))).wi (by omega) (by omega)) ?_
  rintro _ v52 ⟨xr54, rfl, r54, e53⟩
  refine ret_intro ?_
  have hw12 : Ext w v52 := hw11.trans e53
  obtain ⟨A55, n55, c55, rfl, j55, o55⟩ := r54
  refine wl_call rfl rfl (vs := [.slice A17 n17 c17, .slice A55 n55 c55]) (by kernel_rfl) (by decide) (g_same4 (o17.ext (e21.trans (e23.trans (e28.trans (e35.trans (e39.trans (e43.trans (e49.trans e53)))))))) (by omega) o55 (by omega)) ?_
  rintro _ v56 ⟨xr58, rfl, r58, e57⟩
  refine ret_intro ?_
  have hw13 : Ext w v56 := hw12.trans e57
  obtain rfl := r58
  refine wl_pure rfl rfl (v := .bool false) (by decide) (by kernel_rfl) ?_
  refine wl_nil ?_
  refine eo_then ?_
  refine cw_false rfl ?_
  refine cw_skip ?_
  refine eo_then ?_
  refine cw_seq ?_
  refine cw_seq ?_
  by_cases hten : base ≠ 10
  ·
    refine cw_region ?_
    refine wl_move rfl rfl (by decide) ?_
    refine wl_cmp rfl rfl rfl true (cb_ne_t (a := base) (b := 10) rfl rfl (by omega)) (by decide) ?_
    refine wl_nil ?_
    refine eo_then ?_
    refine cw_true rfl ?_
    refine cw_seq ?_
    refine cw_region ?_
    refine wl_assign rfl rfl (by decide) ?_
    refine wl_nil ?_
    refine eo_then ?_
    refine cw_ret ?_
    refine eo_thenR ?_
    refine eo_ret [.bool true] rfl ⟨rfl, trivial⟩ ?_
    exact ⟨_, rfl, rfl, hw13⟩
  ·
    refine cw_region ?_
    refine wl_move rfl rfl (by decide) ?_
    refine wl_cmp rfl rfl rfl false (cb_ne_f (a := base) (b := 10) rfl rfl (by omega)) (by decide) ?_
    refine wl_nil ?_
    refine eo_then ?_
    refine cw_false rfl ?_
    refine cw_skip ?_
    refine eo_then ?_
    refine cw_seq ?_
    refine cw_region ?_
    refine wl_assign rfl rfl (by decide) ?_
    refine wl_nil ?_
    refine eo_then ?_
    refine cw_seq ?_
    refine cw_seq ?_
    have hb10 : base = 10 := by omega
    by_cases hzz : n8 > 0
    ·
      have hv0 : vald base (bs.map dv) ≠ 0 := fun e => by have h := j8; rw [e] at h; rw [h] at hzz; exact absurd hzz (by decide)
      refine cw_region ?_
      refine wl_move rfl rfl (by decide) ?_
      refine wl_pure rfl rfl (v := .int .i64 ((n8 : Nat) : Int)) (by decide) (by kernel_rfl) ?_
      refine wl_cmp rfl rfl rfl true (cb_gt_t (a := n8) (b := 0) rfl rfl (by omega)) (by decide) ?_
      refine wl_nil ?_
      refine eo_then ?_
      refine cw_true rfl ?_
      refine cw_region ?_
      refine wl_assign rfl rfl (by decide) ?_
      refine wl_nil ?_
      refine eo_then ?_
      refine cw_seq ?_
      have hmore := txtN_more (v := vald base (bs.map dv)) (d := dv c) (by omega)
      rw [if_neg hv0, ← hb10] at hmore
      rw [hb10] at hmore
      have htl : (txtN 10 (vald base (bs.map dv))).length ≤ 67108865 := by have := txtN_len (b := 10) (by decide) hav; omega
      have hmore2 : (txtN 10 (vald base (bs.map dv) * base + dv c)).length = (txtN 10 (vald base (bs.map dv))).length + 1 := by simp only [hb10]; exact hmore
      refine cw_region ?_
      refine wl_move rfl rfl (by decide) ?_
      refine wl_call rfl rfl (vs := [.slice A17 n17 c17]) (by kernel_rfl) (by decide) (rx_Digits (hS.ext hw13) (o17.ext (e21.trans (e23.trans (e28.trans (e35.trans (e39.trans (e43.trans (e49.trans (e53.trans e57))))))))).wi (by omega)) ?_
      rintro _ v59 ⟨xr61, rfl, r61, e60⟩
      refine ret_intro ?_
      have hw14 : Ext w v59 := hw13.trans e60
      obtain rfl := r61
      refine wl_move rfl rfl (by decide) ?_
      refine wl_call rfl rfl (vs := [.slice A8 n8 c8]) (by kernel_rfl) (by decide) (rx_Digits (hS.ext hw14) (o8.ext (e12.trans (e14.trans (e21.trans (e23.trans (e28.trans (e35.trans (e39.trans (e43.trans (e49.trans (e53.trans (e57.trans e60)))))))))))).wi (by omega)) ?_
      rintro _ v62 ⟨xr64, rfl, r64, e63⟩
      refine ret_intro ?_
      have hw15 : Ext w v62 := hw14.trans e63
      obtain rfl := r64
      refine wl_move rfl rfl (by decide) ?_
      refine wl_ar rfl rfl rfl ((((txtN 10 (vald base (bs.map dv))).length) + 1 : Nat) : Int) (ai_add (a := (txtN 10 (vald base (bs.map dv))).length) (b := 1) rfl rfl (by omega)) (by decide) ?_
      refine wl_cmp rfl rfl rfl true (cb_eq_t (a := (txtN 10 (vald base (bs.map dv) * base + dv c)).length) (b := ((txtN 10 (vald base (bs.map dv))).length) + 1) rfl rfl (by omega)) (by decide) ?_
      refine wl_assign rfl rfl (by decide) ?_
      refine wl_nil ?_
      refine eo_then ?_
      refine cw_ret ?_
      refine eo_ret [.bool true] rfl ⟨rfl, trivial⟩ ?_
      exact ⟨_, rfl, rfl, hw15⟩
    ·
      have hv0 : vald base (bs.map dv) = 0 := len_wd_zero.1 (by have h := j8; omega)
      refine cw_region ?_
      refine wl_move rfl rfl (by decide) ?_
      refine wl_pure rfl rfl (v := .int .i64 ((n8 : Nat) : Int)) (by decide) (by kernel_rfl) ?_
      refine wl_cmp rfl rfl rfl false (cb_gt_f (a := n8) (b := 0) rfl rfl (by omega)) (by decide) ?_
      refine wl_nil ?_
      refine eo_then ?_
      refine cw_false rfl ?_
      refine cw_skip ?_
      refine eo_then ?_
      refine cw_seq ?_
      have hmore := txtN_more (v := vald base (bs.map dv)) (d := dv c) (by omega)
      rw [if_pos hv0, ← hb10] at hmore
      rw [hb10] at hmore
      have htl : (txtN 10 (vald base (bs.map dv))).length ≤ 67108865 := by have := txtN_len (b := 10) (by decide) hav; omega
      have hmore2 : (txtN 10 (vald base (bs.map dv) * base + dv c)).length = (txtN 10 (vald base (bs.map dv))).length + 0 := by simp only [hb10]; exact hmore
      refine cw_region ?_
      refine wl_move rfl rfl (by decide) ?_
      refine wl_call rfl rfl (vs := [.slice A17 n17 c17]) (by kernel_rfl) (by decide) (rx_Digits (hS.ext hw13) (o17.ext (e21.trans (e23.trans (e28.trans (e35.trans (e39.trans (e43.trans (e49.trans (e53.trans e57))))))))).wi (by omega)) ?_
      rintro _ v65 ⟨xr67, rfl, r67, e66⟩
      refine ret_intro ?_
      have hw14 : Ext w v65 := hw13.trans e66
      obtain rfl := r67
      refine wl_move rfl rfl (by decide) ?_
      refine wl_call rfl rfl (vs := [.slice A8 n8 c8]) (by kernel_rfl) (by decide) (rx_Digits (hS.ext hw14) (o8.ext (e12.trans (e14.trans (e21.trans (e23.trans (e28.trans (e35.trans (e39.trans (e43.trans (e49.trans (e53.trans (e57.trans e66)))))))))))).wi (by omega)) ?_
      rintro _ v68 ⟨xr70, rfl, r70, e69⟩
      refine ret_intro ?_
      have hw15 : Ext w v68 := hw14.trans e69
      obtain rfl := r70
      refine wl_move rfl rfl (by decide) ?_
      refine wl_ar rfl rfl rfl ((((txtN 10 (vald base (bs.map dv))).length) + 0 : Nat) : Int) (ai_add (a := (txtN 10 (vald base (bs.map dv))).length) (b := 0) rfl rfl (by omega)) (by decide) ?_
      refine wl_cmp rfl rfl rfl true (cb_eq_t (a := (txtN 10 (vald base (bs.map dv) * base + dv c)).length) (b := ((txtN 10 (vald base (bs.map dv))).length) + 0) rfl rfl (by omega)) (by decide) ?_
      refine wl_assign rfl rfl (by decide) ?_
      refine wl_nil ?_
      refine eo_then ?_
      refine cw_ret ?_
      refine eo_ret [.bool true] rfl ⟨rfl, trivial⟩ ?_
      exact ⟨_, rfl, rfl, hw15⟩
set_option maxHeartbeats 4000000 in
theorem law_RadixStep_non {w : World} {bs : List Nat} (hbs : ∀ b, b ∈ bs → b < 256) (hlen : bs.length ≤ 1048576) {c : Nat} (hc : c ≤ 255) (hS : Signs w) {base : Nat} (hbl : 2 ≤ base) (hbu : base ≤ 36) (hg : ¬ Good base bs) (hok : dv c < base) (hne : bs ≠ []) :
    Calls Tryd.prog 6 #[.string (strB bs), .int .i64 ((base : Nat) : Int), .int .u8 ((c : Nat) : Int)] w (Gv w (Is (.bool true))) := by
  refine sx_enter Tryd.func6 rfl (n := 117) rfl (Nat.le_of_ble_eq_true rfl) (args := [.string (strB bs), .int .i64 ((base : Nat) : Int), .int .u8 ((c : Nat) : Int)]) ?_
  refine cw_keep [(0, .string (strB bs)), (1, .int .i64 ((base : Nat) : Int)), (2, .int .u8 ((c : Nat) : Int))] ⟨rfl, rfl, rfl, trivial⟩ ?_
  refine cw_seq ?_
  refine cw_region ?_
  refine wl_assign rfl rfl (by decide) ?_
  refine wl_nil ?_
  refine eo_then ?_
  refine cw_seq ?_
  refine cw_seq ?_
  refine cw_region ?_
  refine wl_call rfl rfl (vs := []) (by kernel_rfl) (by decide) (g_law4_awake (hS.ext (Ext.refl w))) ?_
  rintro _ v1 ⟨xr3, rfl, r3, e2⟩
  refine ret_intro ?_
  have hw1 : Ext w v1 := (Ext.refl w).trans e2
  obtain rfl := r3
  refine wl_pure rfl rfl (v := .bool false) (by decide) (by kernel_rfl) ?_
  refine wl_nil ?_
  refine eo_then ?_
  refine cw_false rfl ?_
  refine cw_skip ?_
  refine eo_then ?_
  refine cw_seq ?_
  have hbs1 : ∀ b, b ∈ [c] → b < 256 := fun b hb => by rw [List.mem_singleton] at hb; omega
  have hbs2 : ∀ b, b ∈ bs ++ [c] → b < 256 := fun b hb => by rcases List.mem_append.1 hb with h | h; (· exact hbs b h); (· exact hbs1 b h)
  have hg1 : Good base [c] := ⟨by simp, fun d hd => by rw [List.mem_singleton.1 hd]; exact hok⟩
  have hcv : (wd (dv c)).length ≤ 1 := by exact len_wd_w64 (by have := dv_le c; omega)
  have hg2 : ¬ Good base (bs ++ ([c])) := fun h => hg ⟨hne, fun d hd => h.2 d (List.mem_append_left _ hd)⟩
  refine cw_region ?_
  refine wl_move rfl rfl (by decide) ?_
  refine wl_move rfl rfl (by decide) ?_
  refine wl_call rfl rfl (vs := [.string (strB bs), .int .i64 ((base : Nat) : Int)]) (by kernel_rfl) (by decide) (rx_Read_bad hbl hbu hbs (by omega) hg) ?_
  rintro _ v4 ⟨xr6, rfl, r6, e5⟩
  refine ret_intro ?_
  have hw2 : Ext w v4 := hw1.trans e5
  obtain ⟨a7_0, a7_1, rfl, r7_0, r7_1⟩ := r6
  obtain rfl := r7_0
  obtain rfl := r7_1
  refine wl_move rfl rfl (by decide) ?_
  refine wl_pure rfl rfl (v := .slice none 0 0) (by decide) (by kernel_rfl) ?_
  refine wl_pure rfl rfl (v := .int .i64 7) (by decide) (by kernel_rfl) ?_
  refine wl_assign rfl rfl (by decide) ?_
  refine wl_assign rfl rfl (by decide) ?_
  refine wl_nil ?_
  refine eo_then ?_
  refine cw_seq ?_
  refine cw_region ?_
  refine wl_move rfl rfl (by decide) ?_
  refine wl_move rfl rfl (by decide) ?_
  refine wl_bslice rfl rfl (by decide) (k := 1) (e := 5) [.int .u8 ((c : Nat) : Int)] (fun _ => by kernel_rfl) fun g8 v9 nb => ?_
  have hb10 := nb.bk
  have e11 := nb.ext
  clear nb
  have hw3 : Ext w v9 := hw2.trans e11
  refine wl_toStr (bs := [c]) (lb := 0) rfl rfl (Own.mk_ (Nat.zero_le _) hb10 (Nat.le_refl _) (by rw [len_maxLen]; omega) rfl rfl) (by decide) ?_
  refine wl_op rfl rfl rfl (r := .string (strB (bs ++ ([c])))) rfl (fun w => str_add (a := bs) (b := [c]) (by simp only [List.length_cons, List.length_nil]; omega)) (by decide) ?_
  refine wl_move rfl rfl (by decide) ?_
  refine wl_call rfl rfl (vs := [.string (strB (bs ++ ([c]))), .int .i64 ((base : Nat) : Int)]) (by kernel_rfl) (by decide) (rx_Read_bad hbl hbu hbs2 (by rw [List.length_append]; simp only [List.length_cons, List.length_nil]; omega) hg2) ?_
  rintro _ v12 ⟨xr14, rfl, r14, e13⟩
  refine ret_intro ?_
  have hw4 : Ext w v12 := hw3.trans e13
  obtain ⟨a15_0, a15_1, rfl, r15_0, r15_1⟩ := r14
  obtain rfl := r15_0
  obtain rfl := r15_1
  refine wl_move rfl rfl (by decide) ?_
  refine wl_pure rfl rfl (v := .slice none 0 0) (by decide) (by kernel_rfl) ?_
  refine wl_pure rfl rfl (v := .int .i64 7) (by decide) (by kernel_rfl) ?_
  refine wl_assign rfl rfl (by decide) ?_
  refine wl_assign rfl rfl (by decide) ?_
  refine wl_nil ?_
  refine eo_then ?_
  refine cw_seq ?_
  refine cw_region ?_
  refine wl_move rfl rfl (by decide) ?_
  refine wl_bslice rfl rfl (by decide) (k := 1) (e := 5) [.int .u8 ((c : Nat) : Int)] (fun _ => by kernel_rfl) fun g16 v17 nb => ?_
  have hb18 := nb.bk
  have e19 := nb.ext
  clear nb
  have hw5 : Ext w v17 := hw4.trans e19
  refine wl_toStr (bs := [c]) (lb := 0) rfl rfl (Own.mk_ (Nat.zero_le _) hb18 (Nat.le_refl _) (by rw [len_maxLen]; omega) rfl rfl) (by decide) ?_
  refine wl_move rfl rfl (by decide) ?_
  refine wl_call rfl rfl (vs := [.string (strB ([c])), .int .i64 ((base : Nat) : Int)]) (by kernel_rfl) (by decide) (by have h := (rx_Read_good hw5.size hbl hbu hbs1 (by simp only [List.length_cons, List.length_nil]; omega) hg1); rw [show vald base ([c].map dv) = dv c by simp [vald]] at h; exact h) ?_
  rintro _ v20 ⟨xr22, rfl, r22, e21⟩
  refine ret_intro ?_
  have hw6 : Ext w v20 := hw5.trans e21
  obtain ⟨a23_0, a23_1, rfl, r23_0, r23_1⟩ := r22
  obtain ⟨A24, n24, c24, rfl, j24, o24⟩ := r23_0
  obtain rfl := r23_1
  refine wl_move rfl rfl (by decide) ?_
  refine wl_pure rfl rfl (v := .slice A24 n24 c24) (by decide) (by kernel_rfl) ?_
  refine wl_pure rfl rfl (v := .int .i64 0) (by decide) (by kernel_rfl) ?_
  refine wl_assign rfl rfl (by decide) ?_
  refine wl_assign rfl rfl (by decide) ?_
  refine wl_nil ?_
  refine eo_then ?_
  refine cw_seq ?_
  refine cw_region ?_
  refine wl_move rfl rfl (by decide) ?_
  refine wl_move rfl rfl (by decide) ?_
  refine wl_call rfl rfl (vs := [.int .u8 ((c : Nat) : Int), .int .i64 ((base : Nat) : Int)]) (by kernel_rfl) (by decide) (g_sign_ok hc hbu hok) ?_
  rintro _ v25 ⟨xr27, rfl, r27, e26⟩
  refine ret_intro ?_
  have hw7 : Ext w v25 := hw6.trans e26
  obtain ⟨a28_0, a28_1, rfl, r28_0, r28_1⟩ := r27
  obtain rfl := r28_0
  obtain rfl := r28_1
  refine wl_move rfl rfl (by decide) ?_
  refine wl_pure rfl rfl (v := .int .i64 ((dv c : Nat) : Int)) (by decide) (by kernel_rfl) ?_
  refine wl_pure rfl rfl (v := .bool true) (by decide) (by kernel_rfl) ?_
  refine wl_assign rfl rfl (by decide) ?_
  refine wl_assign rfl rfl (by decide) ?_
  refine wl_nil ?_
  refine eo_then ?_
  refine cw_seq ?_
  refine cw_seq ?_
  refine cw_region ?_
  refine wl_move rfl rfl (by decide) ?_
  refine wl_cmp rfl rfl rfl false (cb_lt_f (a := base) (b := 2) rfl rfl (by omega)) (by decide) ?_
  refine wl_move rfl rfl (by decide) ?_
  refine wl_move rfl rfl (by decide) ?_
  refine wl_cmp rfl rfl rfl false (cb_gt_f (a := base) (b := 36) rfl rfl (by omega)) (by decide) ?_
  refine wl_pure rfl rfl (v := .bool false) (by decide) (by kernel_rfl) ?_
  refine wl_nil ?_
  refine eo_then ?_
  refine cw_false rfl ?_
  refine cw_skip ?_
  refine eo_then ?_
  refine cw_seq ?_
  refine cw_seq ?_
  refine cw_region ?_
  refine wl_move rfl rfl (by decide) ?_
  refine wl_pure rfl rfl (v := .bool false) (by decide) (by kernel_rfl) ?_
  refine wl_nil ?_
  refine eo_then ?_
  refine cw_false rfl ?_
  refine cw_skip ?_
  refine eo_then ?_
  refine cw_seq ?_
  refine cw_seq ?_
  refine cw_region ?_
  refine wl_move rfl rfl (by decide) ?_
  refine wl_cmp rfl rfl rfl false (by decide) (by decide) ?_
  refine wl_move rfl rfl (by decide) ?_
  refine wl_move rfl rfl (by decide) ?_
  refine wl_move rfl rfl (by decide) ?_
  refine wl_pureE rfl rfl (v := .int .u64 (IntKind.u64.wrap ((dv c : Nat) : Int))) (v' := .int .u64 ((dv c : Nat) : Int)) (by decide) (by kernel_rfl) (cv_u64 (by first | omega | exact hle64)) ?_
  refine wl_bslice rfl rfl (by decide) (k := 1) (e := 48) [.int .u64 ((dv c : Nat) : Int)] (fun _ => by kernel_rfl) fun g29 v30 nb31 => ?_
  have o32 := O1.mk_ (x := dv c) (b := w.heap.size) nb31 hw7.size
  have e33 := nb31.ext
  have hw8 : Ext w v30 := hw7.trans e33
  refine wl_call rfl rfl (vs := [.slice (some ⟨g29, 0, none⟩) 1 1]) (by kernel_rfl) (by decide) (rx_LeastW hw8.size (own1_wi o32 (show dv c ≤ 18446744073709551615 by have := dv_le c; omega)) (by decide)) ?_
  rintro _ v36 ⟨xr38, rfl, r38, e37⟩
  refine ret_intro ?_
  have hw9 : Ext w v36 := hw8.trans e37
  obtain ⟨A39, n39, c39, rfl, j39, o39⟩ := r38
  refine wl_call rfl rfl (vs := [.slice A24 n24 c24, .slice A39 n39 c39]) (by kernel_rfl) (by decide) (g_same4 (o24.ext (e26.trans (e33.trans e37))) (by omega) o39 (by omega)) ?_
  rintro _ v40 ⟨xr42, rfl, r42, e41⟩
  refine ret_intro ?_
  have hw10 : Ext w v40 := hw9.trans e41
  obtain rfl := r42
  refine wl_pure rfl rfl (v := .bool false) (by decide) (by kernel_rfl) ?_
  refine wl_pure rfl rfl (v := .bool false) (by decide) (by kernel_rfl) ?_
  refine wl_move rfl rfl (by decide) ?_
  refine wl_move rfl rfl (by decide) ?_
  refine wl_cmp rfl rfl rfl false (by decide) (by decide) ?_
  refine wl_move rfl rfl (by decide) ?_
  refine wl_cmp rfl rfl rfl false (by decide) (by decide) ?_
  refine wl_move rfl rfl (by decide) ?_
  refine wl_off rfl (by decide) ?_
  refine wl_off rfl (by decide) ?_
  refine wl_pure rfl rfl (v := .bool false) (by decide) (by kernel_rfl) ?_
  refine wl_pure rfl rfl (v := .bool false) (by decide) (by kernel_rfl) ?_
  refine wl_pure rfl rfl (v := .bool false) (by decide) (by kernel_rfl) ?_
  refine wl_nil ?_
  refine eo_then ?_
  refine cw_false rfl ?_
  refine cw_skip ?_
  refine eo_then ?_
  refine cw_seq ?_
  refine cw_seq ?_
  refine cw_region ?_
  refine wl_move rfl rfl (by decide) ?_
  refine wl_cmp rfl rfl rfl true (by decide) (by decide) ?_
  refine wl_nil ?_
  refine eo_then ?_
  refine cw_true rfl ?_
  refine cw_seq ?_
  refine cw_region ?_
  refine wl_assign rfl rfl (by decide) ?_
  refine wl_nil ?_
  refine eo_then ?_
  refine cw_ret ?_
  refine eo_thenR ?_
  refine eo_ret [.bool true] rfl ⟨rfl, trivial⟩ ?_
  exact ⟨_, rfl, rfl, hw10⟩
set_option maxHeartbeats 4000000 in
theorem law_RadixStep_non0 {w : World} (hlen : ([] : List Nat).length ≤ 1048576) {c : Nat} (hc : c ≤ 255) (hS : Signs w) {base : Nat} (hbl : 2 ≤ base) (hbu : base ≤ 36) (hg : ¬ Good base []) (hok : dv c < base) :
    Calls Tryd.prog 6 #[.string (strB ([] : List Nat)), .int .i64 ((base : Nat) : Int), .int .u8 ((c : Nat) : Int)] w (Gv w (Is (.bool true))) := by
  have hbs : ∀ b, b ∈ ([] : List Nat) → b < 256 := fun b h => absurd h (by simp)
  refine sx_enter Tryd.func6 rfl (n := 117) rfl (Nat.le_of_ble_eq_true rfl) (args := [.string (strB ([] : List Nat)), .int .i64 ((base : Nat) : Int), .int .u8 ((c : Nat) : Int)]) ?_
  refine cw_keep [(0, .string (strB ([] : List Nat))), (1, .int .i64 ((base : Nat) : Int)), (2, .int .u8 ((c : Nat) : Int))] ⟨rfl, rfl, rfl, trivial⟩ ?_
  refine cw_seq ?_
  refine cw_region ?_
  refine wl_assign rfl rfl (by decide) ?_
  refine wl_nil ?_
  refine eo_then ?_
  refine cw_seq ?_
  refine cw_seq ?_
  refine cw_region ?_
  refine wl_call rfl rfl (vs := []) (by kernel_rfl) (by decide) (g_law4_awake (hS.ext (Ext.refl w))) ?_
  rintro _ v1 ⟨xr3, rfl, r3, e2⟩
  refine ret_intro ?_
  have hw1 : Ext w v1 := (Ext.refl w).trans e2
  obtain rfl := r3
  refine wl_pure rfl rfl (v := .bool false) (by decide) (by kernel_rfl) ?_
  refine wl_nil ?_
  refine eo_then ?_
  refine cw_false rfl ?_
  refine cw_skip ?_
  refine eo_then ?_
  refine cw_seq ?_
  have hbs1 : ∀ b, b ∈ [c] → b < 256 := fun b hb => by rw [List.mem_singleton] at hb; omega
  have hbs2 : ∀ b, b ∈ ([] : List Nat) ++ [c] → b < 256 := fun b hb => by rcases List.mem_append.1 hb with h | h; (· exact hbs b h); (· exact hbs1 b h)
  have hg1 : Good base [c] := ⟨by simp, fun d hd => by rw [List.mem_singleton.1 hd]; exact hok⟩
  have hcv : (wd (dv c)).length ≤ 1 := by exact len_wd_w64 (by have := dv_le c; omega)
  have hg2 : Good base ([] ++ [c]) := hg1
  refine cw_region ?_
  refine wl_move rfl rfl (by decide) ?_
  refine wl_move rfl rfl (by decide) ?_
  refine wl_call rfl rfl (vs := [.string (strB ([] : List Nat)), .int .i64 ((base : Nat) : Int)]) (by kernel_rfl) (by decide) (rx_Read_bad hbl hbu hbs (by omega) hg) ?_
  rintro _ v4 ⟨xr6, rfl, r6, e5⟩
  refine ret_intro ?_
  have hw2 : Ext w v4 := hw1.trans e5
  obtain ⟨a7_0, a7_1, rfl, r7_0, r7_1⟩ := r6
  obtain rfl := r7_0
  obtain rfl := r7_1
  refine wl_move rfl rfl (by decide) ?_
  refine wl_pure rfl rfl (v := .slice none 0 0) (by decide) (by kernel_rfl) ?_
  refine wl_pure rfl rfl (v := .int .i64 7) (by decide) (by kernel_rfl) ?_
  refine wl_assign rfl rfl (by decide) ?_
  refine wl_assign rfl rfl (by decide) ?_
  refine wl_nil ?_
  refine eo_then ?_
  refine cw_seq ?_
  refine cw_region ?_
  refine wl_move rfl rfl (by decide) ?_
  refine wl_move rfl rfl (by decide) ?_
  refine wl_bslice rfl rfl (by decide) (k := 1) (e := 5) [.int .u8 ((c : Nat) : Int)] (fun _ => by kernel_rfl) fun g8 v9 nb => ?_
  have hb10 := nb.bk
  have e11 := nb.ext
  clear nb
  have hw3 : Ext w v9 := hw2.trans e11
  refine wl_toStr (bs := [c]) (lb := 0) rfl rfl (Own.mk_ (Nat.zero_le _) hb10 (Nat.le_refl _) (by rw [len_maxLen]; omega) rfl rfl) (by decide) ?_
  refine wl_op rfl rfl rfl (r := .string (strB (([] : List Nat) ++ ([c])))) rfl (fun w => str_add (a := ([] : List Nat)) (b := [c]) (by simp only [List.length_cons, List.length_nil]; omega)) (by decide) ?_
  refine wl_move rfl rfl (by decide) ?_
  refine wl_call rfl rfl (vs := [.string (strB (([] : List Nat) ++ ([c]))), .int .i64 ((base : Nat) : Int)]) (by kernel_rfl) (by decide) (rx_Read_good hw3.size hbl hbu hbs2 (by rw [List.length_append]; simp only [List.length_cons, List.length_nil]; omega) hg2) ?_
  rintro _ v12 ⟨xr14, rfl, r14, e13⟩
  refine ret_intro ?_
  have hw4 : Ext w v12 := hw3.trans e13
  obtain ⟨a15_0, a15_1, rfl, r15_0, r15_1⟩ := r14
  obtain ⟨A16, n16, c16, rfl, j16, o16⟩ := r15_0
  obtain rfl := r15_1
  refine wl_move rfl rfl (by decide) ?_
  refine wl_pure rfl rfl (v := .slice A16 n16 c16) (by decide) (by kernel_rfl) ?_
  refine wl_pure rfl rfl (v := .int .i64 0) (by decide) (by kernel_rfl) ?_
  refine wl_assign rfl rfl (by decide) ?_
  refine wl_assign rfl rfl (by decide) ?_
  refine wl_nil ?_
  refine eo_then ?_
  refine cw_seq ?_
  refine cw_region ?_
  refine wl_move rfl rfl (by decide) ?_
  refine wl_bslice rfl rfl (by decide) (k := 1) (e := 5) [.int .u8 ((c : Nat) : Int)] (fun _ => by kernel_rfl) fun g17 v18 nb => ?_
  have hb19 := nb.bk
  have e20 := nb.ext
  clear nb
  have hw5 : Ext w v18 := hw4.trans e20
  refine wl_toStr (bs := [c]) (lb := 0) rfl rfl (Own.mk_ (Nat.zero_le _) hb19 (Nat.le_refl _) (by rw [len_maxLen]; omega) rfl rfl) (by decide) ?_
  refine wl_move rfl rfl (by decide) ?_
  refine wl_call rfl rfl (vs := [.string (strB ([c])), .int .i64 ((base : Nat) : Int)]) (by kernel_rfl) (by decide) (by have h := (rx_Read_good hw5.size hbl hbu hbs1 (by simp only [List.length_cons, List.length_nil]; omega) hg1); rw [show vald base ([c].map dv) = dv c by simp [vald]] at h; exact h) ?_
  rintro _ v21 ⟨xr23, rfl, r23, e22⟩
  refine ret_intro ?_
  have hw6 : Ext w v21 := hw5.trans e22
  obtain ⟨a24_0, a24_1, rfl, r24_0, r24_1⟩ := r23
  obtain ⟨A25, n25, c25, rfl, j25, o25⟩ := r24_0
  obtain rfl := r24_1
  refine wl_move rfl rfl (by decide) ?_
  refine wl_pure rfl rfl (v := .slice A25 n25 c25) (by decide) (by kernel_rfl) ?_
  refine wl_pure rfl rfl (v := .int .i64 0) (by decide) (by kernel_rfl) ?_
  refine wl_assign rfl rfl (by decide) ?_
  refine wl_assign rfl rfl (by decide) ?_
  refine wl_nil ?_
  refine eo_then ?_
  refine cw_seq ?_
  refine cw_region ?_
  refine wl_move rfl rfl (by decide) ?_
  refine wl_move rfl rfl (by decide) ?_
  refine wl_call rfl rfl (vs := [.int .u8 ((c : Nat) : Int), .int .i64 ((base : Nat) : Int)]) (by kernel_rfl) (by decide) (g_sign_ok hc hbu hok) ?_
  rintro _ v26 ⟨xr28, rfl, r28, e27⟩
  refine ret_intro ?_
  have hw7 : Ext w v26 := hw6.trans e27
  obtain ⟨a29_0, a29_1, rfl, r29_0, r29_1⟩ := r28
  obtain rfl := r29_0
  obtain rfl := r29_1
  refine wl_move rfl rfl (by decide) ?_
  refine wl_pure rfl rfl (v := .int .i64 ((dv c : Nat) : Int)) (by decide) (by kernel_rfl) ?_
  refine wl_pure rfl rfl (v := .bool true) (by decide) (by kernel_rfl) ?_
  refine wl_assign rfl rfl (by decide) ?_
  refine wl_assign rfl rfl (by decide) ?_
  refine wl_nil ?_
  refine eo_then ?_
  refine cw_seq ?_
  refine cw_seq ?_
  refine cw_region ?_
  refine wl_move rfl rfl (by decide) ?_
  refine wl_cmp rfl rfl rfl false (cb_lt_f (a := base) (b := 2) rfl rfl (by omega)) (by decide) ?_
  refine wl_move rfl rfl (by decide) ?_
  refine wl_move rfl rfl (by decide) ?_
  refine wl_cmp rfl rfl rfl false (cb_gt_f (a := base) (b := 36) rfl rfl (by omega)) (by decide) ?_
  refine wl_pure rfl rfl (v := .bool false) (by decide) (by kernel_rfl) ?_
  refine wl_nil ?_
  refine eo_then ?_
  refine cw_false rfl ?_
  refine cw_skip ?_
  refine eo_then ?_
  refine cw_seq ?_
  refine cw_seq ?_
  refine cw_region ?_
  refine wl_move rfl rfl (by decide) ?_
  refine wl_pure rfl rfl (v := .bool false) (by decide) (by kernel_rfl) ?_
  refine wl_nil ?_
  refine eo_then ?_
  refine cw_false rfl ?_
  refine cw_skip ?_
  refine eo_then ?_
  refine cw_seq ?_
  refine cw_seq ?_
  refine cw_region ?_
  refine wl_move rfl rfl (by decide) ?_
  refine wl_cmp rfl rfl rfl false (by decide) (by decide) ?_
  refine wl_move rfl rfl (by decide) ?_
  refine wl_move rfl rfl (by decide) ?_
  refine wl_move rfl rfl (by decide) ?_
  refine wl_pureE rfl rfl (v := .int .u64 (IntKind.u64.wrap ((dv c : Nat) : Int))) (v' := .int .u64 ((dv c : Nat) : Int)) (by decide) (by kernel_rfl) (cv_u64 (by first | omega | exact hle64)) ?_
  refine wl_bslice rfl rfl (by decide) (k := 1) (e := 48) [.int .u64 ((dv c : Nat) : Int)] (fun _ => by kernel_rfl) fun g30 v31 nb32 => ?_
  have o33 := O1.mk_ (x := dv c) (b := w.heap.size) nb32 hw7.size
  have e34 := nb32.ext
  have hw8 : Ext w v31 := hw7.trans e34
  refine wl_call rfl rfl (vs := [.slice (some ⟨g30, 0, none⟩) 1 1]) (by kernel_rfl) (by decide) (rx_LeastW hw8.size (own1_wi o33 (show dv c ≤ 18446744073709551615 by have := dv_le c; omega)) (by decide)) ?_
  rintro _ v37 ⟨xr39, rfl, r39, e38⟩
  refine ret_intro ?_
  have hw9 : Ext w v37 := hw8.trans e38
  obtain ⟨A40, n40, c40, rfl, j40, o40⟩ := r39
  refine wl_call rfl rfl (vs := [.slice A25 n25 c25, .slice A40 n40 c40]) (by kernel_rfl) (by decide) (g_same4 (o25.ext (e27.trans (e34.trans e38))) (by omega) o40 (by omega)) ?_
  rintro _ v41 ⟨xr43, rfl, r43, e42⟩
  refine ret_intro ?_
  have hw10 : Ext w v41 := hw9.trans e42
  obtain rfl := r43
  refine wl_pure rfl rfl (v := .bool false) (by decide) (by kernel_rfl) ?_
  refine wl_pure rfl rfl (v := .bool false) (by decide) (by kernel_rfl) ?_
  refine wl_move rfl rfl (by decide) ?_
  refine wl_move rfl rfl (by decide) ?_
  refine wl_cmp rfl rfl rfl false (by decide) (by decide) ?_
  refine wl_move rfl rfl (by decide) ?_
  refine wl_cmp rfl rfl rfl true (by decide) (by decide) ?_
  refine wl_move rfl rfl (by decide) ?_
  refine wl_move rfl rfl (by decide) ?_
  refine wl_streq (a := ([] : List Nat)) (b := []) rfl rfl rfl hbs (by decide) false (strE_neq_t (rfl)) (by decide) ?_
  refine wl_pure rfl rfl (v := .bool false) (by decide) (by kernel_rfl) ?_
  refine wl_pure rfl rfl (v := .bool false) (by decide) (by kernel_rfl) ?_
  refine wl_pure rfl rfl (v := .bool false) (by decide) (by kernel_rfl) ?_
  refine wl_nil ?_
  refine eo_then ?_
  refine cw_false rfl ?_
  refine cw_skip ?_
  refine eo_then ?_
  refine cw_seq ?_
  refine cw_seq ?_
  refine cw_region ?_
  refine wl_move rfl rfl (by decide) ?_
  refine wl_cmp rfl rfl rfl true (by decide) (by decide) ?_
  refine wl_nil ?_
  refine eo_then ?_
  refine cw_true rfl ?_
  refine cw_seq ?_
  refine cw_region ?_
  refine wl_assign rfl rfl (by decide) ?_
  refine wl_nil ?_
  refine eo_then ?_
  refine cw_ret ?_
  refine eo_thenR ?_
  refine eo_ret [.bool true] rfl ⟨rfl, trivial⟩ ?_
  exact ⟨_, rfl, rfl, hw10⟩
theorem law_RadixStep {w : World} {bs : List Nat} (hbs : ∀ b, b ∈ bs → b < 256) (hlen : bs.length ≤ 1048576) {b : Int} (h1 : -9223372036854775808 ≤ b) (h2 : b ≤ 9223372036854775807) {c : Nat} (hc : c ≤ 255) (hS : Signs w) : Calls Tryd.prog 6 #[.string (strB bs), .int .i64 b, .int .u8 ((c : Nat) : Int)] w (BoolP true w) := by
  by_cases hbad : b < 2 ∨ 36 < b
  · exact (law_RadixStep_bad hbs hlen hc hS hbad).mono fun e w' h => bool_of _ _ h
  · obtain ⟨base, rfl⟩ := Int.eq_ofNat_of_zero_le (show 0 ≤ b by omega)
    by_cases hg : Good base bs
    · by_cases hok : dv c < base
      · exact (law_RadixStep_yes hbs hlen hc hS (by omega) (by omega) hg hok).mono fun e w' h => bool_of _ _ h
      · exact (law_RadixStep_nog hbs hlen hc hS (by omega) (by omega) hg hok).mono fun e w' h => bool_of _ _ h
    · by_cases hok : dv c < base
      · by_cases hne : bs = []
        · subst hne
          exact (law_RadixStep_non0 hlen hc hS (by omega) (by omega) hg hok).mono fun e w' h => bool_of _ _ h
        · exact (law_RadixStep_non hbs hlen hc hS (by omega) (by omega) hg hok hne).mono fun e w' h => bool_of _ _ h
      · exact (law_RadixStep_nob hbs hlen hc hS (by omega) (by omega) hg hok).mono fun e w' h => bool_of _ _ h
end Go.Proofs.YtmjdmjflgiicaaaDoor
