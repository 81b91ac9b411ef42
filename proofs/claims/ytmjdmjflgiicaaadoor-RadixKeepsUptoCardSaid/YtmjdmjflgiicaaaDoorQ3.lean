/- Parts Rxd, Rt, Ru, Rxe, Rv, Rw, Law4, Grp, Law4b, Law4t, Grp2, Strc, Ref1, Own, Book, Ref4, joined. -/
import Derived.Test.YtmjdmjflgiicaaaDoorQ2
import Derived.Laws.Slices

namespace Go.Proofs.YtmjdmjflgiicaaaDoor
open Go.RowKit
theorem i64_shl {x s : Nat} (hs : s ≤ 64) (hx : x * 2 ^ s ≤ 9223372036854775807) (P : Program) (t : TypeId) (w : World) : (binOp .shl t (.int .i64 (x : Int)) (.int .u64 (s : Int))).run P w = .ok (.int .i64 ((x * 2 ^ s : Nat) : Int)) w := by
  have e : ((x : Int) * 2 ^ min (s : Int).toNat IntKind.i64.bits) = ((x * 2 ^ s : Nat) : Int) := by
    rw [Int.toNat_natCast, show min s IntKind.i64.bits = s from Nat.min_eq_left hs]; simp
  simp only [binOp]
  rw [shift_shl_any _ _ _ _ (by omega), e, IntWalk.i64_in _ ⟨by omega, by omega⟩]; rfl
def pslice (e : ZC) : Value := .slice e.A e.n e.c
/-- the powers of the unit -/
def Pw (w : World) (pb : Nat) (PA : Option Addr) (pn pc unit : Nat) : Prop := ∃ es : List ZC, Own w pb 22 1 PA pn pc (es.map pslice) ∧ es.length = pn ∧
  ∀ i, i < pn → (es.getD i ZC.zero).n = (wd (unit ^ 2 ^ i)).length ∧ (es.getD i ZC.zero).n ≤ 8388608 ∧ Own w 0 48 1 (es.getD i ZC.zero).A (es.getD i ZC.zero).n (es.getD i ZC.zero).c ((wd (unit ^ 2 ^ i)).map W64)
theorem Pw.nil (w : World) (pb unit : Nat) : Pw w pb none 0 0 unit := ⟨[], Own.nil _ _ _ _, rfl, fun i hi => by omega⟩
theorem Pw.ext {w w' : World} {PA : Option Addr} {pb pn pc unit : Nat} (h : Pw w pb PA pn pc unit) (e : Ext w w') : Pw w' pb PA pn pc unit := by
  obtain ⟨es, h1, h2, h3⟩ := h
  exact ⟨es, h1.ext e, h2, fun i hi => ⟨(h3 i hi).1, (h3 i hi).2.1, (h3 i hi).2.2.ext e⟩⟩
theorem Pw.updW {lb : Nat} {w w' : World} {PA : Option Addr} {pb pn pc unit : Nat} (h : Pw w pb PA pn pc unit) (u : UpdW lb w w') : Pw w' pb PA pn pc unit := by
  obtain ⟨es, h1, h2, h3⟩ := h
  exact ⟨es, u.own h1 (by decide) (by decide), h2, fun i hi => ⟨(h3 i hi).1, (h3 i hi).2.1, u.own (h3 i hi).2.2 (by decide) (by decide)⟩⟩
theorem Pw.updT {w w' : World} {PA : Option Addr} {pb pn pc unit g : Nat} {T : TypeId} {us : List Value} (h : Pw w pb PA pn pc unit) (hb : Bk w g T us) (u : Upd g w w') (h1 : 22 ≠ T) (h2 : 48 ≠ T) : Pw w' pb PA pn pc unit := by
  obtain ⟨es, h4, h5, h3⟩ := h
  exact ⟨es, h4.updT hb h1 u, h5, fun i hi => ⟨(h3 i hi).1, (h3 i hi).2.1, (h3 i hi).2.2.updT hb h2 u⟩⟩
theorem Pw.at {w : World} {PA : Option Addr} {pb pn pc unit i : Nat} (h : Pw w pb PA pn pc unit) (hi : i < pn) : ∃ p A n c, PA.map (·.add (i * 1)) = some p ∧ w.cell? p = some (.slice A n c) ∧ n = (wd (unit ^ 2 ^ i)).length ∧ n ≤ 8388608 ∧ Own w 0 48 1 A n c ((wd (unit ^ 2 ^ i)).map W64) := by
  obtain ⟨es, h1, h2, h3⟩ := h
  obtain ⟨a, ha, hc⟩ := h1.rv.get i (by omega)
  have e : (es.map pslice).getD i undef = pslice (es.getD i ZC.zero) := by
    simp [List.getD_eq_getElem?_getD, List.getElem?_map, List.getElem?_eq_getElem (show i < es.length by omega)]
  rw [e] at hc
  obtain ⟨h4, h5, h6⟩ := h3 i hi
  exact ⟨a.add i, _, _, _, by rw [ha, Nat.mul_one]; rfl, hc, h4, h5, h6⟩
theorem Pw.mono {w : World} {pb pb' : Nat} {PA : Option Addr} {pn pc unit : Nat} (h : Pw w pb PA pn pc unit) (hb : pb' ≤ pb) : Pw w pb' PA pn pc unit := by
  obtain ⟨es, h1, h2, h3⟩ := h
  exact ⟨es, h1.mono hb, h2, h3⟩
theorem un_wl : Tryd.prog.underlying 64 = some (.slice 22) := by kernel_rfl
theorem sz_wl (w : World) : (sizeOf 22).run Tryd.prog w = .ok 1 w := by kernel_rfl
theorem ag_wl (w : World) : (isAgg 22).run Tryd.prog w = .ok false w := by kernel_rfl
theorem info_wl : (Tryd.prog.info? 22).map (fun i => (i.zero, i.size, i.bytes)) = some (some (.slice none 0 0), 1, 24) := by kernel_rfl
/-- one power more -/
theorem wl_appP {Q : Exit → Act → World → Prop} {N : Nat} {l : Fr} {w : World} {ops : Array Oper} {rest : List Oper} {d : Nat} {ty : TypeId} {pos : String} {af : Array Edge} {gd : Option (Nat × Bool)} {x y : Operand} {pb pn pc unit g c n qc b : Nat} {PA A : Option Addr} (hw : guardB ops l gd = some true)
    (hx : evo l x = some (.slice PA pn pc)) (hy : evo l y = some (.slice (some ⟨g, 0, none⟩) 1 c)) (h : Pw w pb PA pn pc unit) (hpb : pb ≤ w.heap.size) (hb : Bk w g 22 [.slice A n qc]) (hn : n = (wd (unit ^ 2 ^ pn)).length) (hn8 : n ≤ 8388608) (ho : Own w b 48 1 A n qc ((wd (unit ^ 2 ^ pn)).map W64)) (hm : pn ≤ 64) (hd : d < N)
    (k : ∀ A' c' w', Pw w' pb A' (pn + 1) c' unit → UpdO PA w w' → (∃ us, Own w pb 22 1 PA pn pc us) → wl Tryd.prog ops Q N rest ((d, .slice A' (pn + 1) c') :: l) w') :
    wl Tryd.prog ops Q N (⟨some d, .call { callee := .builtin .append, args := #[x, y], argTypes := #[64, 64] }, ty, pos, af, gd⟩ :: rest) l w := by
  obtain ⟨es, h1, h2, h3⟩ := h
  refine wl_app hw hx hy un_wl info_wl rfl (by decide) (by decide) h1 hpb [.slice A n qc] rfl (one_news _ hb) rfl (by omega) hd fun A' c' w' ho' hu _ => k A' c' w' ?_ hu ⟨_, h1⟩
  refine ⟨es ++ [⟨false, A, n, qc⟩], by rw [List.map_append]; exact ho', by simp [h2], fun i hi => ?_⟩
  by_cases hin : i < pn
  · rw [getD_app_l (by omega)]
    exact ⟨(h3 i hin).1, (h3 i hin).2.1, (h3 i hin).2.2.updOT h1 (by decide) hu⟩
  · have e1 : i = pn := by omega
    subst e1
    have e2 : (es ++ [(⟨false, A, n, qc⟩ : ZC)]).getD i ZC.zero = ⟨false, A, n, qc⟩ := by rw [← h2]; exact getD_app_m
    rw [e2]
    exact ⟨hn, hn8, (ho.mono (Nat.zero_le b)).updOT h1 (by decide) hu⟩
theorem bw_own {w : World} {g x : Nat} (h : Bk w g 48 [.int .u64 ((x : Nat) : Int)]) (hx : x ≤ 18446744073709551615) (h0 : x ≠ 0) : Own w 0 48 1 (some ⟨g, 0, none⟩) 1 1 ((wd x).map W64) :=
  own1_wd (Own.mk_ (Nat.zero_le _) h (Nat.le_refl _) (by rw [len_maxLen]; omega) rfl rfl) hx h0
theorem pow_sq {u j : Nat} : u ^ 2 ^ j * u ^ 2 ^ j = u ^ 2 ^ (j + 1) := by rw [← Nat.pow_add, Nat.pow_succ]; congr 1; omega
theorem len_sq {p n : Nat} (h : (wd p).length ≤ n) : (wd (p * p)).length ≤ 2 * n := by
  refine len_wd_le ?_
  have h1 := lt_pow_len p
  have h2 : p < WB ^ n := Nat.lt_of_lt_of_le h1 (Nat.pow_le_pow_right (by rw [WB_def]; decide) h)
  rw [Nat.two_mul, Nat.pow_add]
  exact Nat.mul_lt_mul'' h2 h2
theorem rx_Cmp {w : World} {A B : Option Addr} {n c n' c' m m' : Nat} (hx : Wi w A n c m) (hl : n ≤ 1099511627776) (hy : Wi w B n' c' m') (hl' : n' ≤ 1099511627776) : Calls Tryd.prog 59 #[.slice A n c, .slice B n' c'] w (Gv w (Is (.int .i64 (cmp3 m m')))) := by
  obtain ⟨xs, h1, rfl⟩ := hx
  obtain ⟨ys, h2, rfl⟩ := hy
  refine (nat_Cmp h1 hl h2 hl').mono fun e w' h => ?_
  obtain ⟨d, h3, _, _, rfl, h4⟩ := h
  exact ⟨_, rfl, (show Value.int .i64 d = _ by rw [h3.out]), h4⟩
theorem rx_DivMod {w : World} {b : Nat} (hb : b ≤ w.heap.size) {A B : Option Addr} {n c n' c' m m' : Nat} (hx : Wi w A n c m) (hl : n ≤ 274877906944) (hy : Wi w B n' c' m') (hl' : n' ≤ 274877906944) (h0 : m' ≠ 0) : Calls Tryd.prog 61 #[.slice A n c, .slice B n' c'] w (Gv w (T3 (WR b (m / m')) (WR b (m % m')) (Is (.int .i64 0)))) := by
  obtain ⟨xs, h1, rfl⟩ := hx
  obtain ⟨ys, h2, rfl⟩ := hy
  refine (divnat_DivMod h1 hl h2 hl' h0).mono fun e w' h => ?_
  obtain ⟨A, n, cap, B, m, cap', rfl, h3, _, h4, h5, _, h6, h7⟩ := h
  exact ⟨_, rfl, ⟨_, _, _, rfl, ⟨A, n, cap, rfl, h3.out, h4.mono hb⟩, ⟨B, m, cap', rfl, h5.out, h6.mono hb⟩, rfl⟩, h7⟩
theorem rx_Square {w : World} {b : Nat} (hb : b ≤ w.heap.size) {A : Option Addr} {n c m : Nat} (hx : Wi w A n c m) (hl : n ≤ 137438953472) : Calls Tryd.prog 67 #[.slice A n c] w (Gv w (WR b (m * m))) := by
  obtain ⟨xs, h1, rfl⟩ := hx
  exact (mulnat_Square h1 hl).mono (gw hb)
theorem cmp3_ltT {x y : Nat} (h : x < y) : cmpB .lss (cmp3 x y) 0 = some true := lt_t (cmp3_neg.2 h)
theorem cmp3_ltF {x y : Nat} (h : y ≤ x) : cmpB .lss (cmp3 x y) 0 = some false := lt_f (by have := cmp3_neg (a := x) (b := y); omega)
theorem cmp3_leT {x y : Nat} (h : x ≤ y) : cmpB .leq (cmp3 x y) 0 = some true := le_t (by have := cmp3_pos (a := x) (b := y); omega)
theorem cmp3_leF {x y : Nat} (h : y < x) : cmpB .leq (cmp3 x y) 0 = some false := le_f (cmp3_pos.2 h)
theorem pow_le_bits {u m ip an : Nat} (hu : 2 ≤ u) (h : u ^ 2 ^ ip ≤ m) (hl : (wd m).length ≤ an) : 2 ^ ip ≤ 64 * an := by
  have h1 := lt_pow_len m
  rw [WB_pow, ← Nat.pow_mul] at h1
  have h2 : 2 ^ 2 ^ ip ≤ u ^ 2 ^ ip := Nat.pow_le_pow_left hu _
  have h3 : 2 ^ (64 * (wd m).length) ≤ 2 ^ (64 * an) := Nat.pow_le_pow_right (by decide) (Nat.mul_le_mul_left _ hl)
  exact Nat.le_of_lt ((Nat.pow_lt_pow_iff_right (by decide)).1 (Nat.lt_of_le_of_lt h2 (Nat.lt_of_le_of_lt h (Nat.lt_of_lt_of_le h1 h3))))
theorem ip_small {ip n : Nat} (h : 2 ^ ip ≤ n) (hn : n ≤ 268435456) : ip ≤ 28 := by
  refine Nat.le_of_not_lt fun h2 => ?_
  have h3 : 2 ^ 29 ≤ 2 ^ ip := Nat.pow_le_pow_right (by decide) h2
  omega
/-- a number in two parts -/
theorem txt_two {b k ip m width : Nat} (hb : 2 ≤ b) (h : (b ^ k) ^ 2 ^ ip ≤ m) (h0 : 0 < (b ^ k) ^ 2 ^ ip) : txt (padTo (db b (m / (b ^ k) ^ 2 ^ ip)) (width - k * 2 ^ ip)) ++ txt (padTo (db b (m % (b ^ k) ^ 2 ^ ip)) (k * 2 ^ ip)) = txt (padTo (db b m) width) := by
  have e : (b ^ k) ^ 2 ^ ip = b ^ (k * 2 ^ ip) := by rw [← Nat.pow_mul]
  rw [e] at h h0 ⊢
  have hq : m / b ^ (k * 2 ^ ip) ≠ 0 := by have := Nat.div_pos h h0; omega
  have hr : (db b (m % b ^ (k * 2 ^ ip))).length ≤ k * 2 ^ ip := len_db_le hb (Nat.mod_lt _ h0)
  have hl : (padTo (db b (m % b ^ (k * 2 ^ ip))) (k * 2 ^ ip)).length = k * 2 ^ ip := by rw [len_padTo]; omega
  rw [← txt_app, padTo_app, ← db_split hb hq, hl]
  by_cases hw : k * 2 ^ ip ≤ width
  · rw [show k * 2 ^ ip + (width - k * 2 ^ ip) = width by omega]
  · have h2 : k * 2 ^ ip ≤ (db b m).length := by rw [db_split hb hq, List.length_append, hl]; omega
    rw [padTo_of (by omega), padTo_of (by omega)]
theorem two_len {b k ip m width : Nat} (hb : 2 ≤ b) (h : (b ^ k) ^ 2 ^ ip ≤ m) (h0 : 0 < (b ^ k) ^ 2 ^ ip) : max (width - k * 2 ^ ip) (db b (m / (b ^ k) ^ 2 ^ ip)).length + k * 2 ^ ip = max width (db b m).length ∨ (width < k * 2 ^ ip ∧ (db b (m / (b ^ k) ^ 2 ^ ip)).length + k * 2 ^ ip = (db b m).length) := by
  have e : (b ^ k) ^ 2 ^ ip = b ^ (k * 2 ^ ip) := by rw [← Nat.pow_mul]
  rw [e] at h h0 ⊢
  have hq : m / b ^ (k * 2 ^ ip) ≠ 0 := by have := Nat.div_pos h h0; omega
  have hr : (db b (m % b ^ (k * 2 ^ ip))).length ≤ k * 2 ^ ip := len_db_le hb (Nat.mod_lt _ h0)
  have hl : (padTo (db b (m % b ^ (k * 2 ^ ip))) (k * 2 ^ ip)).length = k * 2 ^ ip := by rw [len_padTo]; omega
  have h2 : (db b m).length = k * 2 ^ ip + (db b (m / b ^ (k * 2 ^ ip))).length := by rw [db_split hb hq, List.length_append, hl]
  omega
/-- halves, with so many powers, writes what is wanted -/
def HalvesOk (ip : Nat) : Prop := ∀ {w : World} {g base k unit : Nat} {PA : Option Addr} {pn pc : Nat} {OA : Option Addr} {on oc lb : Nat} {bs : List Nat} {A : Option Addr} {an ac m width : Nat} {ii : Int} (_ : ii = (ip : Int) - 1) (_ : Signs w) (_ : 2 < lb) (_ : 2 ≤ base) (_ : base ≤ 36) (_ : Wr w g base k unit PA pn pc OA on oc)
  (_ : Own w lb 5 1 OA on oc (bs.map B8)) (_ : lb ≤ g) (_ : lb ≤ w.heap.size) (_ : Wi w A an ac m) (_ : an ≤ 4194304) (_ : unit = base ^ k) (_ : PieceK base k) (_ : width ≤ 137438953472) (_ : on + max width (db base m).length ≤ 137438953472) (_ : Pw w 0 PA pn pc unit) (_ : ip ≤ pn) (_ : pn ≤ 64),
  Calls Tryd.prog 68 #[.pointer (some ⟨g, 0, none⟩), .slice A an ac, .int .i64 ii, .int .i64 ((width : Nat) : Int)] w (WrP w lb g base k unit PA pn pc OA (bs ++ txt (padTo (db base m) width)))
theorem halves_zero : HalvesOk 0 := by
  intro w g base k unit PA pn pc OA on oc lb bs A an ac m width ii hii hS hgS hbl hbu hW hO hgl hlb ha hal hun hkk hwd hon hP hip hpn
  obtain rfl : ii = -1 := by omega
  exact rx_halves_low hS hgS hbl hbu hW hO hgl hlb ha hal hun hkk hwd (by omega)
set_option maxHeartbeats 4000000 in
theorem halves_step {ip : Nat} (ih : HalvesOk ip) : HalvesOk (ip + 1) := by
  intro w g base k unit PA pn pc OA on oc lb bs A an ac m width ii hii hS hgS hbl hbu hW hO hgl hlb ha hal hun hkk hwd hon hP hip hpn
  obtain rfl : ii = (ip : Int) := by omega
  have hml : (wd m).length ≤ 4194304 := Nat.le_trans ha.len hal
  have hk1 : 1 ≤ k := by refine Nat.pos_of_ne_zero (fun e => ?_); have := hkk.gt; rw [e, Nat.zero_add, Nat.pow_one] at this; omega
  have hu2 : 2 ≤ unit := by rw [hun]; exact Nat.le_trans hbl (Nat.le_trans (Nat.le_of_eq (Nat.pow_one base).symm) (Nat.pow_le_pow_right (by omega) hk1))
  refine sx_enter Tryd.func68 rfl (n := 74) rfl (Nat.le_of_ble_eq_true rfl) (args := [.pointer (some ⟨g, 0, none⟩), .slice A an ac, .int .i64 (ip : Int), .int .i64 ((width : Nat) : Int)]) ?_
  refine cw_keep [(0, .pointer (some ⟨g, 0, none⟩)), (1, .slice A an ac), (2, .int .i64 (ip : Int)), (3, .int .i64 ((width : Nat) : Int))] ⟨rfl, rfl, rfl, rfl, trivial⟩ ?_
  refine cw_seq ?_
  refine cw_seq ?_
  by_cases h12 : an ≤ 12
  ·
    refine cw_region ?_
    refine wl_move rfl rfl (by decide) ?_
    refine wl_cmp rfl rfl rfl false (lt_f (by omega)) (by decide) ?_
    refine wl_move rfl rfl (by decide) ?_
    refine wl_move rfl rfl (by decide) ?_
    refine wl_pure rfl rfl (v := .int .i64 ((an : Nat) : Int)) (by decide) (by kernel_rfl) ?_
    refine wl_cmp rfl rfl rfl true (cb_le_t (a := an) (b := 12) rfl rfl (by omega)) (by decide) ?_
    refine wl_pure rfl rfl (v := .bool true) (by decide) (by kernel_rfl) ?_
    refine wl_nil ?_
    refine eo_then ?_
    refine cw_true rfl ?_
    refine cw_seq ?_
    refine cw_region ?_
    refine wl_move rfl rfl (by decide) ?_
    refine wl_move rfl rfl (by decide) ?_
    refine wl_move rfl rfl (by decide) ?_
    refine wl_call rfl rfl (vs := [.pointer (some ⟨g, 0, none⟩), .slice A an ac, .int .i64 ((width : Nat) : Int)]) (by kernel_rfl) (by decide) (rx_plain hS hgS hbl hbu hW hO hgl (Nat.le_trans hlb (UpdW.refl lb w).size) ha hal hun hkk hwd (by omega)) ?_
    rintro _ v1 ⟨rfl, A2, n3, c4, hb5, ho6, uw7, kp8⟩
    refine ret_intro ?_
    have hw1 : UpdW lb w v1 := (UpdW.refl lb w).then uw7
    have kk9 := (Kept.refl w OA).next kp8 (UpdW.refl lb w).size
    refine wl_nil ?_
    refine eo_then ?_
    refine cw_ret ?_
    refine eo_thenR ?_
    refine eo_ret [] rfl trivial ?_
    exact ⟨rfl, A2, _, _, hb5, ho6, hw1, kk9⟩
  ·
    refine cw_region ?_
    refine wl_move rfl rfl (by decide) ?_
    refine wl_cmp rfl rfl rfl false (lt_f (by omega)) (by decide) ?_
    refine wl_move rfl rfl (by decide) ?_
    refine wl_move rfl rfl (by decide) ?_
    refine wl_pure rfl rfl (v := .int .i64 ((an : Nat) : Int)) (by decide) (by kernel_rfl) ?_
    refine wl_cmp rfl rfl rfl false (cb_le_f (a := an) (b := 12) rfl rfl (by omega)) (by decide) ?_
    refine wl_pure rfl rfl (v := .bool false) (by decide) (by kernel_rfl) ?_
    refine wl_nil ?_
    refine eo_then ?_
    refine cw_false rfl ?_
    refine cw_skip ?_
    refine eo_then ?_
    refine cw_seq ?_
    refine cw_seq ?_
    by_cases hlt : m < unit ^ 2 ^ ip
    ·
      refine cw_region ?_
      refine wl_move rfl rfl (by decide) ?_
      refine wl_move rfl rfl (by decide) ?_
      refine wl_pure rfl rfl (v := .pointer (some ⟨g, 0, none⟩)) (by decide) (by kernel_rfl) ?_
      refine wl_pure rfl rfl (v := .pointer (some ⟨g, 3, none⟩)) (by decide) (by kernel_rfl) ?_
      refine wl_load rfl rfl (load_cell (fun _ => by kernel_rfl) hW rfl) (by decide) ?_
      refine wl_move rfl rfl (by decide) ?_
      obtain ⟨pp, BA, bn, bc, hpp, hcp, hbn, hbl8, hbo⟩ := hP.at (i := ip) (by omega)
      have hpos : 0 < unit ^ 2 ^ ip := Nat.pow_pos (by rw [hun]; exact Nat.pow_pos (by omega))
      refine wl_idx rfl rfl rfl un_wl sz_wl ip rfl (by omega) pp hpp (by decide) ?_
      refine wl_load rfl rfl (load_cell1 ag_wl hcp) (by decide) ?_
      refine wl_call rfl rfl (vs := [.slice A an ac, .slice BA bn bc]) (by kernel_rfl) (by decide) (rx_Cmp ha (by omega) hbo.wi (by omega)) ?_
      rintro _ v10 ⟨xr12, rfl, r12, e11⟩
      refine ret_intro ?_
      have hw1 : UpdW lb w v10 := (UpdW.refl lb w).trans e11
      have hx1 : Ext w v10 := (Ext.refl w).trans e11
      obtain rfl := r12
      refine wl_cmp rfl rfl rfl true (cmp3_ltT hlt) (by decide) ?_
      refine wl_nil ?_
      refine eo_then ?_
      refine cw_true rfl ?_
      refine cw_seq ?_
      refine cw_region ?_
      refine wl_move rfl rfl (by decide) ?_
      refine wl_move rfl rfl (by decide) ?_
      refine wl_move rfl rfl (by decide) ?_
      refine wl_ar rfl rfl rfl ((ip : Int) - 1) (ar_i64s rfl (by omega) (by omega)) (by decide) ?_
      refine wl_move rfl rfl (by decide) ?_
      refine wl_call rfl rfl (vs := [.pointer (some ⟨g, 0, none⟩), .slice A an ac, .int .i64 ((ip : Int) - 1), .int .i64 ((width : Nat) : Int)]) (by kernel_rfl) (by decide) (ih rfl (hS.ext e11) hgS hbl hbu (hW.ext e11) (hO.ext e11) hgl (Nat.le_trans hlb hw1.size) (ha.ext e11) hal hun hkk (by omega) (by omega) (hP.ext e11) (by omega) hpn) ?_
      rintro _ v13 ⟨rfl, A14, n15, c16, hb17, ho18, uw19, kp20⟩
      refine ret_intro ?_
      have hw2 : UpdW lb w v13 := hw1.then uw19
      have kk21 := (Kept.refl w OA).next kp20 hw1.size
      refine wl_nil ?_
      refine eo_then ?_
      refine cw_ret ?_
      refine eo_thenR ?_
      refine eo_ret [] rfl trivial ?_
      exact ⟨rfl, A14, _, _, hb17, ho18, hw2, kk21⟩
    ·
      have hge : unit ^ 2 ^ ip ≤ m := by omega
      have hbits := pow_le_bits hu2 hge hml
      have hip28 := ip_small hbits (by omega)
      have hlow : k * 2 ^ ip ≤ 64 * 268435456 := Nat.mul_le_mul hkk.le64 (by omega)
      have hge2 : (base ^ k) ^ 2 ^ ip ≤ m := hun ▸ hge
      have hp2 : 0 < (base ^ k) ^ 2 ^ ip := Nat.pow_pos (Nat.pow_pos (by omega))
      have hq1 : (wd (m / unit ^ 2 ^ ip)).length ≤ 4194304 := Nat.le_trans (len_wd_mono (Nat.div_le_self _ _)) hml
      have hr1 : (wd (m % unit ^ 2 ^ ip)).length ≤ 4194304 := Nat.le_trans (len_wd_mono (Nat.mod_le _ _)) hml
      have hrl : (db base (m % unit ^ 2 ^ ip)).length ≤ k * 2 ^ ip := len_db_le hbl (by rw [Nat.pow_mul, ← hun]; exact Nat.mod_lt _ (hun ▸ hp2))
      have htl := two_len (width := width) hbl hge2 hp2
      rw [← hun] at htl
      refine cw_region ?_
      refine wl_move rfl rfl (by decide) ?_
      refine wl_move rfl rfl (by decide) ?_
      refine wl_pure rfl rfl (v := .pointer (some ⟨g, 0, none⟩)) (by decide) (by kernel_rfl) ?_
      refine wl_pure rfl rfl (v := .pointer (some ⟨g, 3, none⟩)) (by decide) (by kernel_rfl) ?_
      refine wl_load rfl rfl (load_cell (fun _ => by kernel_rfl) hW rfl) (by decide) ?_
      refine wl_move rfl rfl (by decide) ?_
      obtain ⟨pp, BA, bn, bc, hpp, hcp, hbn, hbl8, hbo⟩ := hP.at (i := ip) (by omega)
      have hpos : 0 < unit ^ 2 ^ ip := Nat.pow_pos (by rw [hun]; exact Nat.pow_pos (by omega))
      refine wl_idx rfl rfl rfl un_wl sz_wl ip rfl (by omega) pp hpp (by decide) ?_
      refine wl_load rfl rfl (load_cell1 ag_wl hcp) (by decide) ?_
      refine wl_call rfl rfl (vs := [.slice A an ac, .slice BA bn bc]) (by kernel_rfl) (by decide) (rx_Cmp ha (by omega) hbo.wi (by omega)) ?_
      rintro _ v22 ⟨xr24, rfl, r24, e23⟩
      refine ret_intro ?_
      have hw1 : UpdW lb w v22 := (UpdW.refl lb w).trans e23
      have hx1 : Ext w v22 := (Ext.refl w).trans e23
      obtain rfl := r24
      refine wl_cmp rfl rfl rfl false (cmp3_ltF (by omega)) (by decide) ?_
      refine wl_nil ?_
      refine eo_then ?_
      refine cw_false rfl ?_
      refine cw_skip ?_
      refine eo_then ?_
      refine cw_seq ?_
      refine cw_region ?_
      refine wl_move rfl rfl (by decide) ?_
      refine wl_move rfl rfl (by decide) ?_
      refine wl_pure rfl rfl (v := .pointer (some ⟨g, 0, none⟩)) (by decide) (by kernel_rfl) ?_
      refine wl_pure rfl rfl (v := .pointer (some ⟨g, 3, none⟩)) (by decide) (by kernel_rfl) ?_
      refine wl_load rfl rfl (load_cell (fun _ => by kernel_rfl) (hW.ext e23) rfl) (by decide) ?_
      refine wl_move rfl rfl (by decide) ?_
      obtain ⟨pp, BA, bn, bc, hpp, hcp, hbn, hbl8, hbo⟩ := (hP.ext e23).at (i := ip) (by omega)
      have hpos : 0 < unit ^ 2 ^ ip := Nat.pow_pos (by rw [hun]; exact Nat.pow_pos (by omega))
      refine wl_idx rfl rfl rfl un_wl sz_wl ip rfl (by omega) pp hpp (by decide) ?_
      refine wl_load rfl rfl (load_cell1 ag_wl hcp) (by decide) ?_
      refine wl_call rfl rfl (vs := [.slice A an ac, .slice BA bn bc]) (by kernel_rfl) (by decide) (rx_DivMod (Nat.zero_le _) (ha.ext e23) (by omega) hbo.wi (by omega) (by omega)) ?_
      rintro _ v25 ⟨xr27, rfl, r27, e26⟩
      refine ret_intro ?_
      have hw2 : UpdW lb w v25 := hw1.trans e26
      have hx2 : Ext w v25 := hx1.trans e26
      obtain ⟨a28_0, a28_1, a28_2, rfl, r28_0, r28_1, r28_2⟩ := r27
      obtain ⟨A29, n29, c29, rfl, j29, o29⟩ := r28_0
      obtain ⟨A30, n30, c30, rfl, j30, o30⟩ := r28_1
      obtain rfl := r28_2
      refine wl_move rfl rfl (by decide) ?_
      refine wl_pure rfl rfl (v := .slice A29 n29 c29) (by decide) (by kernel_rfl) ?_
      refine wl_pure rfl rfl (v := .slice A30 n30 c30) (by decide) (by kernel_rfl) ?_
      refine wl_pure rfl rfl (v := .int .i64 0) (by decide) (by kernel_rfl) ?_
      refine wl_assign rfl rfl (by decide) ?_
      refine wl_assign rfl rfl (by decide) ?_
      refine wl_assign rfl rfl (by decide) ?_
      refine wl_nil ?_
      refine eo_then ?_
      refine cw_seq ?_
      refine cw_region ?_
      refine wl_move rfl rfl (by decide) ?_
      refine wl_pure rfl rfl (v := .pointer (some ⟨g, 0, none⟩)) (by decide) (by kernel_rfl) ?_
      refine wl_pure rfl rfl (v := .pointer (some ⟨g, 1, none⟩)) (by decide) (by kernel_rfl) ?_
      refine wl_load rfl rfl (load_cell (fun _ => by kernel_rfl) (hW.ext (e23.trans e26)) rfl) (by decide) ?_
      refine wl_move rfl rfl (by decide) ?_
      refine wl_pureE rfl rfl (v := .int .u64 (IntKind.u64.wrap ((ip : Nat) : Int))) (v' := .int .u64 ((ip : Nat) : Int)) (by decide) (by kernel_rfl) (cv_u64 (by omega)) ?_
      refine wl_op rfl rfl rfl (r := .int .i64 ((k * 2 ^ ip : Nat) : Int)) rfl (fun w => i64_shl (x := k) (s := ip) (by omega) (by omega) _ _ w) (by decide) ?_
      refine wl_assign rfl rfl (by decide) ?_
      refine wl_nil ?_
      refine eo_then ?_
      refine cw_seq ?_
      refine cw_region ?_
      refine wl_move rfl rfl (by decide) ?_
      refine wl_move rfl rfl (by decide) ?_
      refine wl_move rfl rfl (by decide) ?_
      refine wl_ar rfl rfl rfl ((ip : Int) - 1) (ar_i64s rfl (by omega) (by omega)) (by decide) ?_
      refine wl_move rfl rfl (by decide) ?_
      refine wl_move rfl rfl (by decide) ?_
      refine wl_ar rfl rfl rfl (((width : Nat) : Int) - ((k * 2 ^ ip : Nat) : Int)) (ar_i64s rfl (by omega) (by omega)) (by decide) ?_
      refine wl_mm rfl rfl rfl (((width - k * 2 ^ ip : Nat) : Int)) (by omega) (by decide) ?_
      refine wl_call rfl rfl (vs := [.pointer (some ⟨g, 0, none⟩), .slice A29 n29 c29, .int .i64 ((ip : Int) - 1), .int .i64 ((width - k * 2 ^ ip : Nat) : Int)]) (by kernel_rfl) (by decide) (ih rfl (hS.ext (e23.trans e26)) hgS hbl hbu (hW.ext (e23.trans e26)) (hO.ext (e23.trans e26)) hgl (Nat.le_trans hlb hw2.size) o29.wi (by rw [j29]; exact hq1) hun hkk (by omega) (by omega) (hP.ext (e23.trans e26)) (by omega) hpn) ?_
      rintro _ v31 ⟨rfl, A32, n33, c34, hb35, ho36, uw37, kp38⟩
      refine ret_intro ?_
      have hw3 : UpdW lb w v31 := hw2.then uw37
      have kk39 := (Kept.refl w OA).next kp38 hw2.size
      refine wl_nil ?_
      refine eo_then ?_
      refine cw_region ?_
      refine wl_move rfl rfl (by decide) ?_
      refine wl_move rfl rfl (by decide) ?_
      refine wl_move rfl rfl (by decide) ?_
      refine wl_ar rfl rfl rfl ((ip : Int) - 1) (ar_i64s rfl (by omega) (by omega)) (by decide) ?_
      refine wl_move rfl rfl (by decide) ?_
      refine wl_call rfl rfl (vs := [.pointer (some ⟨g, 0, none⟩), .slice A30 n30 c30, .int .i64 ((ip : Int) - 1), .int .i64 ((k * 2 ^ ip : Nat) : Int)]) (by kernel_rfl) (by decide) (ih rfl (uw37.signs (hS.ext (e23.trans e26)) hgS) hgS hbl hbu hb35 ho36 hgl (Nat.le_trans hlb hw3.size) (uw37.own o30 (by decide) (by decide)).wi (by rw [j30]; exact hr1) hun hkk (by omega) (by rw [own_len ho36, List.length_append, txt_len, len_padTo, ← own_len hO]; omega) ((hP.ext (e23.trans e26)).updW uw37) (by omega) hpn) ?_
      rintro _ v40 ⟨rfl, A41, n42, c43, hb44, ho45, uw46, kp47⟩
      refine ret_intro ?_
      have hw4 : UpdW lb w v40 := hw3.then uw46
      have kk48 := kk39.next kp47 hw3.size
      refine wl_nil ?_
      refine eo_end [] rfl trivial ?_
      exact ⟨rfl, A41, _, _, hb44, (by rw [← txt_two (ip := ip) (width := width) hbl hge2 hp2, ← hun, ← List.append_assoc]; exact ho45), hw4, kk48⟩
theorem rx_halves : ∀ ip, HalvesOk ip
  | 0 => halves_zero
  | ip + 1 => halves_step (rx_halves ip)
end Go.Proofs.YtmjdmjflgiicaaaDoor

namespace Go.Proofs.YtmjdmjflgiicaaaDoor
open Go.RowKit
/-- a text's character that was read -/
structure Rune (bs : List Nat) (p r z : Nat) : Prop where
  le : r ≤ 2147483647
  low : bs.getD p 0 < 128 → r = bs.getD p 0 ∧ z = 1
  high : 128 ≤ bs.getD p 0 → 128 ≤ r
theorem Rune.dv {bs : List Nat} {p r z : Nat} (h : Rune bs p r z) : dv r = dv (bs.getD p 0) := by
  by_cases h1 : bs.getD p 0 < 128
  · rw [(h.low h1).1]
  · rw [dv_high (h.high (by omega)), dv_high (by omega)]
theorem Rune.one {bs : List Nat} {p r z : Nat} (h : Rune bs p r z) (hd : Go.Proofs.YtmjdmjflgiicaaaDoor.dv r < 36) : z = 1 ∧ r = bs.getD p 0 ∧ r < 128 := by
  by_cases h1 : bs.getD p 0 < 128
  · exact ⟨(h.low h1).2, (h.low h1).1, by rw [(h.low h1).1]; exact h1⟩
  · rw [dv_high (h.high (by omega))] at hd; omega
theorem rune_mk {bs : List Nat} (hb : ∀ b, b ∈ bs → b < 256) {p : Nat} (hp : p < bs.length) : Rune bs p (Utf8.decode (strB bs) p).1 (Utf8.decode (strB bs) p).2 := by
  refine ⟨decode_le _ _, fun h => by rw [decode_low hb hp h]; exact ⟨rfl, rfl⟩, fun h => ?_⟩
  have hs : p < (strB bs).size := by rw [strB_size]; exact hp
  exact (decode_high (strB bs) p hs (by rw [strB_get hb hp hs]; exact h)).1
section
variable {P : Program} {Q : Exit → Act → World → Prop} {n : Nat} {l : Fr} {w : World} {ops : Array Oper} {rest : List Oper} {d : Nat} {ty : TypeId} {pos : String} {af : Array Edge} {gd : Option (Nat × Bool)}
theorem wl_nextR {x : Operand} {g p : Nat} {bs : List Nat} (hw : guardB ops l gd = some true) (hx : evo l x = some (.pointer (some ⟨g, 0, none⟩))) (hb : ∀ b, b ∈ bs → b < 256) (h : It w g bs p) (hp : p < bs.length) (hn : d < n)
    (k : ∀ w' r z, Rune bs p r z → It w' g bs (p + z) → Upd g w w' → wl P ops Q n rest ((d, .tuple #[.bool true, .int .i64 (p : Int), .int .i32 (r : Int)]) :: l) w') :
    wl P ops Q n (⟨some d, .next x true, ty, pos, af, gd⟩ :: rest) l w :=
  wl_next hw hx h hp hn fun w' h1 h2 => k w' _ _ (rune_mk hb hp) h1 h2
/-- make([]byte, 0, k) -/
theorem wl_make80 {x y : Operand} {k : Nat} {t e : TypeId} {z : Value} (hw : guardB ops l gd = some true) (hx : evo l x = some (.int .i64 0)) (hy : evo l y = some (.int .i64 (k : Int))) (ht : P.underlying t = some (.slice e))
    (hinfo : (P.info? e).map (fun i => (i.zero, i.size, i.bytes)) = some (some z, 1, 1)) (_hz : z.cells = #[z]) (hk : k ≤ 1099511627776) (hd : d < n)
    (h : ∀ g w', Own w' w.heap.size e 1 (some ⟨g, 0, none⟩) 0 k [] → Ext w w' → wl P ops Q n rest ((d, .slice (some ⟨g, 0, none⟩) 0 k) :: l) w') : wl P ops Q n (⟨some d, .makeSlice t x y, ty, pos, af, gd⟩ :: rest) l w := by
  obtain ⟨i, hi, hz0, hz1, hz2⟩ := info_parts hinfo
  have hr := run_make (P := P) w t e i _ ht hi hz0 .i64 .i64 0 (k : Int) (by omega) (by omega) (by rw [hz2]; omega) (by omega)
  rw [Int.toNat_natCast, show (0 : Int).toNat = 0 from rfl, hz1] at hr
  obtain ⟨cs, hcs, hcl⟩ : ∃ cs : List Value, madeCells z.cells (k * 1) = cs.toArray ∧ cs.length = k * 1 := ⟨(madeCells z.cells (k * 1)).toList, Array.toArray_toList.symm, by rw [Array.length_toList, size_madeCells]⟩
  rw [hcs] at hr
  refine wl_val hw hd (fun a' ha => ?_) (h _ (w.alloc (.cells cs.toArray e)) (Or.inr ⟨w.heap.size, cs, rfl, Nat.le_refl _, Bk.new _ _ _, Nat.zero_le _, by rw [len_maxLen]; omega, hcl, rfl⟩) ((Ext.refl w).alloc _))
  have e' : (Instr.makeSlice t (a'.eval x) (a'.eval y)).run P w = .ok (.slice (some ⟨w.heap.size, 0, none⟩) 0 k) (w.alloc (.cells cs.toArray e)) := by rw [ha.ev hx, ha.ev hy]; exact hr
  show ((Instr.makeSlice t (a'.eval x) (a'.eval y) >>= fun r => pure (Next.value r) : Sem Next)).run P w = _
  rw [Sem.run_bind, e']; rfl
end
theorem cv_u8 {x : Nat} (h : x ≤ 255) : Value.int .u8 (IntKind.u8.wrap (x : Int)) = .int .u8 (x : Int) := by rw [IntWalk.u8_in _ ⟨by omega, by omega⟩]
theorem ai32_sub {A B : Int} {a b : Nat} (ha : A = (a : Int)) (hb : B = (b : Int)) (h : b ≤ a) (h2 : a ≤ 2147483647) : arB .sub .i32 A B = some ((a - b : Nat) : Int) := by
  subst ha hb; simp only [arB, Option.some.injEq]; rw [show (a : Int) - (b : Int) = ((a - b : Nat) : Int) by omega, IntWalk.i32_in _ ⟨by omega, by omega⟩]
/-- bytes that are read -/
structure Rb (b : Nat) (w : World) (A : Option Addr) (n c : Nat) (xs : List Nat) : Prop where
  rv : Rv w 1 A n c (xs.map B8)
  wf : ∀ x, x ∈ xs → x < b
theorem Rb.ext {b : Nat} {w w' : World} {A : Option Addr} {n c : Nat} {xs : List Nat} (h : Rb b w A n c xs) (e : Ext w w') : Rb b w' A n c xs := ⟨h.rv.ext e, h.wf⟩
theorem Rb.len {b : Nat} {w : World} {A : Option Addr} {n c : Nat} {xs : List Nat} (h : Rb b w A n c xs) : xs.length = n := by simpa using h.rv.len
theorem Rb.dig {b : Nat} {w : World} {A : Option Addr} {n c i : Nat} {xs : List Nat} (h : Rb b w A n c xs) (hi : i < n) : xs.getD i 0 < b := by
  have hl := h.len
  refine h.wf _ ?_
  rw [List.getD_eq_getElem?_getD, List.getElem?_eq_getElem (by omega)]
  exact List.getElem_mem (by omega)
theorem Rb.at {b : Nat} (_ : True) {w : World} {A : Option Addr} {n c : Nat} {xs : List Nat} (h : Rb b w A n c xs) {i : Nat} (hi : i < n) :
    ∃ p, A.map (·.add (i * 1)) = some p ∧ w.cell? p = some (.int .u8 ((xs.getD i 0 : Nat) : Int)) ∧ xs.getD i 0 < b := by
  have hl := h.len
  obtain ⟨a, rfl, hc⟩ := h.rv.get i (by omega)
  refine ⟨a.add i, by rw [Nat.mul_one]; rfl, ?_, h.dig hi⟩
  rw [hc, List.getD_eq_getElem?_getD, List.getElem?_map, List.getElem?_eq_getElem (by omega), List.getD_eq_getElem?_getD, List.getElem?_eq_getElem (by omega)]
  rfl
theorem Rb.take {b : Nat} {w : World} {A : Option Addr} {n c k : Nat} {xs : List Nat} (h : Rb b w A n c xs) (hk : k ≤ n) : Rb b w A k c (xs.take k) := by
  have hl := h.len
  have hle := h.rv.le
  refine ⟨⟨by rw [List.length_map, List.length_take, hl]; omega, by omega, h.rv.max, fun i hi => ?_, h.rv.blk⟩, fun x hx => h.wf x (List.mem_of_mem_take hx)⟩
  obtain ⟨a, ha, hc⟩ := h.rv.get i (by omega)
  refine ⟨a, ha, hc.trans ?_⟩
  rw [List.map_take, List.getD_eq_getElem?_getD, List.getD_eq_getElem?_getD, List.getElem?_take, if_pos (by omega)]
theorem Rb.drop {b : Nat} {w : World} {A : Option Addr} {n c k : Nat} {xs : List Nat} (h : Rb b w A n c xs) (hk : k ≤ n) : Rb b w (if c = k then A else A.map (·.add (k * 1))) (n - k) (c - k) (xs.drop k) := by
  have hle := h.rv.le
  have hl := h.len
  refine ⟨⟨by rw [List.length_map, List.length_drop, hl, Nat.mul_one], by omega, by have := h.rv.max; omega, fun i hi => ?_, fun a ha hc => ?_⟩, fun x hx => h.wf x (List.mem_of_mem_drop hx)⟩
  · rw [if_neg (by omega)]
    obtain ⟨a, rfl, hc⟩ := h.rv.get (k + i) (by omega)
    refine ⟨a.add (k * 1), rfl, ?_⟩
    rw [Nat.mul_one, Addr.add_add, hc]
    simp [List.getD_eq_getElem?_getD, List.getElem?_map, List.getElem?_drop]
  · rw [if_neg (by omega)] at ha
    cases A with
    | none => cases ha
    | some p =>
      cases ha
      rw [block_of_add]
      exact h.rv.blk p rfl (by omega)
theorem Own.rb {w : World} {lb b n c : Nat} {A : Option Addr} {xs : List Nat} (h : Own w lb 5 1 A n c (xs.map B8)) (hd : ∀ x, x ∈ xs → x < b) : Rb b w A n c xs := ⟨h.rv, hd⟩
theorem slice_to8 (A : Option Addr) (c k : Nat) : Value.slice (if c = 0 then A else A.map (·.add (0 * 1))) (k - 0) (c - 0) = .slice A k c := by
  have h0 : A.map (·.add (0 * 1)) = A := by
    cases A with
    | none => rfl
    | some a => simp [Addr.add]
  rw [h0, ite_self]; rfl
theorem slice_from (A : Option Addr) (n c k : Nat) : Value.slice (if c = k then A else A.map (·.add (k * 1))) (n - k) (c - k) = .slice (if c = k then A else A.map (·.add (k * 1))) (n - k) (c - k) := rfl
section
variable {w : World} {b : Nat}
theorem rx_MulW (hb : b ≤ w.heap.size) {A B : Option Addr} {n c m d x y : Nat} (hx : Wi w A n c x) (hy : Wi w B m d y) (hN : n + m ≤ 274877906944) : Calls Tryd.prog 57 #[.slice A n c, .slice B m d] w (Gv w (WR b (x * y))) := by
  obtain ⟨xs, h1, rfl⟩ := hx; obtain ⟨ys, h2, rfl⟩ := hy
  exact (mulnat_Mul h1 h2 hN).mono (gw hb)
theorem mulnat_MulAdd {A B C : Option Addr} {n cap m cap' k c : Nat} {xs ys zs : List Nat} (hx : Rd w A n cap xs) (hy : Rd w B m cap' ys) (hz : Rd w C k c zs) (hN : n + m ≤ 274877906944) (hk : k ≤ 1099511627775) :
    Calls Tryd.prog 39 #[.slice A n cap, .slice B m cap', .slice C k c] w (RetW w (nv xs * nv ys + nv zs)) := by
  go_enter Tryd.func39, Tryd.ntmps39
  go_wp2_with fail
  refine (mul_product hx hy hN).mono ?_
  rintro e w1 ⟨k1, hk1, g1, z1, rfl, hg1, hb1, hw1, hl1, hv1, hx1⟩
  have hk1b : k1 ≤ n + m := by
    rw [hk1.out]
    have h1 := len_wd_nv hx.wf
    have h2 := len_wd_nv hy.wf
    rw [hx.len] at h1
    rw [hy.len] at h2
    omega
  go_wp2_with fail
  refine (nat_Add (NewP.rd hb1 hw1 hl1.out (by omega)) (by omega) (hz.ext hx1) hk).mono ?_
  rintro e w2 ⟨A2, n2, c2, rfl, hn2, hr2, ho2, hx2⟩
  go_wp2_with fail
  go_ret
  rw [hv1.out] at hn2 hr2 ho2
  exact ⟨A2, n2, c2, rfl, hn2, hr2, ho2.mono hx1.size, hx1.trans hx2⟩
theorem rx_MulAdd (hb : b ≤ w.heap.size) {A B C : Option Addr} {an ac bn bc cn cc x y z : Nat} (hx : Wi w A an ac x) (hy : Wi w B bn bc y) (hz : Wi w C cn cc z) (hN : an + bn ≤ 274877906944) (hcn : cn ≤ 1099511627775) : Calls Tryd.prog 39 #[.slice A an ac, .slice B bn bc, .slice C cn cc] w (Gv w (WR b (x * y + z))) := by
  obtain ⟨xs, h1, rfl⟩ := hx; obtain ⟨ys, h2, rfl⟩ := hy; obtain ⟨zs, h3, rfl⟩ := hz
  exact (mulnat_MulAdd h1 h2 h3 hN hcn).mono (gw hb)
theorem rx_AddW (hb : b ≤ w.heap.size) {A B : Option Addr} {n c m d x y : Nat} (hx : Wi w A n c x) (hl : n ≤ 1099511627775) (hy : Wi w B m d y) (hl' : m ≤ 1099511627775) : Calls Tryd.prog 58 #[.slice A n c, .slice B m d] w (Gv w (WR b (x + y))) := by
  obtain ⟨xs, h1, rfl⟩ := hx; obtain ⟨ys, h2, rfl⟩ := hy
  exact (nat_Add h1 hl h2 hl').mono (gw hb)
theorem rx_MulWord (hb : b ≤ w.heap.size) {A : Option Addr} {n c x v : Nat} (hx : Wi w A n c x) (hl : n ≤ 137438953472) (hv : v ≤ 18446744073709551615) : Calls Tryd.prog 91 #[.slice A n c, .int .u64 (v : Int)] w (Gv w (WR b (x * v))) := by
  obtain ⟨xs, h1, rfl⟩ := hx
  exact (mulnat_Word h1 hl hv).mono (gw hb)
theorem rx_LeastW (hb : b ≤ w.heap.size) {A : Option Addr} {n c m : Nat} (hx : Wi w A n c m) (hl : n ≤ 1099511627776) : Calls Tryd.prog 38 #[.slice A n c] w (Gv w (WR b m)) := (g_nat_LeastW hx hl).mono (Gv.imp (WR.imp hb))
end
theorem len_vald {b : Nat} (hb : 1 ≤ b) (hb2 : b ≤ 36) {ds : List Nat} (h : ∀ d, d ∈ ds → d < b) : (wd (vald b ds)).length ≤ ds.length :=
  len_wd_le (Nat.lt_of_lt_of_le (vald_lt hb ds h) (Nat.pow_le_pow_left (by rw [WB_def]; omega) _))
theorem len_pow36 {b n : Nat} (hb2 : b ≤ 36) : (wd (b ^ n)).length ≤ n + 1 :=
  len_wd_le (Nat.lt_of_le_of_lt (Nat.pow_le_pow_left (show b ≤ WB by rw [WB_def]; omega) n) (Nat.pow_lt_pow_right (show 1 < WB by rw [WB_def]; omega) (Nat.lt_succ_self n)))
theorem pw_half {p b n : Nat} : p * (b * b) ^ (n / 2) * b ^ (n % 2) = p * b ^ n := by
  rw [← Nat.pow_two, ← Nat.pow_mul, Nat.mul_assoc, ← Nat.pow_add]
  congr 2
  omega
theorem pw_odd {p b n : Nat} (h : n % 2 = 1) : p * b * (b * b) ^ (n / 2) = p * b ^ n := by
  have := pw_half (p := p) (b := b) (n := n)
  rw [h, Nat.pow_one] at this
  rw [← this, Nat.mul_assoc, Nat.mul_assoc, Nat.mul_comm b]
theorem pw_even {p b n : Nat} (h : ¬ n % 2 = 1) : p * (b * b) ^ (n / 2) = p * b ^ n := by
  have := pw_half (p := p) (b := b) (n := n)
  rw [show n % 2 = 0 by omega, Nat.pow_zero, Nat.mul_one] at this
  exact this
theorem pw_last {p b c n : Nat} (h : n = 1) : p * b * c ^ (n / 2) = p * b ^ n := by subst h; simp
theorem pw_b {p b n X : Nat} (h : p * b ^ n = X) (hp : 1 ≤ p) (hb : 1 ≤ b) (hn : 0 < n) : b ≤ X := by
  rw [← h]
  have h1 : b ^ 1 ≤ b ^ n := Nat.pow_le_pow_right hb hn
  rw [Nat.pow_one] at h1
  exact Nat.le_trans h1 (Nat.le_mul_of_pos_left _ hp)
theorem pw_p {p b n X : Nat} (h : p * b ^ n = X) (hb : 1 ≤ b) : p ≤ X := by
  rw [← h]; exact Nat.le_mul_of_pos_right _ (Nat.pow_pos hb)
theorem vald_piece {b : Nat} {pre xs : List Nat} {k : Nat} (hk : k ≤ xs.length) : vald b (pre ++ xs.take k) = vald b pre * b ^ k + vald b (xs.take k) := by
  rw [vald_append, List.length_take, Nat.min_eq_left hk]
theorem take_get {xs : List Nat} {i n : Nat} (h : i < n) (hn : n ≤ xs.length) : xs.take (i + 1) = xs.take i ++ [(xs.take n).getD i 0] := by
  rw [List.take_add_one, List.getD_eq_getElem?_getD, List.getElem?_take, if_pos h, List.getElem?_eq_getElem (by omega)]
  rfl
set_option maxHeartbeats 4000000 in
theorem rx_value {w : World} {c : Nat} (hc : c ≤ 2147483647) :
    Calls Tryd.prog 64 #[.int .i32 ((c : Nat) : Int)] w (Gv w (Is (.int .i64 ((dv c : Nat) : Int)))) := by
  refine sx_enter Tryd.func64 rfl (n := 35) rfl (Nat.le_of_ble_eq_true rfl) (args := [.int .i32 ((c : Nat) : Int)]) ?_
  refine cw_keep [(0, .int .i32 ((c : Nat) : Int))] ⟨rfl, trivial⟩ ?_
  refine cw_seq ?_
  refine cw_region ?_
  refine wl_assign rfl rfl (by decide) ?_
  refine wl_nil ?_
  refine eo_then ?_
  refine cw_seq ?_
  refine cw_block ?_
  refine cw_seq ?_
  by_cases ha48 : c ≥ 48
  ·
    by_cases hb57 : c ≤ 57
    ·
      refine cw_region ?_
      refine wl_move rfl rfl (by decide) ?_
      refine wl_cmp rfl rfl rfl true (cb_ge_t (a := c) (b := 48) rfl rfl (by omega)) (by decide) ?_
      refine wl_move rfl rfl (by decide) ?_
      refine wl_move rfl rfl (by decide) ?_
      refine wl_cmp rfl rfl rfl true (cb_le_t (a := c) (b := 57) rfl rfl (by omega)) (by decide) ?_
      refine wl_pure rfl rfl (v := .bool true) (by decide) (by kernel_rfl) ?_
      refine wl_assign rfl rfl (by decide) ?_
      refine wl_nil ?_
      refine eo_then ?_
      refine cw_true rfl ?_
      refine cw_seq ?_
      refine cw_region ?_
      refine wl_move rfl rfl (by decide) ?_
      refine wl_ar rfl rfl rfl ((c - 48 : Nat) : Int) (ai32_sub (a := c) (b := 48) rfl rfl (by omega) (by omega)) (by decide) ?_
      refine wl_pureE rfl rfl (v := .int .i64 (IntKind.i64.wrap ((c - 48 : Nat) : Int))) (v' := .int .i64 ((c - 48 : Nat) : Int)) (by decide) (by kernel_rfl) (cv_i64 (by first | omega | exact hle64)) ?_
      refine wl_assign rfl rfl (by decide) ?_
      refine wl_nil ?_
      refine eo_then ?_
      refine cw_ret ?_
      refine eo_block_ret ?_
      refine eo_thenR ?_
      refine eo_ret [.int .i64 ((c - 48 : Nat) : Int)] rfl ⟨rfl, trivial⟩ ?_
      have hv : c - 48 = dv c := by unfold dv; (repeat' split) <;> omega
      exact ⟨_, rfl, (show Value.int .i64 ((c - 48 : Nat) : Int) = _ by rw [hv]), (Ext.refl w)⟩
    ·
      refine cw_region ?_
      refine wl_move rfl rfl (by decide) ?_
      refine wl_cmp rfl rfl rfl true (cb_ge_t (a := c) (b := 48) rfl rfl (by omega)) (by decide) ?_
      refine wl_move rfl rfl (by decide) ?_
      refine wl_move rfl rfl (by decide) ?_
      refine wl_cmp rfl rfl rfl false (cb_le_f (a := c) (b := 57) rfl rfl (by omega)) (by decide) ?_
      refine wl_pure rfl rfl (v := .bool false) (by decide) (by kernel_rfl) ?_
      refine wl_assign rfl rfl (by decide) ?_
      refine wl_nil ?_
      refine eo_then ?_
      refine cw_false rfl ?_
      refine cw_seq ?_
      by_cases ha97 : c ≥ 97
      ·
        by_cases hb122 : c ≤ 122
        ·
          refine cw_region ?_
          refine wl_move rfl rfl (by decide) ?_
          refine wl_cmp rfl rfl rfl true (cb_ge_t (a := c) (b := 97) rfl rfl (by omega)) (by decide) ?_
          refine wl_move rfl rfl (by decide) ?_
          refine wl_move rfl rfl (by decide) ?_
          refine wl_cmp rfl rfl rfl true (cb_le_t (a := c) (b := 122) rfl rfl (by omega)) (by decide) ?_
          refine wl_pure rfl rfl (v := .bool true) (by decide) (by kernel_rfl) ?_
          refine wl_assign rfl rfl (by decide) ?_
          refine wl_nil ?_
          refine eo_then ?_
          refine cw_true rfl ?_
          refine cw_seq ?_
          refine cw_region ?_
          refine wl_move rfl rfl (by decide) ?_
          refine wl_ar rfl rfl rfl ((c - 97 : Nat) : Int) (ai32_sub (a := c) (b := 97) rfl rfl (by omega) (by omega)) (by decide) ?_
          refine wl_pureE rfl rfl (v := .int .i64 (IntKind.i64.wrap ((c - 97 : Nat) : Int))) (v' := .int .i64 ((c - 97 : Nat) : Int)) (by decide) (by kernel_rfl) (cv_i64 (by first | omega | exact hle64)) ?_
          refine wl_ar rfl rfl rfl (((c - 97) + 10 : Nat) : Int) (ai_add (a := c - 97) (b := 10) rfl rfl (by omega)) (by decide) ?_
          refine wl_assign rfl rfl (by decide) ?_
          refine wl_nil ?_
          refine eo_then ?_
          refine cw_ret ?_
          refine eo_block_ret ?_
          refine eo_thenR ?_
          refine eo_ret [.int .i64 (((c - 97) + 10 : Nat) : Int)] rfl ⟨rfl, trivial⟩ ?_
          have hv : (c - 97) + 10 = dv c := by unfold dv; (repeat' split) <;> omega
          exact ⟨_, rfl, (show Value.int .i64 (((c - 97) + 10 : Nat) : Int) = _ by rw [hv]), (Ext.refl w)⟩
        ·
          refine cw_region ?_
          refine wl_move rfl rfl (by decide) ?_
          refine wl_cmp rfl rfl rfl true (cb_ge_t (a := c) (b := 97) rfl rfl (by omega)) (by decide) ?_
          refine wl_move rfl rfl (by decide) ?_
          refine wl_move rfl rfl (by decide) ?_
          refine wl_cmp rfl rfl rfl false (cb_le_f (a := c) (b := 122) rfl rfl (by omega)) (by decide) ?_
          refine wl_pure rfl rfl (v := .bool false) (by decide) (by kernel_rfl) ?_
          refine wl_assign rfl rfl (by decide) ?_
          refine wl_nil ?_
          refine eo_then ?_
          refine cw_false rfl ?_
          refine cw_seq ?_
          by_cases ha65 : c ≥ 65
          ·
            by_cases hb90 : c ≤ 90
            ·
              refine cw_region ?_
              refine wl_move rfl rfl (by decide) ?_
              refine wl_cmp rfl rfl rfl true (cb_ge_t (a := c) (b := 65) rfl rfl (by omega)) (by decide) ?_
              refine wl_move rfl rfl (by decide) ?_
              refine wl_move rfl rfl (by decide) ?_
              refine wl_cmp rfl rfl rfl true (cb_le_t (a := c) (b := 90) rfl rfl (by omega)) (by decide) ?_
              refine wl_pure rfl rfl (v := .bool true) (by decide) (by kernel_rfl) ?_
              refine wl_assign rfl rfl (by decide) ?_
              refine wl_nil ?_
              refine eo_then ?_
              refine cw_true rfl ?_
              refine cw_seq ?_
              refine cw_region ?_
              refine wl_move rfl rfl (by decide) ?_
              refine wl_ar rfl rfl rfl ((c - 65 : Nat) : Int) (ai32_sub (a := c) (b := 65) rfl rfl (by omega) (by omega)) (by decide) ?_
              refine wl_pureE rfl rfl (v := .int .i64 (IntKind.i64.wrap ((c - 65 : Nat) : Int))) (v' := .int .i64 ((c - 65 : Nat) : Int)) (by decide) (by kernel_rfl) (cv_i64 (by first | omega | exact hle64)) ?_
              refine wl_ar rfl rfl rfl (((c - 65) + 10 : Nat) : Int) (ai_add (a := c - 65) (b := 10) rfl rfl (by omega)) (by decide) ?_
              refine wl_assign rfl rfl (by decide) ?_
              refine wl_nil ?_
              refine eo_then ?_
              refine cw_ret ?_
              refine eo_block_ret ?_
              refine eo_thenR ?_
              refine eo_ret [.int .i64 (((c - 65) + 10 : Nat) : Int)] rfl ⟨rfl, trivial⟩ ?_
              have hv : (c - 65) + 10 = dv c := by unfold dv; (repeat' split) <;> omega
              exact ⟨_, rfl, (show Value.int .i64 (((c - 65) + 10 : Nat) : Int) = _ by rw [hv]), (Ext.refl w)⟩
            ·
              refine cw_region ?_
              refine wl_move rfl rfl (by decide) ?_
              refine wl_cmp rfl rfl rfl true (cb_ge_t (a := c) (b := 65) rfl rfl (by omega)) (by decide) ?_
              refine wl_move rfl rfl (by decide) ?_
              refine wl_move rfl rfl (by decide) ?_
              refine wl_cmp rfl rfl rfl false (cb_le_f (a := c) (b := 90) rfl rfl (by omega)) (by decide) ?_
              refine wl_pure rfl rfl (v := .bool false) (by decide) (by kernel_rfl) ?_
              refine wl_assign rfl rfl (by decide) ?_
              refine wl_nil ?_
              refine eo_then ?_
              refine cw_false rfl ?_
              refine cw_skip ?_
              refine eo_block_normal ?_
              refine eo_then ?_
              refine cw_seq ?_
              refine cw_region ?_
              refine wl_assign rfl rfl (by decide) ?_
              refine wl_nil ?_
              refine eo_then ?_
              refine cw_ret ?_
              refine eo_ret [.int .i64 36] rfl ⟨rfl, trivial⟩ ?_
              have hv : 36 = dv c := by unfold dv; (repeat' split) <;> omega
              exact ⟨_, rfl, (show Value.int .i64 ((36 : Nat) : Int) = _ by rw [hv]), (Ext.refl w)⟩
          ·
            refine cw_region ?_
            refine wl_move rfl rfl (by decide) ?_
            refine wl_cmp rfl rfl rfl false (cb_ge_f (a := c) (b := 65) rfl rfl (by omega)) (by decide) ?_
            refine wl_move rfl rfl (by decide) ?_
            refine wl_off rfl (by decide) ?_
            refine wl_off rfl (by decide) ?_
            refine wl_pure rfl rfl (v := .bool false) (by decide) (by kernel_rfl) ?_
            refine wl_assign rfl rfl (by decide) ?_
            refine wl_nil ?_
            refine eo_then ?_
            refine cw_false rfl ?_
            refine cw_skip ?_
            refine eo_block_normal ?_
            refine eo_then ?_
            refine cw_seq ?_
            refine cw_region ?_
            refine wl_assign rfl rfl (by decide) ?_
            refine wl_nil ?_
            refine eo_then ?_
            refine cw_ret ?_
            refine eo_ret [.int .i64 36] rfl ⟨rfl, trivial⟩ ?_
            have hv : 36 = dv c := by unfold dv; (repeat' split) <;> omega
            exact ⟨_, rfl, (show Value.int .i64 ((36 : Nat) : Int) = _ by rw [hv]), (Ext.refl w)⟩
      ·
        refine cw_region ?_
        refine wl_move rfl rfl (by decide) ?_
        refine wl_cmp rfl rfl rfl false (cb_ge_f (a := c) (b := 97) rfl rfl (by omega)) (by decide) ?_
        refine wl_move rfl rfl (by decide) ?_
        refine wl_off rfl (by decide) ?_
        refine wl_off rfl (by decide) ?_
        refine wl_pure rfl rfl (v := .bool false) (by decide) (by kernel_rfl) ?_
        refine wl_assign rfl rfl (by decide) ?_
        refine wl_nil ?_
        refine eo_then ?_
        refine cw_false rfl ?_
        refine cw_seq ?_
        by_cases ha65 : c ≥ 65
        ·
          by_cases hb90 : c ≤ 90
          ·
            refine cw_region ?_
            refine wl_move rfl rfl (by decide) ?_
            refine wl_cmp rfl rfl rfl true (cb_ge_t (a := c) (b := 65) rfl rfl (by omega)) (by decide) ?_
            refine wl_move rfl rfl (by decide) ?_
            refine wl_move rfl rfl (by decide) ?_
            refine wl_cmp rfl rfl rfl true (cb_le_t (a := c) (b := 90) rfl rfl (by omega)) (by decide) ?_
            refine wl_pure rfl rfl (v := .bool true) (by decide) (by kernel_rfl) ?_
            refine wl_assign rfl rfl (by decide) ?_
            refine wl_nil ?_
            refine eo_then ?_
            refine cw_true rfl ?_
            refine cw_seq ?_
            refine cw_region ?_
            refine wl_move rfl rfl (by decide) ?_
            refine wl_ar rfl rfl rfl ((c - 65 : Nat) : Int) (ai32_sub (a := c) (b := 65) rfl rfl (by omega) (by omega)) (by decide) ?_
            refine wl_pureE rfl rfl (v := .int .i64 (IntKind.i64.wrap ((c - 65 : Nat) : Int))) (v' := .int .i64 ((c - 65 : Nat) : Int)) (by decide) (by kernel_rfl) (cv_i64 (by first | omega | exact hle64)) ?_
            refine wl_ar rfl rfl rfl (((c - 65) + 10 : Nat) : Int) (ai_add (a := c - 65) (b := 10) rfl rfl (by omega)) (by decide) ?_
            refine wl_assign rfl rfl (by decide) ?_
            refine wl_nil ?_
            refine eo_then ?_
            refine cw_ret ?_
            refine eo_block_ret ?_
            refine eo_thenR ?_
            refine eo_ret [.int .i64 (((c - 65) + 10 : Nat) : Int)] rfl ⟨rfl, trivial⟩ ?_
            have hv : (c - 65) + 10 = dv c := by unfold dv; (repeat' split) <;> omega
            exact ⟨_, rfl, (show Value.int .i64 (((c - 65) + 10 : Nat) : Int) = _ by rw [hv]), (Ext.refl w)⟩
          ·
            refine cw_region ?_
            refine wl_move rfl rfl (by decide) ?_
            refine wl_cmp rfl rfl rfl true (cb_ge_t (a := c) (b := 65) rfl rfl (by omega)) (by decide) ?_
            refine wl_move rfl rfl (by decide) ?_
            refine wl_move rfl rfl (by decide) ?_
            refine wl_cmp rfl rfl rfl false (cb_le_f (a := c) (b := 90) rfl rfl (by omega)) (by decide) ?_
            refine wl_pure rfl rfl (v := .bool false) (by decide) (by kernel_rfl) ?_
            refine wl_assign rfl rfl (by decide) ?_
            refine wl_nil ?_
            refine eo_then ?_
            refine cw_false rfl ?_
            refine cw_skip ?_
            refine eo_block_normal ?_
            refine eo_then ?_
            refine cw_seq ?_
            refine cw_region ?_
            refine wl_assign rfl rfl (by decide) ?_
            refine wl_nil ?_
            refine eo_then ?_
            refine cw_ret ?_
            refine eo_ret [.int .i64 36] rfl ⟨rfl, trivial⟩ ?_
            have hv : 36 = dv c := by unfold dv; (repeat' split) <;> omega
            exact ⟨_, rfl, (show Value.int .i64 ((36 : Nat) : Int) = _ by rw [hv]), (Ext.refl w)⟩
        ·
          refine cw_region ?_
          refine wl_move rfl rfl (by decide) ?_
          refine wl_cmp rfl rfl rfl false (cb_ge_f (a := c) (b := 65) rfl rfl (by omega)) (by decide) ?_
          refine wl_move rfl rfl (by decide) ?_
          refine wl_off rfl (by decide) ?_
          refine wl_off rfl (by decide) ?_
          refine wl_pure rfl rfl (v := .bool false) (by decide) (by kernel_rfl) ?_
          refine wl_assign rfl rfl (by decide) ?_
          refine wl_nil ?_
          refine eo_then ?_
          refine cw_false rfl ?_
          refine cw_skip ?_
          refine eo_block_normal ?_
          refine eo_then ?_
          refine cw_seq ?_
          refine cw_region ?_
          refine wl_assign rfl rfl (by decide) ?_
          refine wl_nil ?_
          refine eo_then ?_
          refine cw_ret ?_
          refine eo_ret [.int .i64 36] rfl ⟨rfl, trivial⟩ ?_
          have hv : 36 = dv c := by unfold dv; (repeat' split) <;> omega
          exact ⟨_, rfl, (show Value.int .i64 ((36 : Nat) : Int) = _ by rw [hv]), (Ext.refl w)⟩
  ·
    refine cw_region ?_
    refine wl_move rfl rfl (by decide) ?_
    refine wl_cmp rfl rfl rfl false (cb_ge_f (a := c) (b := 48) rfl rfl (by omega)) (by decide) ?_
    refine wl_move rfl rfl (by decide) ?_
    refine wl_off rfl (by decide) ?_
    refine wl_off rfl (by decide) ?_
    refine wl_pure rfl rfl (v := .bool false) (by decide) (by kernel_rfl) ?_
    refine wl_assign rfl rfl (by decide) ?_
    refine wl_nil ?_
    refine eo_then ?_
    refine cw_false rfl ?_
    refine cw_seq ?_
    by_cases ha97 : c ≥ 97
    ·
      by_cases hb122 : c ≤ 122
      ·
        refine cw_region ?_
        refine wl_move rfl rfl (by decide) ?_
        refine wl_cmp rfl rfl rfl true (cb_ge_t (a := c) (b := 97) rfl rfl (by omega)) (by decide) ?_
        refine wl_move rfl rfl (by decide) ?_
        refine wl_move rfl rfl (by decide) ?_
        refine wl_cmp rfl rfl rfl true (cb_le_t (a := c) (b := 122) rfl rfl (by omega)) (by decide) ?_
        refine wl_pure rfl rfl (v := .bool true) (by decide) (by kernel_rfl) ?_
        refine wl_assign rfl rfl (by decide) ?_
        refine wl_nil ?_
        refine eo_then ?_
        refine cw_true rfl ?_
        refine cw_seq ?_
        refine cw_region ?_
        refine wl_move rfl rfl (by decide) ?_
        refine wl_ar rfl rfl rfl ((c - 97 : Nat) : Int) (ai32_sub (a := c) (b := 97) rfl rfl (by omega) (by omega)) (by decide) ?_
        refine wl_pureE rfl rfl (v := .int .i64 (IntKind.i64.wrap ((c - 97 : Nat) : Int))) (v' := .int .i64 ((c - 97 : Nat) : Int)) (by decide) (by kernel_rfl) (cv_i64 (by first | omega | exact hle64)) ?_
        refine wl_ar rfl rfl rfl (((c - 97) + 10 : Nat) : Int) (ai_add (a := c - 97) (b := 10) rfl rfl (by omega)) (by decide) ?_
        refine wl_assign rfl rfl (by decide) ?_
        refine wl_nil ?_
        refine eo_then ?_
        refine cw_ret ?_
        refine eo_block_ret ?_
        refine eo_thenR ?_
        refine eo_ret [.int .i64 (((c - 97) + 10 : Nat) : Int)] rfl ⟨rfl, trivial⟩ ?_
        have hv : (c - 97) + 10 = dv c := by unfold dv; (repeat' split) <;> omega
        exact ⟨_, rfl, (show Value.int .i64 (((c - 97) + 10 : Nat) : Int) = _ by rw [hv]), (Ext.refl w)⟩
      ·
        refine cw_region ?_
        refine wl_move rfl rfl (by decide) ?_
        refine wl_cmp rfl rfl rfl true (cb_ge_t (a := c) (b := 97) rfl rfl (by omega)) (by decide) ?_
        refine wl_move rfl rfl (by decide) ?_
        refine wl_move rfl rfl (by decide) ?_
        refine wl_cmp rfl rfl rfl false (cb_le_f (a := c) (b := 122) rfl rfl (by omega)) (by decide) ?_
        refine wl_pure rfl rfl (v := .bool false) (by decide) (by kernel_rfl) ?_
        refine wl_assign rfl rfl (by decide) ?_
        refine wl_nil ?_
        refine eo_then ?_
        refine cw_false rfl ?_
        refine cw_seq ?_
        by_cases ha65 : c ≥ 65
        ·
          by_cases hb90 : c ≤ 90
          ·
            refine cw_region ?_
            refine wl_move rfl rfl (by decide) ?_
            refine wl_cmp rfl rfl rfl true (cb_ge_t (a := c) (b := 65) rfl rfl (by omega)) (by decide) ?_
            refine wl_move rfl rfl (by decide) ?_
            refine wl_move rfl rfl (by decide) ?_
            refine wl_cmp rfl rfl rfl true (cb_le_t (a := c) (b := 90) rfl rfl (by omega)) (by decide) ?_
            refine wl_pure rfl rfl (v := .bool true) (by decide) (by kernel_rfl) ?_
            refine wl_assign rfl rfl (by decide) ?_
            refine wl_nil ?_
            refine eo_then ?_
            refine cw_true rfl ?_
            refine cw_seq ?_
            refine cw_region ?_
            refine wl_move rfl rfl (by decide) ?_
            refine wl_ar rfl rfl rfl ((c - 65 : Nat) : Int) (ai32_sub (a := c) (b := 65) rfl rfl (by omega) (by omega)) (by decide) ?_
            refine wl_pureE rfl rfl (v := .int .i64 (IntKind.i64.wrap ((c - 65 : Nat) : Int))) (v' := .int .i64 ((c - 65 : Nat) : Int)) (by decide) (by kernel_rfl) (cv_i64 (by first | omega | exact hle64)) ?_
            refine wl_ar rfl rfl rfl (((c - 65) + 10 : Nat) : Int) (ai_add (a := c - 65) (b := 10) rfl rfl (by omega)) (by decide) ?_
            refine wl_assign rfl rfl (by decide) ?_
            refine wl_nil ?_
            refine eo_then ?_
            refine cw_ret ?_
            refine eo_block_ret ?_
            refine eo_thenR ?_
            refine eo_ret [.int .i64 (((c - 65) + 10 : Nat) : Int)] rfl ⟨rfl, trivial⟩ ?_
            have hv : (c - 65) + 10 = dv c := by unfold dv; (repeat' split) <;> omega
            exact ⟨_, rfl, (show Value.int .i64 (((c - 65) + 10 : Nat) : Int) = _ by rw [hv]), (Ext.refl w)⟩
          ·
            refine cw_region ?_
            refine wl_move rfl rfl (by decide) ?_
            refine wl_cmp rfl rfl rfl true (cb_ge_t (a := c) (b := 65) rfl rfl (by omega)) (by decide) ?_
            refine wl_move rfl rfl (by decide) ?_
            refine wl_move rfl rfl (by decide) ?_
            refine wl_cmp rfl rfl rfl false (cb_le_f (a := c) (b := 90) rfl rfl (by omega)) (by decide) ?_
            refine wl_pure rfl rfl (v := .bool false) (by decide) (by kernel_rfl) ?_
            refine wl_assign rfl rfl (by decide) ?_
            refine wl_nil ?_
            refine eo_then ?_
            refine cw_false rfl ?_
            refine cw_skip ?_
            refine eo_block_normal ?_
            refine eo_then ?_
            refine cw_seq ?_
            refine cw_region ?_
            refine wl_assign rfl rfl (by decide) ?_
            refine wl_nil ?_
            refine eo_then ?_
            refine cw_ret ?_
            refine eo_ret [.int .i64 36] rfl ⟨rfl, trivial⟩ ?_
            have hv : 36 = dv c := by unfold dv; (repeat' split) <;> omega
            exact ⟨_, rfl, (show Value.int .i64 ((36 : Nat) : Int) = _ by rw [hv]), (Ext.refl w)⟩
        ·
          refine cw_region ?_
          refine wl_move rfl rfl (by decide) ?_
          refine wl_cmp rfl rfl rfl false (cb_ge_f (a := c) (b := 65) rfl rfl (by omega)) (by decide) ?_
          refine wl_move rfl rfl (by decide) ?_
          refine wl_off rfl (by decide) ?_
          refine wl_off rfl (by decide) ?_
          refine wl_pure rfl rfl (v := .bool false) (by decide) (by kernel_rfl) ?_
          refine wl_assign rfl rfl (by decide) ?_
          refine wl_nil ?_
          refine eo_then ?_
          refine cw_false rfl ?_
          refine cw_skip ?_
          refine eo_block_normal ?_
          refine eo_then ?_
          refine cw_seq ?_
          refine cw_region ?_
          refine wl_assign rfl rfl (by decide) ?_
          refine wl_nil ?_
          refine eo_then ?_
          refine cw_ret ?_
          refine eo_ret [.int .i64 36] rfl ⟨rfl, trivial⟩ ?_
          have hv : 36 = dv c := by unfold dv; (repeat' split) <;> omega
          exact ⟨_, rfl, (show Value.int .i64 ((36 : Nat) : Int) = _ by rw [hv]), (Ext.refl w)⟩
    ·
      refine cw_region ?_
      refine wl_move rfl rfl (by decide) ?_
      refine wl_cmp rfl rfl rfl false (cb_ge_f (a := c) (b := 97) rfl rfl (by omega)) (by decide) ?_
      refine wl_move rfl rfl (by decide) ?_
      refine wl_off rfl (by decide) ?_
      refine wl_off rfl (by decide) ?_
      refine wl_pure rfl rfl (v := .bool false) (by decide) (by kernel_rfl) ?_
      refine wl_assign rfl rfl (by decide) ?_
      refine wl_nil ?_
      refine eo_then ?_
      refine cw_false rfl ?_
      refine cw_seq ?_
      by_cases ha65 : c ≥ 65
      ·
        by_cases hb90 : c ≤ 90
        ·
          refine cw_region ?_
          refine wl_move rfl rfl (by decide) ?_
          refine wl_cmp rfl rfl rfl true (cb_ge_t (a := c) (b := 65) rfl rfl (by omega)) (by decide) ?_
          refine wl_move rfl rfl (by decide) ?_
          refine wl_move rfl rfl (by decide) ?_
          refine wl_cmp rfl rfl rfl true (cb_le_t (a := c) (b := 90) rfl rfl (by omega)) (by decide) ?_
          refine wl_pure rfl rfl (v := .bool true) (by decide) (by kernel_rfl) ?_
          refine wl_assign rfl rfl (by decide) ?_
          refine wl_nil ?_
          refine eo_then ?_
          refine cw_true rfl ?_
          refine cw_seq ?_
          refine cw_region ?_
          refine wl_move rfl rfl (by decide) ?_
          refine wl_ar rfl rfl rfl ((c - 65 : Nat) : Int) (ai32_sub (a := c) (b := 65) rfl rfl (by omega) (by omega)) (by decide) ?_
          refine wl_pureE rfl rfl (v := .int .i64 (IntKind.i64.wrap ((c - 65 : Nat) : Int))) (v' := .int .i64 ((c - 65 : Nat) : Int)) (by decide) (by kernel_rfl) (cv_i64 (by first | omega | exact hle64)) ?_
          refine wl_ar rfl rfl rfl (((c - 65) + 10 : Nat) : Int) (ai_add (a := c - 65) (b := 10) rfl rfl (by omega)) (by decide) ?_
          refine wl_assign rfl rfl (by decide) ?_
          refine wl_nil ?_
          refine eo_then ?_
          refine cw_ret ?_
          refine eo_block_ret ?_
          refine eo_thenR ?_
          refine eo_ret [.int .i64 (((c - 65) + 10 : Nat) : Int)] rfl ⟨rfl, trivial⟩ ?_
          have hv : (c - 65) + 10 = dv c := by unfold dv; (repeat' split) <;> omega
          exact ⟨_, rfl, (show Value.int .i64 (((c - 65) + 10 : Nat) : Int) = _ by rw [hv]), (Ext.refl w)⟩
        ·
          refine cw_region ?_
          refine wl_move rfl rfl (by decide) ?_
          refine wl_cmp rfl rfl rfl true (cb_ge_t (a := c) (b := 65) rfl rfl (by omega)) (by decide) ?_
          refine wl_move rfl rfl (by decide) ?_
          refine wl_move rfl rfl (by decide) ?_
          refine wl_cmp rfl rfl rfl false (cb_le_f (a := c) (b := 90) rfl rfl (by omega)) (by decide) ?_
          refine wl_pure rfl rfl (v := .bool false) (by decide) (by kernel_rfl) ?_
          refine wl_assign rfl rfl (by decide) ?_
          refine wl_nil ?_
          refine eo_then ?_
          refine cw_false rfl ?_
          refine cw_skip ?_
          refine eo_block_normal ?_
          refine eo_then ?_
          refine cw_seq ?_
          refine cw_region ?_
          refine wl_assign rfl rfl (by decide) ?_
          refine wl_nil ?_
          refine eo_then ?_
          refine cw_ret ?_
          refine eo_ret [.int .i64 36] rfl ⟨rfl, trivial⟩ ?_
          have hv : 36 = dv c := by unfold dv; (repeat' split) <;> omega
          exact ⟨_, rfl, (show Value.int .i64 ((36 : Nat) : Int) = _ by rw [hv]), (Ext.refl w)⟩
      ·
        refine cw_region ?_
        refine wl_move rfl rfl (by decide) ?_
        refine wl_cmp rfl rfl rfl false (cb_ge_f (a := c) (b := 65) rfl rfl (by omega)) (by decide) ?_
        refine wl_move rfl rfl (by decide) ?_
        refine wl_off rfl (by decide) ?_
        refine wl_off rfl (by decide) ?_
        refine wl_pure rfl rfl (v := .bool false) (by decide) (by kernel_rfl) ?_
        refine wl_assign rfl rfl (by decide) ?_
        refine wl_nil ?_
        refine eo_then ?_
        refine cw_false rfl ?_
        refine cw_skip ?_
        refine eo_block_normal ?_
        refine eo_then ?_
        refine cw_seq ?_
        refine cw_region ?_
        refine wl_assign rfl rfl (by decide) ?_
        refine wl_nil ?_
        refine eo_then ?_
        refine cw_ret ?_
        refine eo_ret [.int .i64 36] rfl ⟨rfl, trivial⟩ ?_
        have hv : 36 = dv c := by unfold dv; (repeat' split) <;> omega
        exact ⟨_, rfl, (show Value.int .i64 ((36 : Nat) : Int) = _ by rw [hv]), (Ext.refl w)⟩
set_option maxHeartbeats 4000000 in
theorem rx_powerI {w : World} {base n : Nat} (hbl : 2 ≤ base) (hbu : base ≤ 36) (hn : n ≤ 68719476736) :
    Calls Tryd.prog 90 #[.int .i64 ((base : Nat) : Int), .int .i64 ((n : Nat) : Int)] w (Gv w (WR w.heap.size (base ^ n))) := by
  refine sx_enter Tryd.func90 rfl (n := 26) rfl (Nat.le_of_ble_eq_true rfl) (args := [.int .i64 ((base : Nat) : Int), .int .i64 ((n : Nat) : Int)]) ?_
  refine cw_keep [(0, .int .i64 ((base : Nat) : Int)), (1, .int .i64 ((n : Nat) : Int))] ⟨rfl, rfl, trivial⟩ ?_
  refine cw_seq ?_
  refine cw_region ?_
  refine wl_assign rfl rfl (by decide) ?_
  refine wl_nil ?_
  refine eo_then ?_
  refine cw_seq ?_
  refine cw_region ?_
  refine wl_bslice rfl rfl (by decide) (k := 1) (e := 48) [.int .u64 1] (fun _ => by kernel_rfl) fun g1 v2 nb3 => ?_
  have o4 := O1.mk_ (x := 1) (b := w.heap.size) nb3 (Ext.refl w).size
  have e5 := nb3.ext
  have hw1 : Ext w v2 := (Ext.refl w).trans e5
  have o7 := own1_wd o4 (show 1 ≤ 18446744073709551615 by decide) (show 1 ≠ 0 by decide)
  have j6 := len1 (show 1 ≤ 18446744073709551615 by decide) (show 1 ≠ 0 by decide)
  refine wl_move rfl rfl (by decide) ?_
  refine wl_pureE rfl rfl (v := .int .u64 (IntKind.u64.wrap ((base : Nat) : Int))) (v' := .int .u64 ((base : Nat) : Int)) (by decide) (by kernel_rfl) (cv_u64 (by first | omega | exact hle64)) ?_
  refine wl_bslice rfl rfl (by decide) (k := 1) (e := 48) [.int .u64 ((base : Nat) : Int)] (fun _ => by kernel_rfl) fun g8 v9 nb10 => ?_
  have o11 := O1.mk_ (x := base) (b := w.heap.size) nb10 hw1.size
  have e12 := nb10.ext
  have hw2 : Ext w v9 := hw1.trans e12
  have o14 := own1_wd o11 (show base ≤ 18446744073709551615 by omega) (show base ≠ 0 by omega)
  have j13 := len1 (show base ≤ 18446744073709551615 by omega) (show base ≠ 0 by omega)
  refine wl_assign rfl rfl (by decide) ?_
  refine wl_assign rfl rfl (by decide) ?_
  refine wl_nil ?_
  refine eo_then ?_
  refine cw_seq ?_
  refine cw_block ?_
  refine cw_loop (T := World × Nat × Nat × Nat × Option Addr × Nat × Nat × Option Addr × Nat × Nat)
    (fun ⟨wr, e, p, b, PA, pn, pc, BA, bn, bc⟩ => [(0, .int .i64 ((base : Nat) : Int)), (1, .int .i64 ((e : Nat) : Int)), (5, .slice PA pn pc), (6, .slice BA bn bc)])
    (fun ⟨wr, e, p, b, PA, pn, pc, BA, bn, bc⟩ => wr)
    (fun ⟨wr, e, p, b, PA, pn, pc, BA, bn, bc⟩ => (Ext w wr) ∧ (p * b ^ e = base ^ n) ∧ (1 ≤ p) ∧ (1 ≤ b) ∧ (pn = (wd p).length) ∧ (bn = (wd b).length) ∧ (Own wr w.heap.size 48 1 PA pn pc ((wd p).map W64)) ∧ (Own wr w.heap.size 48 1 BA bn bc ((wd b).map W64)) ∧ (e ≤ n))
    (fun ⟨wr, e, p, b, PA, pn, pc, BA, bn, bc⟩ => e)
    (⟨v9, n, 1, base, (some ⟨g1, 0, none⟩), 1, 1, (some ⟨g8, 0, none⟩), 1, 1⟩ : World × Nat × Nat × Nat × Option Addr × Nat × Nat × Option Addr × Nat × Nat) ⟨hw2, (by rw [Nat.one_mul]), (by decide), (by omega), j6, j13, (o7.ext e12), o14, (Nat.le_refl _)⟩ rfl ⟨rfl, rfl, rfl, rfl, trivial⟩ ?_
  rintro ⟨wr, e, p, b, PA, pn, pc, BA, bn, bc⟩ ⟨hw1, hI, hp1, hb1, hpn, hbn, hpo, hbo, he⟩
  refine cw_re [(0, .int .i64 ((base : Nat) : Int)), (1, .int .i64 ((e : Nat) : Int)), (5, .slice PA pn pc), (6, .slice BA bn bc)] wr rfl ⟨rfl, rfl, rfl, rfl, trivial⟩ ?_
  refine cw_seq ?_
  refine cw_seq ?_
  by_cases he0 : e > 0
  ·
    have hpK := Nat.le_trans (len_wd_mono (pw_p hI hb1)) (len_pow36 (n := n) hbu)
    have hbK := Nat.le_trans (len_wd_mono (pw_b hI hp1 hb1 he0)) (len_pow36 (n := n) hbu)
    refine cw_region ?_
    refine wl_move rfl rfl (by decide) ?_
    refine wl_cmp rfl rfl rfl true (cb_gt_t (a := e) (b := 0) rfl rfl (by omega)) (by decide) ?_
    refine wl_nil ?_
    refine eo_then ?_
    refine cw_true rfl ?_
    refine cw_skip ?_
    refine eo_then ?_
    refine cw_seq ?_
    refine cw_block ?_
    refine cw_seq ?_
    refine cw_seq ?_
    by_cases ho : e % 2 = 1
    ·
      refine cw_region ?_
      refine wl_move rfl rfl (by decide) ?_
      refine wl_ar rfl rfl rfl ((e % 2 : Nat) : Int) (au_rem (a := e) (b := 2) rfl rfl (by omega)) (by decide) ?_
      refine wl_cmp rfl rfl rfl true (cb_eq_t (a := e % 2) (b := 1) rfl rfl (by omega)) (by decide) ?_
      refine wl_nil ?_
      refine eo_then ?_
      refine cw_true rfl ?_
      refine cw_region ?_
      refine wl_move rfl rfl (by decide) ?_
      refine wl_move rfl rfl (by decide) ?_
      refine wl_call rfl rfl (vs := [.slice PA pn pc, .slice BA bn bc]) (by kernel_rfl) (by decide) (rx_MulW hw1.size hpo.wi hbo.wi (by omega)) ?_
      rintro _ v15 ⟨xr17, rfl, r17, e16⟩
      refine ret_intro ?_
      have hw2 : Ext w v15 := hw1.trans e16
      obtain ⟨A18, n18, c18, rfl, j18, o18⟩ := r17
      refine wl_assign rfl rfl (by decide) ?_
      refine wl_nil ?_
      refine eo_then ?_
      refine cw_seq ?_
      by_cases hg : e > 1
      ·
        refine cw_region ?_
        refine wl_move rfl rfl (by decide) ?_
        refine wl_cmp rfl rfl rfl true (cb_gt_t (a := e) (b := 1) rfl rfl (by omega)) (by decide) ?_
        refine wl_nil ?_
        refine eo_then ?_
        refine cw_true rfl ?_
        refine cw_region ?_
        refine wl_move rfl rfl (by decide) ?_
        refine wl_call rfl rfl (vs := [.slice BA bn bc]) (by kernel_rfl) (by decide) (rx_Square hw2.size (hbo.ext e16).wi (by omega)) ?_
        rintro _ v19 ⟨xr21, rfl, r21, e20⟩
        refine ret_intro ?_
        have hw3 : Ext w v19 := hw2.trans e20
        obtain ⟨A22, n22, c22, rfl, j22, o22⟩ := r21
        refine wl_assign rfl rfl (by decide) ?_
        refine wl_nil ?_
        refine eo_block_normal ?_
        refine eo_then ?_
        refine cw_region ?_
        refine wl_move rfl rfl (by decide) ?_
        refine wl_ar rfl rfl rfl ((e / 2 : Nat) : Int) (ai_quo (a := e) (b := 2) rfl rfl (by omega) (by omega)) (by decide) ?_
        refine wl_assign rfl rfl (by decide) ?_
        refine wl_nil ?_
        refine eo_round (⟨v19, e / 2, p * b, b * b, A18, n18, c18, A22, n22, c22⟩ : World × Nat × Nat × Nat × Option Addr × Nat × Nat × Option Addr × Nat × Nat) ⟨hw3, (by rw [pw_odd ho]; exact hI), (by first | decide | omega | exact Nat.mul_pos hp1 hb1), (by first | assumption | exact Nat.mul_pos hb1 hb1), j18, j22, (o18.ext e20), o22, (Nat.le_trans (Nat.div_le_self _ _) he)⟩ (Nat.div_lt_self he0 (by decide)) rfl ⟨rfl, rfl, rfl, rfl, trivial⟩
      ·
        refine cw_region ?_
        refine wl_move rfl rfl (by decide) ?_
        refine wl_cmp rfl rfl rfl false (cb_gt_f (a := e) (b := 1) rfl rfl (by omega)) (by decide) ?_
        refine wl_nil ?_
        refine eo_then ?_
        refine cw_false rfl ?_
        refine cw_skip ?_
        refine eo_block_normal ?_
        refine eo_then ?_
        refine cw_region ?_
        refine wl_move rfl rfl (by decide) ?_
        refine wl_ar rfl rfl rfl ((e / 2 : Nat) : Int) (ai_quo (a := e) (b := 2) rfl rfl (by omega) (by omega)) (by decide) ?_
        refine wl_assign rfl rfl (by decide) ?_
        refine wl_nil ?_
        refine eo_round (⟨v15, e / 2, p * b, b, A18, n18, c18, BA, bn, bc⟩ : World × Nat × Nat × Nat × Option Addr × Nat × Nat × Option Addr × Nat × Nat) ⟨hw2, (by rw [pw_last (by omega)]; exact hI), (by first | decide | omega | exact Nat.mul_pos hp1 hb1), (by first | assumption | exact Nat.mul_pos hb1 hb1), j18, hbn, o18, (hbo.ext e16), (Nat.le_trans (Nat.div_le_self _ _) he)⟩ (Nat.div_lt_self he0 (by decide)) rfl ⟨rfl, rfl, rfl, rfl, trivial⟩
    ·
      refine cw_region ?_
      refine wl_move rfl rfl (by decide) ?_
      refine wl_ar rfl rfl rfl ((e % 2 : Nat) : Int) (au_rem (a := e) (b := 2) rfl rfl (by omega)) (by decide) ?_
      refine wl_cmp rfl rfl rfl false (cb_eq_f (a := e % 2) (b := 1) rfl rfl (by omega)) (by decide) ?_
      refine wl_nil ?_
      refine eo_then ?_
      refine cw_false rfl ?_
      refine cw_skip ?_
      refine eo_then ?_
      refine cw_seq ?_
      by_cases hg : e > 1
      ·
        refine cw_region ?_
        refine wl_move rfl rfl (by decide) ?_
        refine wl_cmp rfl rfl rfl true (cb_gt_t (a := e) (b := 1) rfl rfl (by omega)) (by decide) ?_
        refine wl_nil ?_
        refine eo_then ?_
        refine cw_true rfl ?_
        refine cw_region ?_
        refine wl_move rfl rfl (by decide) ?_
        refine wl_call rfl rfl (vs := [.slice BA bn bc]) (by kernel_rfl) (by decide) (rx_Square hw1.size hbo.wi (by omega)) ?_
        rintro _ v23 ⟨xr25, rfl, r25, e24⟩
        refine ret_intro ?_
        have hw2 : Ext w v23 := hw1.trans e24
        obtain ⟨A26, n26, c26, rfl, j26, o26⟩ := r25
        refine wl_assign rfl rfl (by decide) ?_
        refine wl_nil ?_
        refine eo_block_normal ?_
        refine eo_then ?_
        refine cw_region ?_
        refine wl_move rfl rfl (by decide) ?_
        refine wl_ar rfl rfl rfl ((e / 2 : Nat) : Int) (ai_quo (a := e) (b := 2) rfl rfl (by omega) (by omega)) (by decide) ?_
        refine wl_assign rfl rfl (by decide) ?_
        refine wl_nil ?_
        refine eo_round (⟨v23, e / 2, p, b * b, PA, pn, pc, A26, n26, c26⟩ : World × Nat × Nat × Nat × Option Addr × Nat × Nat × Option Addr × Nat × Nat) ⟨hw2, (by rw [pw_even ho]; exact hI), (by first | decide | omega | exact Nat.mul_pos hp1 hb1), (by first | assumption | exact Nat.mul_pos hb1 hb1), hpn, j26, (hpo.ext e24), o26, (Nat.le_trans (Nat.div_le_self _ _) he)⟩ (Nat.div_lt_self he0 (by decide)) rfl ⟨rfl, rfl, rfl, rfl, trivial⟩
      ·
        refine cw_region ?_
        refine wl_move rfl rfl (by decide) ?_
        refine wl_cmp rfl rfl rfl false (cb_gt_f (a := e) (b := 1) rfl rfl (by omega)) (by decide) ?_
        refine wl_nil ?_
        refine eo_then ?_
        refine cw_false rfl ?_
        refine cw_skip ?_
        refine eo_block_normal ?_
        refine eo_then ?_
        refine cw_region ?_
        refine wl_move rfl rfl (by decide) ?_
        refine wl_ar rfl rfl rfl ((e / 2 : Nat) : Int) (ai_quo (a := e) (b := 2) rfl rfl (by omega) (by omega)) (by decide) ?_
        refine wl_assign rfl rfl (by decide) ?_
        refine wl_nil ?_
        refine eo_round (⟨wr, e / 2, p, b, PA, pn, pc, BA, bn, bc⟩ : World × Nat × Nat × Nat × Option Addr × Nat × Nat × Option Addr × Nat × Nat) ⟨hw1, (by omega), (by first | decide | omega | exact Nat.mul_pos hp1 hb1), (by first | assumption | exact Nat.mul_pos hb1 hb1), hpn, hbn, hpo, hbo, (Nat.le_trans (Nat.div_le_self _ _) he)⟩ (Nat.div_lt_self he0 (by decide)) rfl ⟨rfl, rfl, rfl, rfl, trivial⟩
  ·
    refine cw_region ?_
    refine wl_move rfl rfl (by decide) ?_
    refine wl_cmp rfl rfl rfl false (cb_gt_f (a := e) (b := 0) rfl rfl (by omega)) (by decide) ?_
    refine wl_nil ?_
    refine eo_then ?_
    refine cw_false rfl ?_
    refine cw_exit ?_
    refine eo_thenX ?_
    refine eo_loopX ?_
    refine eo_block_here ?_
    refine eo_then ?_
    refine cw_seq ?_
    refine cw_region ?_
    refine wl_move rfl rfl (by decide) ?_
    refine wl_assign rfl rfl (by decide) ?_
    refine wl_nil ?_
    refine eo_then ?_
    refine cw_ret ?_
    refine eo_ret [.slice PA pn pc] rfl ⟨rfl, trivial⟩ ?_
    have e0 : e = 0 := by omega
    subst e0
    rw [Nat.pow_zero, Nat.mul_one] at hI
    subst hI
    exact ⟨_, rfl, ⟨_, _, _, rfl, hpn, hpo⟩, hw1⟩
end Go.Proofs.YtmjdmjflgiicaaaDoor

namespace Go.Proofs.YtmjdmjflgiicaaaDoor
open Go.RowKit
theorem vald_split {b n k : Nat} {ds : List Nat} (hl : ds.length = n) (hk : k ≤ n) : vald b (ds.take (n - k)) * b ^ k + vald b (ds.drop (n - k)) = vald b ds := by
  have h := vald_append b (ds.take (n - k)) (ds.drop (n - k))
  rw [List.take_append_drop, List.length_drop, hl, show n - (n - k) = k by omega] at h
  exact h.symm
theorem PieceK.pos {b k : Nat} (h : PieceK b k) (hb : b ≤ 36) : 1 ≤ k := by
  rcases Nat.eq_zero_or_pos k with e | e
  · have := h.gt; rw [e, Nat.zero_add, Nat.pow_one] at this; omega
  · exact e
theorem step_ok {b k i v x : Nat} (hk : PieceK b k) (hb : 1 ≤ b) (hi : i + 1 ≤ k) (hv : v < b ^ i) (hx : x < b) : v * b + x ≤ 18446744073709551615 ∧ b ^ i * b ≤ 18446744073709551615 := by
  have h1 : b ^ (i + 1) ≤ b ^ k := Nat.pow_le_pow_right hb hi
  rw [Nat.pow_succ] at h1
  have h2 := hk.le
  have h3 : (v + 1) * b ≤ b ^ i * b := Nat.mul_le_mul_right b hv
  rw [Nat.add_mul, Nat.one_mul] at h3
  exact ⟨by omega, by omega⟩
theorem len_one {x : Nat} (h : x ≤ 18446744073709551615) : (wd x).length ≤ 1 := len_wd_le (by rw [Nat.pow_one, WB_def]; omega)
theorem mem_take_lt {b : Nat} {xs : List Nat} (h : ∀ x, x ∈ xs → x < b) (k : Nat) : ∀ x, x ∈ xs.take k → x < b := fun x hx => h x (List.mem_of_mem_take hx)
theorem mem_drop_lt {b : Nat} {xs : List Nat} (h : ∀ x, x ∈ xs → x < b) (k : Nat) : ∀ x, x ∈ xs.drop k → x < b := fun x hx => h x (List.mem_of_mem_drop hx)
/-- number, up to a length -/
def NumOk (N : Nat) : Prop := ∀ {w : World} {A : Option Addr} {n c base : Nat} {ds : List Nat}, n ≤ N → 2 ≤ base → base ≤ 36 → Rb base w A n c ds → n ≤ 17179869184 →
  Calls Tryd.prog 65 #[.slice A n c, .int .i64 ((base : Nat) : Int)] w (Gv w (WR w.heap.size (vald base ds)))
set_option maxHeartbeats 4000000 in
theorem rx_number_big {N : Nat} (ih : NumOk N) {w : World} {A : Option Addr} {n c base : Nat} {ds : List Nat} (hnN : n ≤ N + 1) (hbl : 2 ≤ base) (hbu : base ≤ 36) (hd : Rb base w A n c ds) (hn : n ≤ 17179869184) (hbig : 200 < n) :
    Calls Tryd.prog 65 #[.slice A n c, .int .i64 ((base : Nat) : Int)] w (Gv w (WR w.heap.size (vald base ds))) := by
  have hB1 : (wd (vald base (ds.take (n - (n / 2))))).length ≤ n := by have := len_vald (by omega) hbu (mem_take_lt hd.wf (n - (n / 2))); rw [List.length_take, hd.len] at this; omega
  have hB2 : (wd (vald base (ds.drop (n - (n / 2))))).length ≤ n := by have := len_vald (by omega) hbu (mem_drop_lt hd.wf (n - (n / 2))); rw [List.length_drop, hd.len] at this; omega
  have hB3 : (wd (base ^ (n / 2))).length ≤ n / 2 + 1 := len_pow36 hbu
  refine sx_enter Tryd.func65 rfl (n := 81) rfl (Nat.le_of_ble_eq_true rfl) (args := [.slice A n c, .int .i64 ((base : Nat) : Int)]) ?_
  refine cw_keep [(0, .slice A n c), (1, .int .i64 ((base : Nat) : Int))] ⟨rfl, rfl, trivial⟩ ?_
  refine cw_seq ?_
  refine cw_region ?_
  refine wl_assign rfl rfl (by decide) ?_
  refine wl_nil ?_
  refine eo_then ?_
  refine cw_seq ?_
  refine cw_seq ?_
  refine cw_region ?_
  refine wl_move rfl rfl (by decide) ?_
  refine wl_pure rfl rfl (v := .int .i64 ((n : Nat) : Int)) (by decide) (by kernel_rfl) ?_
  refine wl_cmp rfl rfl rfl true (cb_gt_t (a := n) (b := 200) rfl rfl (by omega)) (by decide) ?_
  refine wl_nil ?_
  refine eo_then ?_
  refine cw_true rfl ?_
  refine cw_seq ?_
  refine cw_region ?_
  refine wl_move rfl rfl (by decide) ?_
  refine wl_pure rfl rfl (v := .int .i64 ((n : Nat) : Int)) (by decide) (by kernel_rfl) ?_
  refine wl_ar rfl rfl rfl ((n / 2 : Nat) : Int) (ai_quo (a := n) (b := 2) rfl rfl (by omega) (by omega)) (by decide) ?_
  refine wl_assign rfl rfl (by decide) ?_
  refine wl_nil ?_
  refine eo_then ?_
  refine cw_seq ?_
  refine cw_region ?_
  refine wl_move rfl rfl (by decide) ?_
  refine wl_pure rfl rfl (v := .int .i64 ((n : Nat) : Int)) (by decide) (by kernel_rfl) ?_
  refine wl_move rfl rfl (by decide) ?_
  refine wl_ar rfl rfl rfl ((n - (n / 2) : Nat) : Int) (ai_sub (a := n) (b := n / 2) rfl rfl (by omega) (by omega)) (by decide) ?_
  refine wl_assign rfl rfl (by decide) ?_
  refine wl_nil ?_
  refine eo_then ?_
  refine cw_seq ?_
  refine cw_draw mix 14 [] [Is (.slice A n c), Is (.int .i64 ((n - (n / 2) : Nat) : Int)), Is (.slice A (n - (n / 2)) c), Is (.int .i64 ((base : Nat) : Int)), WR w.heap.size (vald base (ds.take (n - (n / 2)))), Is (.int .i64 ((base : Nat) : Int)), Is (.int .i64 ((n / 2 : Nat) : Int)), WR w.heap.size (base ^ (n / 2)), Is (.slice A n c), Is (.int .i64 ((n - (n / 2) : Nat) : Int)), Is (.slice (if c = n - (n / 2) then A else A.map (·.add ((n - (n / 2)) * 1))) (n - (n - (n / 2))) (c - (n - (n / 2)))), Is (.int .i64 ((base : Nat) : Int)), WR w.heap.size (vald base (ds.drop (n - (n / 2)))), WR w.heap.size ((vald base (ds.take (n - (n / 2)))) * (base ^ (n / 2)) + (vald base (ds.drop (n - (n / 2)))))] [[], [], [0, 1], [], [2, 3], [], [], [5, 6], [], [], [8, 9], [], [10, 11], [4, 7, 12]] [[], [], [0, 1], [], [0, 1, 2, 3], [], [], [0, 1, 2, 3, 4, 5, 6], [], [], [8, 9], [], [0, 1, 2, 3, 4, 5, 6, 7, 8, 9, 10, 11], [0, 1, 2, 3, 4, 5, 6, 7, 8, 9, 10, 11, 12], [0, 1, 2, 3, 4, 5, 6, 7, 8, 9, 10, 11, 12, 13]] rfl
    (obs_cons rfl rfl (hob rfl rfl ?_) (obs_cons rfl rfl (hob rfl rfl ?_) (obs_cons rfl rfl (hob rfl rfl ?_) (obs_cons rfl rfl (hob rfl rfl ?_) (obs_cons rfl rfl (hob rfl rfl ?_) (obs_cons rfl rfl (hob rfl rfl ?_) (obs_cons rfl rfl (hob rfl rfl ?_) (obs_cons rfl rfl (hob rfl rfl ?_) (obs_cons rfl rfl (hob rfl rfl ?_) (obs_cons rfl rfl (hob rfl rfl ?_) (obs_cons rfl rfl (hob rfl rfl ?_) (obs_cons rfl rfl (hob rfl rfl ?_) (obs_cons rfl rfl (hob rfl rfl ?_) (obs_cons rfl rfl (hob rfl rfl ?_) obs_nil)))))))))))))) ?_
  · -- 0
    intro v5 e6
    have hw1 : Ext w v5 := (Ext.refl w).trans e6
    refine deps_nil ?_
    refine wl_move rfl rfl (by decide) ?_
    exact pi_done rfl (Ext.refl _) rfl
  · -- 1
    intro v7 e8
    have hw1 : Ext w v7 := (Ext.refl w).trans e8
    refine deps_nil ?_
    refine wl_move rfl rfl (by decide) ?_
    exact pi_done rfl (Ext.refl _) rfl
  · -- 2
    intro v9 e10
    have hw1 : Ext w v9 := (Ext.refl w).trans e10
    refine deps_cons rfl rfl fun x11 y12 h13 e14 f15 => ?_
    obtain rfl := h13
    refine deps_cons rfl rfl fun x16 y17 h18 e19 f20 => ?_
    obtain rfl := h18
    refine deps_nil ?_
    refine wl_slice rfl rfl un_u8 sz_u8 (lo := 0) (hi := n - (n / 2)) rfl rfl (by omega) (by have := (hd.ext e10).rv.le; omega) (v := .slice A (n - (n / 2)) c) (slice_to8 _ _ _) (by decide) ?_
    exact pi_done rfl (Ext.refl _) rfl
  · -- 3
    intro v21 e22
    have hw1 : Ext w v21 := (Ext.refl w).trans e22
    refine deps_nil ?_
    refine wl_move rfl rfl (by decide) ?_
    exact pi_done rfl (Ext.refl _) rfl
  · -- 4
    intro v23 e24
    have hw1 : Ext w v23 := (Ext.refl w).trans e24
    refine deps_cons rfl rfl fun x25 y26 h27 e28 f29 => ?_
    obtain rfl := h27
    refine deps_cons rfl rfl fun x30 y31 h32 e33 f34 => ?_
    obtain rfl := h32
    refine deps_nil ?_
    refine wl_call rfl rfl (vs := [.slice A (n - (n / 2)) c, .int .i64 ((base : Nat) : Int)]) (by kernel_rfl) (by decide) ((ih (by omega) hbl hbu ((hd.take (k := n - (n / 2)) (by omega)).ext e24) (by omega)).mono (Gv.imp (WR.imp hw1.size))) ?_
    rintro _ v35 ⟨xr37, rfl, r37, e36⟩
    refine ret_intro ?_
    have hw2 : Ext w v35 := hw1.trans e36
    obtain ⟨A38, n38, c38, rfl, j38, o38⟩ := r37
    exact pi_done rfl e36 ⟨_, _, _, rfl, j38, o38⟩
  · -- 5
    intro v39 e40
    have hw1 : Ext w v39 := (Ext.refl w).trans e40
    refine deps_nil ?_
    refine wl_move rfl rfl (by decide) ?_
    exact pi_done rfl (Ext.refl _) rfl
  · -- 6
    intro v41 e42
    have hw1 : Ext w v41 := (Ext.refl w).trans e42
    refine deps_nil ?_
    refine wl_move rfl rfl (by decide) ?_
    exact pi_done rfl (Ext.refl _) rfl
  · -- 7
    intro v43 e44
    have hw1 : Ext w v43 := (Ext.refl w).trans e44
    refine deps_cons rfl rfl fun x45 y46 h47 e48 f49 => ?_
    obtain rfl := h47
    refine deps_cons rfl rfl fun x50 y51 h52 e53 f54 => ?_
    obtain rfl := h52
    refine deps_nil ?_
    refine wl_call rfl rfl (vs := [.int .i64 ((base : Nat) : Int), .int .i64 ((n / 2 : Nat) : Int)]) (by kernel_rfl) (by decide) ((rx_powerI (n := n / 2) hbl hbu (by omega)).mono (Gv.imp (WR.imp hw1.size))) ?_
    rintro _ v55 ⟨xr57, rfl, r57, e56⟩
    refine ret_intro ?_
    have hw2 : Ext w v55 := hw1.trans e56
    obtain ⟨A58, n58, c58, rfl, j58, o58⟩ := r57
    exact pi_done rfl e56 ⟨_, _, _, rfl, j58, o58⟩
  · -- 8
    intro v59 e60
    have hw1 : Ext w v59 := (Ext.refl w).trans e60
    refine deps_nil ?_
    refine wl_move rfl rfl (by decide) ?_
    exact pi_done rfl (Ext.refl _) rfl
  · -- 9
    intro v61 e62
    have hw1 : Ext w v61 := (Ext.refl w).trans e62
    refine deps_nil ?_
    refine wl_move rfl rfl (by decide) ?_
    exact pi_done rfl (Ext.refl _) rfl
  · -- 10
    intro v63 e64
    have hw1 : Ext w v63 := (Ext.refl w).trans e64
    refine deps_cons rfl rfl fun x65 y66 h67 e68 f69 => ?_
    obtain rfl := h67
    refine deps_cons rfl rfl fun x70 y71 h72 e73 f74 => ?_
    obtain rfl := h72
    refine deps_nil ?_
    refine wl_slice rfl rfl un_u8 sz_u8 (lo := n - (n / 2)) (hi := n) rfl rfl (by omega) (by have := (hd.ext e64).rv.le; omega) (v := .slice (if c = n - (n / 2) then A else A.map (·.add ((n - (n / 2)) * 1))) (n - (n - (n / 2))) (c - (n - (n / 2)))) (slice_from _ _ _ _) (by decide) ?_
    exact pi_done rfl (Ext.refl _) rfl
  · -- 11
    intro v75 e76
    have hw1 : Ext w v75 := (Ext.refl w).trans e76
    refine deps_nil ?_
    refine wl_move rfl rfl (by decide) ?_
    exact pi_done rfl (Ext.refl _) rfl
  · -- 12
    intro v77 e78
    have hw1 : Ext w v77 := (Ext.refl w).trans e78
    refine deps_cons rfl rfl fun x79 y80 h81 e82 f83 => ?_
    obtain rfl := h81
    refine deps_cons rfl rfl fun x84 y85 h86 e87 f88 => ?_
    obtain rfl := h86
    refine deps_nil ?_
    refine wl_call rfl rfl (vs := [.slice (if c = n - (n / 2) then A else A.map (·.add ((n - (n / 2)) * 1))) (n - (n - (n / 2))) (c - (n - (n / 2))), .int .i64 ((base : Nat) : Int)]) (by kernel_rfl) (by decide) ((ih (by omega) hbl hbu ((hd.drop (k := n - (n / 2)) (by omega)).ext e78) (by omega)).mono (Gv.imp (WR.imp hw1.size))) ?_
    rintro _ v89 ⟨xr91, rfl, r91, e90⟩
    refine ret_intro ?_
    have hw2 : Ext w v89 := hw1.trans e90
    obtain ⟨A92, n92, c92, rfl, j92, o92⟩ := r91
    exact pi_done rfl e90 ⟨_, _, _, rfl, j92, o92⟩
  · -- 13
    intro v93 e94
    have hw1 : Ext w v93 := (Ext.refl w).trans e94
    refine deps_cons rfl rfl fun x95 y96 h97 e98 f99 => ?_
    obtain ⟨A100, n100, c100, rfl, j100, o100⟩ := h97
    have o100 := o100.ext f99
    refine deps_cons rfl rfl fun x101 y102 h103 e104 f105 => ?_
    obtain ⟨A106, n106, c106, rfl, j106, o106⟩ := h103
    have o106 := o106.ext f105
    refine deps_cons rfl rfl fun x107 y108 h109 e110 f111 => ?_
    obtain ⟨A112, n112, c112, rfl, j112, o112⟩ := h109
    have o112 := o112.ext f111
    refine deps_nil ?_
    refine wl_call rfl rfl (vs := [.slice A100 n100 c100, .slice A106 n106 c106, .slice A112 n112 c112]) (by kernel_rfl) (by decide) (rx_MulAdd hw1.size o100.wi o106.wi o112.wi (by omega) (by omega)) ?_
    rintro _ v113 ⟨xr115, rfl, r115, e114⟩
    refine ret_intro ?_
    have hw2 : Ext w v113 := hw1.trans e114
    obtain ⟨A116, n116, c116, rfl, j116, o116⟩ := r115
    exact pi_done rfl e114 ⟨_, _, _, rfl, j116, o116⟩
  · -- all
    intro v117 e118
    have hw1 : Ext w v117 := (Ext.refl w).trans e118
    refine deps_cons rfl rfl fun x119 y120 h121 e122 f123 => ?_
    obtain rfl := h121
    refine deps_cons rfl rfl fun x124 y125 h126 e127 f128 => ?_
    obtain rfl := h126
    refine deps_cons rfl rfl fun x129 y130 h131 e132 f133 => ?_
    obtain rfl := h131
    refine deps_cons rfl rfl fun x134 y135 h136 e137 f138 => ?_
    obtain rfl := h136
    refine deps_cons rfl rfl fun x139 y140 h141 e142 f143 => ?_
    obtain ⟨A144, n144, c144, rfl, j144, o144⟩ := h141
    have o144 := o144.ext f143
    refine deps_cons rfl rfl fun x145 y146 h147 e148 f149 => ?_
    obtain rfl := h147
    refine deps_cons rfl rfl fun x150 y151 h152 e153 f154 => ?_
    obtain rfl := h152
    refine deps_cons rfl rfl fun x155 y156 h157 e158 f159 => ?_
    obtain ⟨A160, n160, c160, rfl, j160, o160⟩ := h157
    have o160 := o160.ext f159
    refine deps_cons rfl rfl fun x161 y162 h163 e164 f165 => ?_
    obtain rfl := h163
    refine deps_cons rfl rfl fun x166 y167 h168 e169 f170 => ?_
    obtain rfl := h168
    refine deps_cons rfl rfl fun x171 y172 h173 e174 f175 => ?_
    obtain rfl := h173
    refine deps_cons rfl rfl fun x176 y177 h178 e179 f180 => ?_
    obtain rfl := h178
    refine deps_cons rfl rfl fun x181 y182 h183 e184 f185 => ?_
    obtain ⟨A186, n186, c186, rfl, j186, o186⟩ := h183
    have o186 := o186.ext f185
    refine deps_cons rfl rfl fun x187 y188 h189 e190 f191 => ?_
    obtain ⟨A192, n192, c192, rfl, j192, o192⟩ := h189
    have o192 := o192.ext f191
    refine deps_nil ?_
    refine wl_assign rfl rfl (by decide) ?_
    refine wl_nil ?_
    refine eo_np ?_
    refine eo_then ?_
    refine cw_ret ?_
    refine eo_thenR ?_
    refine eo_ret [.slice A192 n192 c192] rfl ⟨rfl, trivial⟩ ?_
    have hv : (vald base (ds.take (n - (n / 2)))) * (base ^ (n / 2)) + (vald base (ds.drop (n - (n / 2)))) = vald base ds := vald_split hd.len (by omega)
    exact ⟨_, rfl, ⟨_, _, _, rfl, hv ▸ j192, hv ▸ o192⟩, hw1⟩
set_option maxHeartbeats 4000000 in
theorem rx_number_low {w : World} {A : Option Addr} {n c base : Nat} {ds : List Nat} (hbl : 2 ≤ base) (hbu : base ≤ 36) (hd : Rb base w A n c ds) (hlow : n ≤ 200) :
    Calls Tryd.prog 65 #[.slice A n c, .int .i64 ((base : Nat) : Int)] w (Gv w (WR w.heap.size (vald base ds))) := by
  refine sx_enter Tryd.func65 rfl (n := 81) rfl (Nat.le_of_ble_eq_true rfl) (args := [.slice A n c, .int .i64 ((base : Nat) : Int)]) ?_
  refine cw_keep [(0, .slice A n c), (1, .int .i64 ((base : Nat) : Int))] ⟨rfl, rfl, trivial⟩ ?_
  refine cw_seq ?_
  refine cw_region ?_
  refine wl_assign rfl rfl (by decide) ?_
  refine wl_nil ?_
  refine eo_then ?_
  refine cw_seq ?_
  refine cw_seq ?_
  refine cw_region ?_
  refine wl_move rfl rfl (by decide) ?_
  refine wl_pure rfl rfl (v := .int .i64 ((n : Nat) : Int)) (by decide) (by kernel_rfl) ?_
  refine wl_cmp rfl rfl rfl false (cb_gt_f (a := n) (b := 200) rfl rfl (by omega)) (by decide) ?_
  refine wl_nil ?_
  refine eo_then ?_
  refine cw_false rfl ?_
  refine cw_skip ?_
  refine eo_then ?_
  refine cw_seq ?_
  refine cw_region ?_
  refine wl_move rfl rfl (by decide) ?_
  refine wl_call rfl rfl (vs := [.int .i64 ((base : Nat) : Int)]) (by kernel_rfl) (by decide) (rx_piece hbl hbu) ?_
  rintro _ v1 ⟨k4, p5, xr3, rfl, r3, e2⟩
  have hk1 := p5.pos hbu
  have hk64 := p5.le64
  refine ret_intro ?_
  have hw1 : Ext w v1 := (Ext.refl w).trans e2
  obtain ⟨a6_0, a6_1, rfl, r6_0, r6_1⟩ := r3
  obtain rfl := r6_0
  obtain rfl := r6_1
  refine wl_move rfl rfl (by decide) ?_
  refine wl_pure rfl rfl (v := .int .i64 ((k4 : Nat) : Int)) (by decide) (by kernel_rfl) ?_
  refine wl_pure rfl rfl (v := .int .u64 ((base ^ k4 : Nat) : Int)) (by decide) (by kernel_rfl) ?_
  refine wl_assign rfl rfl (by decide) ?_
  refine wl_assign rfl rfl (by decide) ?_
  refine wl_nil ?_
  refine eo_then ?_
  refine cw_seq ?_
  refine cw_region ?_
  refine wl_assign rfl rfl (by decide) ?_
  refine wl_nil ?_
  refine eo_then ?_
  refine cw_seq ?_
  refine cw_block ?_
  refine cw_loop (T := World × List Nat × List Nat × Option Addr × Nat × Nat × Option Addr × Nat × Nat)
    (fun ⟨wr, pre, rest, DA, dn, dc, QA, qn, qc⟩ => [(0, .slice DA dn dc), (1, .int .i64 ((base : Nat) : Int)), (7, .int .i64 ((k4 : Nat) : Int)), (9, .slice QA qn qc)])
    (fun ⟨wr, pre, rest, DA, dn, dc, QA, qn, qc⟩ => wr)
    (fun ⟨wr, pre, rest, DA, dn, dc, QA, qn, qc⟩ => (Ext w wr) ∧ (pre ++ rest = ds) ∧ (qn = (wd (vald base pre)).length) ∧ (Own wr w.heap.size 48 1 QA qn qc ((wd (vald base pre)).map W64)) ∧ (Rb base wr DA dn dc rest))
    (fun ⟨wr, pre, rest, DA, dn, dc, QA, qn, qc⟩ => dn)
    (⟨v1, [], ds, A, n, c, none, 0, 0⟩ : World × List Nat × List Nat × Option Addr × Nat × Nat × Option Addr × Nat × Nat) ⟨hw1, rfl, rfl, (Own.nil _ _ _ _), (hd.ext e2)⟩ rfl ⟨rfl, rfl, rfl, rfl, trivial⟩ ?_
  rintro ⟨wr, pre, rest, DA, dn, dc, QA, qn, qc⟩ ⟨hw1, hsp, han, hao, rl0⟩
  refine cw_re [(0, .slice DA dn dc), (1, .int .i64 ((base : Nat) : Int)), (7, .int .i64 ((k4 : Nat) : Int)), (9, .slice QA qn qc)] wr rfl ⟨rfl, rfl, rfl, rfl, trivial⟩ ?_
  refine cw_seq ?_
  refine cw_seq ?_
  by_cases hdn : dn > 0
  ·
    refine cw_region ?_
    refine wl_move rfl rfl (by decide) ?_
    refine wl_pure rfl rfl (v := .int .i64 ((dn : Nat) : Int)) (by decide) (by kernel_rfl) ?_
    refine wl_cmp rfl rfl rfl true (cb_gt_t (a := dn) (b := 0) rfl rfl (by omega)) (by decide) ?_
    refine wl_nil ?_
    refine eo_then ?_
    refine cw_true rfl ?_
    refine cw_skip ?_
    refine eo_then ?_
    refine cw_block ?_
    refine cw_seq ?_
    refine cw_region ?_
    refine wl_move rfl rfl (by decide) ?_
    refine wl_move rfl rfl (by decide) ?_
    refine wl_pure rfl rfl (v := .int .i64 ((dn : Nat) : Int)) (by decide) (by kernel_rfl) ?_
    refine wl_mi rfl rfl rfl (((min k4 dn : Nat) : Int)) (by omega) (by decide) ?_
    refine wl_assign rfl rfl (by decide) ?_
    refine wl_nil ?_
    refine eo_then ?_
    refine cw_seq ?_
    refine cw_region ?_
    refine wl_assign rfl rfl (by decide) ?_
    refine wl_assign rfl rfl (by decide) ?_
    refine wl_nil ?_
    refine eo_then ?_
    refine cw_seq ?_
    refine cw_seq ?_
    refine cw_region ?_
    refine wl_move rfl rfl (by decide) ?_
    refine wl_move rfl rfl (by decide) ?_
    refine wl_slice rfl rfl un_u8 sz_u8 (lo := 0) (hi := min k4 dn) rfl rfl (by omega) (by have := rl0.rv.le; omega) (v := .slice DA (min k4 dn) dc) (slice_to8 _ _ _) (by decide) ?_
    refine wl_pure rfl rfl (v := .int .i64 (((min k4 dn) : Nat) : Int)) (by decide) (by kernel_rfl) ?_
    refine wl_move rfl rfl (by decide) ?_
    refine wl_nil ?_
    refine eo_then ?_
    refine cw_block ?_
    refine cw_loop (T := World × Nat × Nat × Nat)
      (fun ⟨wq, i, v, p⟩ => [(0, .slice DA dn dc), (1, .int .i64 ((base : Nat) : Int)), (7, .int .i64 ((k4 : Nat) : Int)), (10, .int .i64 ((min k4 dn : Nat) : Int)), (9, .slice QA qn qc), (11, .int .u64 ((v : Nat) : Int)), (12, .int .u64 ((p : Nat) : Int)), (53, .slice DA (min k4 dn) dc), (54, .int .i64 (((min k4 dn) : Nat) : Int)), (55, .int .i64 ((i : Nat) : Int))])
      (fun ⟨wq, i, v, p⟩ => wq)
      (fun ⟨wq, i, v, p⟩ => (Ext w wq) ∧ (i ≤ min k4 dn) ∧ (v = vald base (rest.take i)) ∧ (p = base ^ i) ∧ (Own wq w.heap.size 48 1 QA qn qc ((wd (vald base pre)).map W64)) ∧ (Rb base wq DA dn dc rest) ∧ (Rb base wq DA (min k4 dn) dc (rest.take (min k4 dn))))
      (fun ⟨wq, i, v, p⟩ => min k4 dn - i)
      (⟨wr, 0, 0, 1⟩ : World × Nat × Nat × Nat) ⟨hw1, (Nat.zero_le _), rfl, rfl, hao, rl0, (rl0.take (k := min k4 dn) (by omega))⟩ rfl ⟨rfl, rfl, rfl, rfl, rfl, rfl, rfl, rfl, rfl, rfl, trivial⟩ ?_
    rintro ⟨wq, i, v, p⟩ ⟨hw1, hi, hv, hpp, hao, rl0, rl53⟩
    refine cw_re [(0, .slice DA dn dc), (1, .int .i64 ((base : Nat) : Int)), (7, .int .i64 ((k4 : Nat) : Int)), (10, .int .i64 ((min k4 dn : Nat) : Int)), (9, .slice QA qn qc), (11, .int .u64 ((v : Nat) : Int)), (12, .int .u64 ((p : Nat) : Int)), (53, .slice DA (min k4 dn) dc), (54, .int .i64 (((min k4 dn) : Nat) : Int)), (55, .int .i64 ((i : Nat) : Int))] wq rfl ⟨rfl, rfl, rfl, rfl, rfl, rfl, rfl, rfl, rfl, rfl, trivial⟩ ?_
    refine cw_seq ?_
    by_cases htst : i < min k4 dn
    ·
      have hx := rl53.dig (i := i) htst
      have hvl : v < base ^ i := by rw [hv]; have := vald_lt (b := base) (by omega) (rest.take i) (mem_take_lt rl0.wf i); rwa [List.length_take, Nat.min_eq_left (by rw [rl0.len]; omega)] at this
      have hso := step_ok p5 (by omega) (show i + 1 ≤ k4 by omega) hvl hx
      rw [← hpp] at hso
      obtain ⟨hso1, hso2⟩ := hso
      refine cw_region ?_
      refine wl_cmp rfl rfl rfl true (cb_lt_t (a := i) (b := min k4 dn) rfl rfl (by omega)) (by decide) ?_
      refine wl_nil ?_
      refine eo_then ?_
      refine cw_seq ?_
      refine cw_true rfl ?_
      refine cw_skip ?_
      refine eo_then ?_
      refine cw_seq ?_
      refine cw_block ?_
      refine cw_seq ?_
      refine cw_region ?_
      obtain ⟨p7, hp7, hc7, hv7⟩ := (rl53).at (by decide) (i := i) (by omega)
      refine wl_idx rfl rfl rfl un_u8 sz_u8 i rfl (by omega) p7 hp7 (by decide) ?_
      refine wl_load rfl rfl (load_cell1 ag_u8 hc7) (by decide) ?_
      refine wl_assign rfl rfl (by decide) ?_
      refine wl_nil ?_
      refine eo_then ?_
      refine cw_seq ?_
      refine cw_region ?_
      refine wl_move rfl rfl (by decide) ?_
      refine wl_move rfl rfl (by decide) ?_
      refine wl_pureE rfl rfl (v := .int .u64 (IntKind.u64.wrap ((base : Nat) : Int))) (v' := .int .u64 ((base : Nat) : Int)) (by decide) (by kernel_rfl) (cv_u64 (by first | omega | exact hle64)) ?_
      refine wl_ar rfl rfl rfl ((v * base : Nat) : Int) (au_mul (a := v) (b := base) rfl rfl (by omega)) (by decide) ?_
      refine wl_move rfl rfl (by decide) ?_
      refine wl_pureE rfl rfl (v := .int .u64 (IntKind.u64.wrap (((rest.take (min k4 dn)).getD i 0 : Nat) : Int))) (v' := .int .u64 (((rest.take (min k4 dn)).getD i 0 : Nat) : Int)) (by decide) (by kernel_rfl) (cv_u64 (by first | omega | exact hle64)) ?_
      refine wl_ar rfl rfl rfl (((v * base) + ((rest.take (min k4 dn)).getD i 0) : Nat) : Int) (au_add (a := v * base) (b := (rest.take (min k4 dn)).getD i 0) rfl rfl (by omega)) (by decide) ?_
      refine wl_assign rfl rfl (by decide) ?_
      refine wl_nil ?_
      refine eo_then ?_
      refine cw_region ?_
      refine wl_move rfl rfl (by decide) ?_
      refine wl_move rfl rfl (by decide) ?_
      refine wl_pureE rfl rfl (v := .int .u64 (IntKind.u64.wrap ((base : Nat) : Int))) (v' := .int .u64 ((base : Nat) : Int)) (by decide) (by kernel_rfl) (cv_u64 (by first | omega | exact hle64)) ?_
      refine wl_ar rfl rfl rfl ((p * base : Nat) : Int) (au_mul (a := p) (b := base) rfl rfl (by omega)) (by decide) ?_
      refine wl_assign rfl rfl (by decide) ?_
      refine wl_nil ?_
      refine eo_block_normal ?_
      refine eo_then ?_
      refine cw_region ?_
      refine wl_ar rfl rfl rfl ((i + 1 : Nat) : Int) (ai_add (a := i) (b := 1) rfl rfl (by omega)) (by decide) ?_
      refine wl_move rfl rfl (by decide) ?_
      refine wl_nil ?_
      refine eo_round (⟨wq, i + 1, v * base + (rest.take (min k4 dn)).getD i 0, p * base⟩ : World × Nat × Nat × Nat) ⟨hw1, (by omega), (by rw [take_get htst (by rw [rl0.len]; omega), vald_snoc, ← hv]), (by rw [hpp, Nat.pow_succ]), hao, rl0, rl53⟩ (show min k4 dn - (i + 1) < min k4 dn - i by omega) rfl ⟨rfl, rfl, rfl, rfl, rfl, rfl, rfl, rfl, rfl, rfl, trivial⟩
    ·
      have him : i = min k4 dn := by omega
      have hpb : p ≤ 18446744073709551615 := by rw [hpp]; exact Nat.le_trans (Nat.pow_le_pow_right (by omega) (by omega)) p5.le
      have hvb : v ≤ 18446744073709551615 := by have := vald_lt (b := base) (by omega) (rest.take i) (mem_take_lt rl0.wf i); rw [List.length_take, Nat.min_eq_left (by rw [rl0.len]; omega), ← hpp, ← hv] at this; omega
      have hlen : (wd (vald base pre)).length ≤ 200 := by have h1 := len_vald (by omega) hbu (ds := pre) (fun x hx => hd.wf x (by rw [← hsp]; exact List.mem_append_left _ hx)); have h2 := hd.len; rw [← hsp, List.length_append] at h2; omega
      have hL1 : (wd (vald base pre * p)).length ≤ 201 := by have := len_wd_mul (vald base pre) p; have := len_one hpb; omega
      have hm : vald base (pre ++ rest.take (min k4 dn)) = vald base pre * p + v := by rw [← him, vald_piece (by rw [rl0.len]; omega), hpp, hv]
      refine cw_region ?_
      refine wl_cmp rfl rfl rfl false (cb_lt_f (a := i) (b := min k4 dn) rfl rfl (by omega)) (by decide) ?_
      refine wl_nil ?_
      refine eo_then ?_
      refine cw_seq ?_
      refine cw_false rfl ?_
      refine cw_exit ?_
      refine eo_thenX ?_
      refine eo_loopX ?_
      refine eo_block_here ?_
      refine eo_then ?_
      refine cw_seq ?_
      refine cw_region ?_
      refine wl_move rfl rfl (by decide) ?_
      refine wl_move rfl rfl (by decide) ?_
      refine wl_call rfl rfl (vs := [.slice QA qn qc, .int .u64 ((p : Nat) : Int)]) (by kernel_rfl) (by decide) (rx_MulWord hw1.size hao.wi (by omega) hpb) ?_
      rintro _ v8 ⟨xr10, rfl, r10, e9⟩
      refine ret_intro ?_
      have hw2 : Ext w v8 := hw1.trans e9
      obtain ⟨A11, n11, c11, rfl, j11, o11⟩ := r10
      refine wl_move rfl rfl (by decide) ?_
      refine wl_bslice rfl rfl (by decide) (k := 1) (e := 48) [.int .u64 ((v : Nat) : Int)] (fun _ => by kernel_rfl) fun g12 v13 nb14 => ?_
      have o15 := O1.mk_ (x := v) (b := w.heap.size) nb14 hw2.size
      have e16 := nb14.ext
      have hw3 : Ext w v13 := hw2.trans e16
      refine wl_call rfl rfl (vs := [.slice A11 n11 c11, .slice (some ⟨g12, 0, none⟩) 1 1]) (by kernel_rfl) (by decide) (rx_AddW hw3.size (o11.ext e16).wi (by omega) (own1_wi o15 hvb) (by decide)) ?_
      rintro _ v19 ⟨xr21, rfl, r21, e20⟩
      refine ret_intro ?_
      have hw4 : Ext w v19 := hw3.trans e20
      obtain ⟨A22, n22, c22, rfl, j22, o22⟩ := r21
      refine wl_assign rfl rfl (by decide) ?_
      refine wl_nil ?_
      refine eo_then ?_
      refine cw_region ?_
      refine wl_move rfl rfl (by decide) ?_
      refine wl_move rfl rfl (by decide) ?_
      refine wl_slice rfl rfl un_u8 sz_u8 (lo := min k4 dn) (hi := dn) rfl rfl (by omega) (by have := (rl0.ext (e9.trans (e16.trans e20))).rv.le; omega) (v := .slice (if dc = min k4 dn then DA else DA.map (·.add ((min k4 dn) * 1))) (dn - (min k4 dn)) (dc - (min k4 dn))) (slice_from _ _ _ _) (by decide) ?_
      refine wl_assign rfl rfl (by decide) ?_
      refine wl_nil ?_
      refine eo_block_normal ?_
      refine eo_round (⟨v19, pre ++ rest.take (min k4 dn), rest.drop (min k4 dn), if dc = min k4 dn then DA else DA.map (·.add ((min k4 dn) * 1)), dn - (min k4 dn), dc - (min k4 dn), A22, n22, c22⟩ : World × List Nat × List Nat × Option Addr × Nat × Nat × Option Addr × Nat × Nat) ⟨hw4, (by rw [List.append_assoc, List.take_append_drop]; exact hsp), (by rw [hm]; exact j22), (by rw [hm]; exact o22), ((rl0.ext (e9.trans (e16.trans e20))).drop (k := min k4 dn) (by omega))⟩ (show dn - min k4 dn < dn by omega) rfl ⟨rfl, rfl, rfl, rfl, trivial⟩
  ·
    refine cw_region ?_
    refine wl_move rfl rfl (by decide) ?_
    refine wl_pure rfl rfl (v := .int .i64 ((dn : Nat) : Int)) (by decide) (by kernel_rfl) ?_
    refine wl_cmp rfl rfl rfl false (cb_gt_f (a := dn) (b := 0) rfl rfl (by omega)) (by decide) ?_
    refine wl_nil ?_
    refine eo_then ?_
    refine cw_false rfl ?_
    refine cw_exit ?_
    refine eo_thenX ?_
    refine eo_loopX ?_
    refine eo_block_here ?_
    refine eo_then ?_
    refine cw_seq ?_
    refine cw_region ?_
    refine wl_move rfl rfl (by decide) ?_
    refine wl_assign rfl rfl (by decide) ?_
    refine wl_nil ?_
    refine eo_then ?_
    refine cw_ret ?_
    refine eo_ret [.slice QA qn qc] rfl ⟨rfl, trivial⟩ ?_
    have hr0 : rest = [] := List.length_eq_zero_iff.1 (by have := rl0.len; omega)
    rw [hr0, List.append_nil] at hsp
    exact ⟨_, rfl, ⟨_, _, _, rfl, hsp ▸ han, hsp ▸ hao⟩, hw1⟩
theorem rx_numberN : ∀ N, NumOk N
  | 0 => fun hn hbl hbu hd _ => rx_number_low hbl hbu hd (by omega)
  | N + 1 => by
    intro hn hbl hbu hd hm
    rename_i w A n c base ds
    by_cases h : 200 < n
    · exact rx_number_big (rx_numberN N) hn hbl hbu hd hm h
    · exact rx_number_low hbl hbu hd (by omega)
theorem rx_number {w : World} {b : Nat} (hb : b ≤ w.heap.size) {A : Option Addr} {n c base : Nat} {ds : List Nat} (hbl : 2 ≤ base) (hbu : base ≤ 36) (hd : Rb base w A n c ds) (hn : n ≤ 17179869184) : Calls Tryd.prog 65 #[.slice A n c, .int .i64 ((base : Nat) : Int)] w (Gv w (WR b (vald base ds))) :=
  (rx_numberN n (Nat.le_refl _) hbl hbu hd hn).mono (Gv.imp (WR.imp hb))
theorem getD_mem {l : List Nat} {i : Nat} (h : i < l.length) : l.getD i 0 ∈ l := by
  rw [List.getD_eq_getElem?_getD, List.getElem?_eq_getElem h]; exact List.getElem_mem h
theorem dig_map {b : Nat} {l : List Nat} (h : ∀ c, c ∈ l → dv c < b) : ∀ x, x ∈ l.map dv → x < b := by
  intro x hx
  obtain ⟨c, hc, rfl⟩ := List.mem_map.1 hx
  exact h c hc
set_option maxHeartbeats 4000000 in
theorem rx_Read_all {w : World} {base : Nat} {bs : List Nat} (hbl : 2 ≤ base) (hbu : base ≤ 36) (hbs : ∀ b, b ∈ bs → b < 256) (hlen : bs.length ≤ 17179869184) :
    Calls Tryd.prog 34 #[.string (strB bs), .int .i64 ((base : Nat) : Int)] w (fun e w' => (Good base bs → Gv w (T2 (WR w.heap.size (vald base (bs.map dv))) (Is (.int .i64 0))) e w') ∧ (¬ Good base bs → Gv w (T2 (Is (.slice none 0 0)) (Is (.int .i64 7))) e w')) := by
  refine sx_enter Tryd.func34 rfl (n := 41) rfl (Nat.le_of_ble_eq_true rfl) (args := [.string (strB bs), .int .i64 ((base : Nat) : Int)]) ?_
  refine cw_keep [(0, .string (strB bs)), (1, .int .i64 ((base : Nat) : Int))] ⟨rfl, rfl, trivial⟩ ?_
  refine cw_seq ?_
  refine cw_region ?_
  refine wl_assign rfl rfl (by decide) ?_
  refine wl_assign rfl rfl (by decide) ?_
  refine wl_nil ?_
  refine eo_then ?_
  refine cw_seq ?_
  refine cw_seq ?_
  refine cw_region ?_
  refine wl_move rfl rfl (by decide) ?_
  refine wl_cmp rfl rfl rfl false (cb_lt_f (a := base) (b := 2) rfl rfl (by omega)) (by decide) ?_
  refine wl_move rfl rfl (by decide) ?_
  refine wl_move rfl rfl (by decide) ?_
  refine wl_cmp rfl rfl rfl false (cb_gt_f (a := base) (b := 36) rfl rfl (by omega)) (by decide) ?_
  refine wl_pure rfl rfl (v := .bool false) (by decide) (by kernel_rfl) ?_
  refine wl_nil ?_
  refine eo_then ?_
  refine cw_false rfl ?_
  refine cw_skip ?_
  refine eo_then ?_
  refine cw_seq ?_
  refine cw_region ?_
  refine wl_move rfl rfl (by decide) ?_
  refine wl_pureE rfl rfl (v := .int .i64 (((strB bs).size : Nat) : Int)) (v' := .int .i64 ((bs.length : Nat) : Int)) (by decide) (by kernel_rfl) (by rw [strB_size]) ?_
  refine wl_make80 (k := bs.length) rfl rfl rfl un_u8 info8 rfl (by omega) (by decide) fun g1 v2 ho3 e4 => ?_
  have ho3 := ho3.mono (Ext.refl w).size
  have hw1 : Ext w v2 := (Ext.refl w).trans e4
  refine wl_assign rfl rfl (by decide) ?_
  refine wl_nil ?_
  refine eo_then ?_
  refine cw_seq ?_
  refine cw_seq ?_
  refine cw_region ?_
  refine wl_move rfl rfl (by decide) ?_
  refine wl_range (bs := bs) rfl rfl Tryd.underlying9 (by decide) fun g5 v6 hg7 it8 e9 => ?_
  have ge10 : w.heap.size ≤ g5 := by rw [← hg7]; exact hw1.size
  clear hg7
  have hw2 : Ext w v6 := hw1.trans e9
  refine wl_nil ?_
  refine eo_then ?_
  refine cw_block ?_
  refine cw_loop (T := World × Nat × Option Addr × Nat)
    (fun ⟨wr, p, OA, oc⟩ => [(0, .string (strB bs)), (1, .int .i64 ((base : Nat) : Int)), (6, .slice OA p oc), (20, .pointer (some ⟨g5, 0, none⟩))])
    (fun ⟨wr, p, OA, oc⟩ => wr)
    (fun ⟨wr, p, OA, oc⟩ => (Ext w wr) ∧ (It wr g5 bs p) ∧ (Own wr w.heap.size 5 1 OA p oc (((bs.take p).map dv).map B8)) ∧ (p ≤ bs.length) ∧ (∀ c, c ∈ bs.take p → dv c < base))
    (fun ⟨wr, p, OA, oc⟩ => bs.length - p)
    (⟨v6, 0, (some ⟨g1, 0, none⟩), bs.length⟩ : World × Nat × Option Addr × Nat) ⟨hw2, it8, (ho3.ext e9), (Nat.zero_le _), (fun c hc => absurd hc (by simp))⟩ rfl ⟨rfl, rfl, rfl, rfl, trivial⟩ ?_
  rintro ⟨wr, p, OA, oc⟩ ⟨hw1, hI, hO, hp, hg⟩
  refine cw_re [(0, .string (strB bs)), (1, .int .i64 ((base : Nat) : Int)), (6, .slice OA p oc), (20, .pointer (some ⟨g5, 0, none⟩))] wr rfl ⟨rfl, rfl, rfl, rfl, trivial⟩ ?_
  refine cw_seq ?_
  by_cases hnx : p < bs.length
  ·
    refine cw_region ?_
    have it11 := hI
    refine wl_nextR rfl rfl hbs it11 (by omega) (by decide) fun v12 r13 z14 hr15 it16 u17 => ?_
    have hw2 : Ext w v12 := u17.ext hw1 ge10
    refine wl_pure rfl rfl (v := .bool true) (by decide) (by kernel_rfl) ?_
    refine wl_nil ?_
    refine eo_then ?_
    refine cw_seq ?_
    refine cw_true rfl ?_
    refine cw_skip ?_
    refine eo_then ?_
    refine cw_block ?_
    refine cw_seq ?_
    refine cw_region ?_
    refine wl_pure rfl rfl (v := .int .i32 ((r13 : Nat) : Int)) (by decide) (by kernel_rfl) ?_
    refine wl_assign rfl rfl (by decide) ?_
    refine wl_nil ?_
    refine eo_then ?_
    refine cw_seq ?_
    refine cw_region ?_
    refine wl_move rfl rfl (by decide) ?_
    refine wl_call rfl rfl (vs := [.int .i32 ((r13 : Nat) : Int)]) (by kernel_rfl) (by decide) (rx_value hr15.le) ?_
    rintro _ v18 ⟨xr20, rfl, r20, e19⟩
    refine ret_intro ?_
    have hw3 : Ext w v18 := hw2.trans e19
    obtain rfl := r20
    refine wl_assign rfl rfl (by decide) ?_
    refine wl_nil ?_
    refine eo_then ?_
    refine cw_seq ?_
    refine cw_seq ?_
    by_cases hge : dv r13 ≥ base
    ·
      have hbad : ¬ Good base bs := fun h => by have := h.2 (bs.getD p 0) (getD_mem hnx); rw [← hr15.dv] at this; omega
      refine cw_region ?_
      refine wl_move rfl rfl (by decide) ?_
      refine wl_move rfl rfl (by decide) ?_
      refine wl_cmp rfl rfl rfl true (cb_ge_t (a := dv r13) (b := base) rfl rfl (by omega)) (by decide) ?_
      refine wl_nil ?_
      refine eo_then ?_
      refine cw_true rfl ?_
      refine cw_seq ?_
      refine cw_region ?_
      refine wl_assign rfl rfl (by decide) ?_
      refine wl_assign rfl rfl (by decide) ?_
      refine wl_nil ?_
      refine eo_then ?_
      refine cw_ret ?_
      refine eo_thenR ?_
      refine eo_block_ret ?_
      refine eo_loopR ?_
      refine eo_block_ret ?_
      refine eo_thenR ?_
      refine eo_ret [.slice none 0 0, .int .i64 7] rfl ⟨rfl, rfl, trivial⟩ ?_
      exact ⟨fun h => absurd h hbad, fun _ => ⟨_, rfl, ⟨_, _, rfl, rfl, rfl⟩, hw3⟩⟩
    ·
      have h1z := hr15.one (by omega)
      have hdv36 := dv_le r13
      refine cw_region ?_
      refine wl_move rfl rfl (by decide) ?_
      refine wl_move rfl rfl (by decide) ?_
      refine wl_cmp rfl rfl rfl false (cb_ge_f (a := dv r13) (b := base) rfl rfl (by omega)) (by decide) ?_
      refine wl_nil ?_
      refine eo_then ?_
      refine cw_false rfl ?_
      refine cw_skip ?_
      refine eo_then ?_
      refine cw_region ?_
      refine wl_move rfl rfl (by decide) ?_
      refine wl_move rfl rfl (by decide) ?_
      refine wl_pureE rfl rfl (v := .int .u8 (IntKind.u8.wrap ((dv r13 : Nat) : Int))) (v' := .int .u8 ((dv r13 : Nat) : Int)) (by decide) (by kernel_rfl) (cv_u8 (by omega)) ?_
      refine wl_bslice rfl rfl (by decide) (k := 1) (e := 5) [.int .u8 ((dv r13 : Nat) : Int)] (fun _ => by kernel_rfl) fun g21 v22 nb => ?_
      have hb23 := nb.bk
      have e24 := nb.ext
      clear nb
      have hw4 : Ext w v22 := hw3.trans e24
      have ow25 := ((hO.updI it11 u17).ext (e19.trans e24))
      refine wl_app rfl rfl rfl un_u8 info8 rfl (by decide) (by decide) ow25 hw4.size [.int .u8 ((dv r13 : Nat) : Int)] rfl (one_news _ hb23) rfl (by omega) (by decide) fun A26 c27 v28 ho29 uo30 kp31 => ?_
      have hw5 : Ext w v28 := uo30.ext hw4 (fun p hp => (ow25.block p hp).1)
      have ho32 : Own v28 w.heap.size 5 1 A26 (p + 1) c27 ((((bs.take p).map dv) ++ [dv r13]).map B8) := by have h := ho29; simp only [List.map_append, List.map_cons, List.map_nil] at h ⊢; exact h
      refine wl_assign rfl rfl (by decide) ?_
      refine wl_nil ?_
      refine eo_block_normal ?_
      have htk : bs.take (p + 1) = bs.take p ++ [bs.getD p 0] := by have := take_get (n := bs.length) hnx (Nat.le_refl _); rwa [List.take_length] at this
      have hdr := hr15.dv
      refine eo_round (⟨v28, p + 1, A26, c27⟩ : World × Nat × Option Addr × Nat) ⟨hw5, (by have h := ((it16.ext (e19.trans e24)).updO uo30 (it_own_ne ow25 (it16.ext (e19.trans e24)))); rwa [h1z.1] at h), (by rw [htk, List.map_append]; rw [hdr] at ho32; exact ho32), (by omega), (by rw [htk]; intro c hc; rcases List.mem_append.1 hc with h | h; (· exact hg c h); (· rw [List.mem_singleton.1 h, ← hdr]; omega))⟩ (show bs.length - (p + 1) < bs.length - p by omega) rfl ⟨rfl, rfl, rfl, rfl, trivial⟩
  ·
    have hpl : p = bs.length := by omega
    refine cw_region ?_
    have it33 := hI
    refine wl_next_end rfl rfl it33 (by omega) (by decide) ?_
    refine wl_pure rfl rfl (v := .bool false) (by decide) (by kernel_rfl) ?_
    refine wl_nil ?_
    refine eo_then ?_
    refine cw_seq ?_
    refine cw_false rfl ?_
    refine cw_exit ?_
    refine eo_thenX ?_
    refine eo_loopX ?_
    refine eo_block_here ?_
    refine eo_then ?_
    refine cw_seq ?_
    refine cw_seq ?_
    by_cases hz : p = 0
    ·
      have hbad : ¬ Good base bs := fun h => h.1 (List.length_eq_zero_iff.1 (by omega))
      refine cw_region ?_
      refine wl_move rfl rfl (by decide) ?_
      refine wl_pure rfl rfl (v := .int .i64 ((p : Nat) : Int)) (by decide) (by kernel_rfl) ?_
      refine wl_cmp rfl rfl rfl true (cb_eq_t (a := p) (b := 0) rfl rfl (by omega)) (by decide) ?_
      refine wl_nil ?_
      refine eo_then ?_
      refine cw_true rfl ?_
      refine cw_seq ?_
      refine cw_region ?_
      refine wl_assign rfl rfl (by decide) ?_
      refine wl_assign rfl rfl (by decide) ?_
      refine wl_nil ?_
      refine eo_then ?_
      refine cw_ret ?_
      refine eo_thenR ?_
      refine eo_ret [.slice none 0 0, .int .i64 7] rfl ⟨rfl, rfl, trivial⟩ ?_
      exact ⟨fun h => absurd h hbad, fun _ => ⟨_, rfl, ⟨_, _, rfl, rfl, rfl⟩, hw1⟩⟩
    ·
      have hgood : Good base bs := ⟨fun e => by rw [e] at hpl; simp at hpl; omega, by have := hg; rwa [hpl, List.take_length] at this⟩
      have hLn : (wd (vald base ((bs.take p).map dv))).length ≤ p := by have := len_vald (b := base) (by omega) hbu (ds := (bs.take p).map dv) (dig_map hg); rw [List.length_map, List.length_take] at this; omega
      refine cw_region ?_
      refine wl_move rfl rfl (by decide) ?_
      refine wl_pure rfl rfl (v := .int .i64 ((p : Nat) : Int)) (by decide) (by kernel_rfl) ?_
      refine wl_cmp rfl rfl rfl false (cb_eq_f (a := p) (b := 0) rfl rfl (by omega)) (by decide) ?_
      refine wl_nil ?_
      refine eo_then ?_
      refine cw_false rfl ?_
      refine cw_skip ?_
      refine eo_then ?_
      refine cw_seq ?_
      refine cw_region ?_
      refine wl_move rfl rfl (by decide) ?_
      refine wl_move rfl rfl (by decide) ?_
      refine wl_call rfl rfl (vs := [.slice OA p oc, .int .i64 ((base : Nat) : Int)]) (by kernel_rfl) (by decide) (rx_number hw1.size hbl hbu (hO.rb (dig_map hg)) (by omega)) ?_
      rintro _ v34 ⟨xr36, rfl, r36, e35⟩
      refine ret_intro ?_
      have hw2 : Ext w v34 := hw1.trans e35
      obtain ⟨A37, n37, c37, rfl, j37, o37⟩ := r36
      refine wl_call rfl rfl (vs := [.slice A37 n37 c37]) (by kernel_rfl) (by decide) (rx_LeastW hw2.size o37.wi (by omega)) ?_
      rintro _ v38 ⟨xr40, rfl, r40, e39⟩
      refine ret_intro ?_
      have hw3 : Ext w v38 := hw2.trans e39
      obtain ⟨A41, n41, c41, rfl, j41, o41⟩ := r40
      refine wl_assign rfl rfl (by decide) ?_
      refine wl_assign rfl rfl (by decide) ?_
      refine wl_nil ?_
      refine eo_then ?_
      refine cw_ret ?_
      refine eo_ret [.slice A41 n41 c41, .int .i64 0] rfl ⟨rfl, rfl, trivial⟩ ?_
      have hfin : vald base ((bs.take p).map dv) = vald base (bs.map dv) := by rw [hpl, List.take_length]
      exact ⟨fun _ => ⟨_, rfl, ⟨_, _, rfl, ⟨_, _, _, rfl, hfin ▸ j41, hfin ▸ o41⟩, rfl⟩, hw3⟩, fun h => absurd hgood h⟩
theorem rx_Read_good {w : World} {b : Nat} (hb : b ≤ w.heap.size) {base : Nat} {bs : List Nat} (hbl : 2 ≤ base) (hbu : base ≤ 36) (hbs : ∀ b, b ∈ bs → b < 256) (hlen : bs.length ≤ 17179869184) (hg : Good base bs) :
    Calls Tryd.prog 34 #[.string (strB bs), .int .i64 ((base : Nat) : Int)] w (Gv w (T2 (WR b (vald base (bs.map dv))) (Is (.int .i64 0)))) := (rx_Read_all hbl hbu hbs hlen).mono fun _e _w' h => Gv.imp (T2.imp (WR.imp hb) Is.imp) _ _ (h.1 hg)
theorem rx_Read_bad {w : World} {base : Nat} {bs : List Nat} (hbl : 2 ≤ base) (hbu : base ≤ 36) (hbs : ∀ b, b ∈ bs → b < 256) (hlen : bs.length ≤ 17179869184) (hg : ¬ Good base bs) :
    Calls Tryd.prog 34 #[.string (strB bs), .int .i64 ((base : Nat) : Int)] w (Gv w (T2 (Is (.slice none 0 0)) (Is (.int .i64 7)))) := (rx_Read_all hbl hbu hbs hlen).mono fun _e _w' h => h.2 hg
end Go.Proofs.YtmjdmjflgiicaaaDoor

namespace Go.Proofs.YtmjdmjflgiicaaaDoor
open Go.RowKit
set_option maxHeartbeats 4000000 in
theorem rx_Text {w : World} {A : Option Addr} {an ac m base : Nat} (hS : Signs w) (hx : Wi w A an ac m) (hal : an ≤ 4194304) (hbl : 2 ≤ base) (hbu : base ≤ 36) :
    Calls Tryd.prog 36 #[.slice A an ac, .int .i64 ((base : Nat) : Int)] w (Gv w (T2 (Is (.string (strB (txtN base m)))) (Is (.int .i64 0)))) := by
  have hml : (wd m).length ≤ 4194304 := Nat.le_trans hx.len hal
  have hlen0 : 0 + max 0 (db base m).length ≤ 137438953472 := by have := len_db_small hbl hml; omega
  refine sx_enter Tryd.func36 rfl (n := 73) rfl (Nat.le_of_ble_eq_true rfl) (args := [.slice A an ac, .int .i64 ((base : Nat) : Int)]) ?_
  refine cw_keep [(0, .slice A an ac), (1, .int .i64 ((base : Nat) : Int))] ⟨rfl, rfl, trivial⟩ ?_
  refine cw_seq ?_
  refine cw_region ?_
  refine wl_assign rfl rfl (by decide) ?_
  refine wl_assign rfl rfl (by decide) ?_
  refine wl_nil ?_
  refine eo_then ?_
  refine cw_seq ?_
  refine cw_seq ?_
  refine cw_region ?_
  refine wl_move rfl rfl (by decide) ?_
  refine wl_cmp rfl rfl rfl false (cb_lt_f (a := base) (b := 2) rfl rfl (by omega)) (by decide) ?_
  refine wl_move rfl rfl (by decide) ?_
  refine wl_move rfl rfl (by decide) ?_
  refine wl_cmp rfl rfl rfl false (cb_gt_f (a := base) (b := 36) rfl rfl (by omega)) (by decide) ?_
  refine wl_pure rfl rfl (v := .bool false) (by decide) (by kernel_rfl) ?_
  refine wl_nil ?_
  refine eo_then ?_
  refine cw_false rfl ?_
  refine cw_skip ?_
  refine eo_then ?_
  refine cw_seq ?_
  refine cw_region ?_
  refine wl_move rfl rfl (by decide) ?_
  refine wl_call rfl rfl (vs := [.slice A an ac]) (by kernel_rfl) (by decide) (g_nat_LeastW (hx.ext (Ext.refl w)) (by omega)) ?_
  rintro _ v1 ⟨xr3, rfl, r3, e2⟩
  refine ret_intro ?_
  have hw1 : Ext w v1 := (Ext.refl w).trans e2
  obtain ⟨A4, n4, c4, rfl, j4, o4⟩ := r3
  refine wl_assign rfl rfl (by decide) ?_
  refine wl_nil ?_
  refine eo_then ?_
  refine cw_seq ?_
  refine cw_seq ?_
  by_cases hz0 : n4 = 0
  ·
    have hm0 : m = 0 := len_wd_zero.1 (by omega)
    refine cw_region ?_
    refine wl_move rfl rfl (by decide) ?_
    refine wl_pure rfl rfl (v := .int .i64 ((n4 : Nat) : Int)) (by decide) (by kernel_rfl) ?_
    refine wl_cmp rfl rfl rfl true (cb_eq_t (a := n4) (b := 0) rfl rfl (by omega)) (by decide) ?_
    refine wl_nil ?_
    refine eo_then ?_
    refine cw_true rfl ?_
    refine cw_seq ?_
    refine cw_region ?_
    refine wl_assign rfl rfl (by decide) ?_
    refine wl_assign rfl rfl (by decide) ?_
    refine wl_nil ?_
    refine eo_then ?_
    refine cw_ret ?_
    refine eo_thenR ?_
    refine eo_ret [.string (strB ([48])), .int .i64 0] rfl ⟨rfl, rfl, trivial⟩ ?_
    have hstr : ([48] : List Nat) = txtN base m := by subst hm0; rfl
    exact ⟨_, rfl, ⟨_, _, rfl, (show Value.string _ = Value.string _ from congrArg (fun l => Value.string (strB l)) hstr), rfl⟩, hw1⟩
  ·
    have hm0 : m ≠ 0 := fun e => hz0 (by rw [j4, e]; rfl)
    refine cw_region ?_
    refine wl_move rfl rfl (by decide) ?_
    refine wl_pure rfl rfl (v := .int .i64 ((n4 : Nat) : Int)) (by decide) (by kernel_rfl) ?_
    refine wl_cmp rfl rfl rfl false (cb_eq_f (a := n4) (b := 0) rfl rfl (by omega)) (by decide) ?_
    refine wl_nil ?_
    refine eo_then ?_
    refine cw_false rfl ?_
    refine cw_skip ?_
    refine eo_then ?_
    refine cw_seq ?_
    refine cw_region ?_
    refine wl_move rfl rfl (by decide) ?_
    refine wl_call rfl rfl (vs := [.int .i64 ((base : Nat) : Int)]) (by kernel_rfl) (by decide) (rx_piece hbl hbu) ?_
    rintro _ v5 ⟨k8, p9, xr7, rfl, r7, e6⟩
    refine ret_intro ?_
    have hw2 : Ext w v5 := hw1.trans e6
    obtain ⟨a10_0, a10_1, rfl, r10_0, r10_1⟩ := r7
    obtain rfl := r10_0
    obtain rfl := r10_1
    refine wl_move rfl rfl (by decide) ?_
    refine wl_pure rfl rfl (v := .int .i64 ((k8 : Nat) : Int)) (by decide) (by kernel_rfl) ?_
    refine wl_pure rfl rfl (v := .int .u64 ((base ^ k8 : Nat) : Int)) (by decide) (by kernel_rfl) ?_
    refine wl_assign rfl rfl (by decide) ?_
    refine wl_assign rfl rfl (by decide) ?_
    refine wl_nil ?_
    refine eo_then ?_
    refine cw_seq ?_
    refine cw_region ?_
    refine wl_move rfl rfl (by decide) ?_
    refine wl_move rfl rfl (by decide) ?_
    refine wl_move rfl rfl (by decide) ?_
    refine wl_pure rfl rfl (v := .agg #[.int .i64 ((base : Nat) : Int), .int .i64 ((k8 : Nat) : Int), .int .u64 ((base ^ k8 : Nat) : Int), .slice none 0 0, .slice none 0 0]) (by decide) (by kernel_rfl) ?_
    refine wl_box rfl rfl (vs := [.int .i64 ((base : Nat) : Int), .int .i64 ((k8 : Nat) : Int), .int .u64 ((base ^ k8 : Nat) : Int), .slice none 0 0, .slice none 0 0]) rfl (by decide) fun g11 v12 nb => ?_
    have hgl := Nat.le_of_eq nb.at_
    have hle0 : w.heap.size ≤ v5.heap.size := hw2.size
    have hb14 := nb.bk
    have ge15 : w.heap.size ≤ g11 := by rw [← nb.at_]; exact hw2.size
    have e13 := nb.ext
    clear nb
    have hw3 : Ext w v12 := hw2.trans e13
    refine wl_assign rfl rfl (by decide) ?_
    refine wl_nil ?_
    refine eo_then ?_
    refine cw_seq ?_
    refine cw_seq ?_
    by_cases h12 : n4 > 12
    ·
      refine cw_region ?_
      refine wl_move rfl rfl (by decide) ?_
      refine wl_pure rfl rfl (v := .int .i64 ((n4 : Nat) : Int)) (by decide) (by kernel_rfl) ?_
      refine wl_cmp rfl rfl rfl true (cb_gt_t (a := n4) (b := 12) rfl rfl (by omega)) (by decide) ?_
      refine wl_nil ?_
      refine eo_then ?_
      refine cw_true rfl ?_
      refine cw_seq ?_
      have hk1 : 1 ≤ k8 := by refine Nat.pos_of_ne_zero (fun e => ?_); have := p9.gt; rw [e, Nat.zero_add, Nat.pow_one] at this; omega
      have hu2 : 2 ≤ base ^ k8 := Nat.le_trans hbl (Nat.le_trans (Nat.le_of_eq (Nat.pow_one base).symm) (Nat.pow_le_pow_right (by omega) hk1))
      have hum := p9.le
      refine cw_region ?_
      refine wl_move rfl rfl (by decide) ?_
      refine wl_bslice rfl rfl (by decide) (k := 1) (e := 48) [.int .u64 ((base ^ k8 : Nat) : Int)] (fun _ => by kernel_rfl) fun g16 v17 nb => ?_
      have hb18 := nb.bk
      have e19 := nb.ext
      clear nb
      have hw4 : Ext w v17 := hw3.trans e19
      refine wl_assign rfl rfl (by decide) ?_
      refine wl_nil ?_
      refine eo_then ?_
      refine cw_block ?_
      refine cw_loop (T := World × Nat × Option Addr × Nat × Nat × Option Addr × Nat)
        (fun ⟨wr, j, QA, qn, qc, PA, pc⟩ => [(0, .slice A4 n4 c4), (1, .int .i64 ((base : Nat) : Int)), (6, .int .i64 ((k8 : Nat) : Int)), (7, .int .u64 ((base ^ k8 : Nat) : Int)), (8, .pointer (some ⟨g11, 0, none⟩)), (9, .slice QA qn qc)])
        (fun ⟨wr, j, QA, qn, qc, PA, pc⟩ => wr)
        (fun ⟨wr, j, QA, qn, qc, PA, pc⟩ => (Ext w wr) ∧ (j = 0 ∨ (base ^ k8) ^ 2 ^ (j - 1) ≤ m) ∧ (qn = (wd ((base ^ k8) ^ 2 ^ j)).length) ∧ (qn ≤ 8388608) ∧ (Own wr 0 48 1 QA qn qc ((wd ((base ^ k8) ^ 2 ^ j)).map W64)) ∧ (Bk wr g11 88 [.int .i64 ((base : Nat) : Int), .int .i64 ((k8 : Nat) : Int), .int .u64 ((base ^ k8 : Nat) : Int), .slice PA j pc, .slice none 0 0]) ∧ (Pw wr v5.heap.size PA j pc (base ^ k8)) ∧ (v5.heap.size ≤ wr.heap.size) ∧ (Own wr 0 48 1 A4 n4 c4 ((wd m).map W64)))
        (fun ⟨wr, j, QA, qn, qc, PA, pc⟩ => 64 - j)
        (⟨v17, 0, (some ⟨g16, 0, none⟩), 1, 1, none, 0⟩ : World × Nat × Option Addr × Nat × Nat × Option Addr × Nat) ⟨hw4, (Or.inl rfl), (by rw [Nat.pow_zero, Nat.pow_one]; exact len1 hum (by omega)), (by decide), (by rw [Nat.pow_zero, Nat.pow_one]; exact (bw_own hb18 hum (by omega))), (hb14.ext e19), (Pw.nil _ _ _), ((Nat.le_trans e13.size e19.size)), ((o4.ext (e6.trans (e13.trans e19)))).mono (Nat.zero_le _)⟩ rfl ⟨rfl, rfl, rfl, rfl, rfl, rfl, trivial⟩ ?_
      rintro ⟨wr, j, QA, qn, qc, PA, pc⟩ ⟨hw1, hjm, hqn, hq8, hq, b_g, hPw, hpb0, hoa⟩
      refine cw_re [(0, .slice A4 n4 c4), (1, .int .i64 ((base : Nat) : Int)), (6, .int .i64 ((k8 : Nat) : Int)), (7, .int .u64 ((base ^ k8 : Nat) : Int)), (8, .pointer (some ⟨g11, 0, none⟩)), (9, .slice QA qn qc)] wr rfl ⟨rfl, rfl, rfl, rfl, rfl, rfl, trivial⟩ ?_
      refine cw_seq ?_
      refine cw_seq ?_
      have hj30 : j ≤ 29 := by rcases hjm with h | h; (· omega); (· have := ip_small (pow_le_bits hu2 h hml) (by omega); omega)
      by_cases hle : (base ^ k8) ^ 2 ^ j ≤ m
      ·
        have hsq : (wd ((base ^ k8) ^ 2 ^ j * (base ^ k8) ^ 2 ^ j)).length ≤ 8388608 := len_sq (Nat.le_trans (len_wd_mono hle) hml)
        refine cw_region ?_
        refine wl_move rfl rfl (by decide) ?_
        refine wl_move rfl rfl (by decide) ?_
        refine wl_call rfl rfl (vs := [.slice QA qn qc, .slice A4 n4 c4]) (by kernel_rfl) (by decide) (rx_Cmp hq.wi (by omega) hoa.wi (by omega)) ?_
        rintro _ v20 ⟨xr22, rfl, r22, e21⟩
        refine ret_intro ?_
        have hw2 : Ext w v20 := hw1.trans e21
        obtain rfl := r22
        refine wl_cmp rfl rfl rfl true (cmp3_leT hle) (by decide) ?_
        refine wl_nil ?_
        refine eo_then ?_
        refine cw_true rfl ?_
        refine cw_skip ?_
        refine eo_then ?_
        refine cw_block ?_
        refine cw_seq ?_
        refine cw_region ?_
        refine wl_move rfl rfl (by decide) ?_
        refine wl_move rfl rfl (by decide) ?_
        refine wl_pure rfl rfl (v := .pointer (some ⟨g11, 0, none⟩)) (by decide) (by kernel_rfl) ?_
        refine wl_pure rfl rfl (v := .pointer (some ⟨g11, 3, none⟩)) (by decide) (by kernel_rfl) ?_
        refine wl_load rfl rfl (load_cell (fun _ => by kernel_rfl) (b_g.ext e21) rfl) (by decide) ?_
        refine wl_move rfl rfl (by decide) ?_
        refine wl_bslice rfl rfl (by decide) (k := 1) (e := 22) [.slice QA qn qc] (fun _ => by kernel_rfl) fun g23 v24 nb => ?_
        have hb25 := nb.bk
        have e26 := nb.ext
        clear nb
        have hw3 : Ext w v24 := hw2.trans e26
        refine wl_appP rfl rfl rfl (hPw.ext (e21.trans e26)) (Nat.le_trans hpb0 ((Nat.le_trans e21.size e26.size))) hb25 hqn hq8 (hq.ext (e21.trans e26)) (by omega) (by decide) fun A27 c28 v29 pw30 uo31 ⟨us32, ow33⟩ => ?_
        have hw4 : Ext w v29 := uo31.ext hw3 (fun p hp => Nat.le_trans hle0 (ow33.block p hp).1)
        refine wl_pure rfl rfl (v := .pointer (some ⟨g11, 0, none⟩)) (by decide) (by kernel_rfl) ?_
        refine wl_pure rfl rfl (v := .pointer (some ⟨g11, 3, none⟩)) (by decide) (by kernel_rfl) ?_
        have hb35 := ((b_g.ext (e21.trans e26)).updO uo31 (own_ne ow33 (b_g.ext (e21.trans e26)) (by decide)))
        refine wl_stored1 rfl rfl rfl (fun _ => by kernel_rfl) rfl hb35 (Nat.le_of_ble_eq_true rfl) rfl [.int .i64 ((base : Nat) : Int), .int .i64 ((k8 : Nat) : Int), .int .u64 ((base ^ k8 : Nat) : Int), .slice A27 (j + 1) c28, .slice none 0 0] rfl fun v34 hb36 u37 hs38 => ?_
        have hw5 : Ext w v34 := u37.ext hw4 ge15
        refine wl_nil ?_
        refine eo_then ?_
        refine cw_seq ?_
        refine cw_seq ?_
        by_cases hbig : 2 * qn > n4 + 2
        ·
          refine cw_region ?_
          refine wl_move rfl rfl (by decide) ?_
          refine wl_pure rfl rfl (v := .int .i64 ((qn : Nat) : Int)) (by decide) (by kernel_rfl) ?_
          refine wl_ar rfl rfl rfl ((2 * qn : Nat) : Int) (ai_mul (a := 2) (b := qn) rfl rfl (by omega)) (by decide) ?_
          refine wl_move rfl rfl (by decide) ?_
          refine wl_pure rfl rfl (v := .int .i64 ((n4 : Nat) : Int)) (by decide) (by kernel_rfl) ?_
          refine wl_ar rfl rfl rfl ((n4 + 2 : Nat) : Int) (ai_add (a := n4) (b := 2) rfl rfl (by omega)) (by decide) ?_
          refine wl_cmp rfl rfl rfl true (cb_gt_t (a := 2 * qn) (b := n4 + 2) rfl rfl (by omega)) (by decide) ?_
          refine wl_nil ?_
          refine eo_then ?_
          refine cw_true rfl ?_
          refine cw_exit ?_
          refine eo_thenX ?_
          refine eo_block_far (by decide) ?_
          refine eo_loopX ?_
          refine eo_block_here ?_
          refine eo_then ?_
          refine cw_seq ?_
          refine cw_region ?_
          refine wl_move rfl rfl (by decide) ?_
          refine wl_move rfl rfl (by decide) ?_
          refine wl_move rfl rfl (by decide) ?_
          refine wl_pure rfl rfl (v := .pointer (some ⟨g11, 0, none⟩)) (by decide) (by kernel_rfl) ?_
          refine wl_pure rfl rfl (v := .pointer (some ⟨g11, 3, none⟩)) (by decide) (by kernel_rfl) ?_
          refine wl_load rfl rfl (load_cell (fun _ => by kernel_rfl) hb36 rfl) (by decide) ?_
          refine wl_pure rfl rfl (v := .int .i64 (((j + 1) : Nat) : Int)) (by decide) (by kernel_rfl) ?_
          refine wl_ar rfl rfl rfl (((j + 1 : Nat) : Int) - 1) (ar_i64s rfl (by omega) (by omega)) (by decide) ?_
          refine wl_call rfl rfl (vs := [.pointer (some ⟨g11, 0, none⟩), .slice A4 n4 c4, .int .i64 (((j + 1 : Nat) : Int) - 1), .int .i64 0]) (by kernel_rfl) (by decide) (rx_halves (j + 1) (lb := v5.heap.size) (bs := []) rfl (hS.ext hw5) (Nat.lt_of_lt_of_le (World.block_lt_of_cell? w _ (hS 0 (by decide))) hle0) hbl hbu hb36 (Own.nil _ _ _ _) hgl (Nat.le_trans hpb0 ((Nat.le_trans (Nat.le_trans (Nat.le_trans e21.size e26.size) uo31.size) u37.by_.size))) (((hoa.ext (e21.trans e26)).updOT ow33 (by decide) uo31).updT hb35 (by decide) u37).wi (by omega) rfl p9 (by decide) hlen0 ((pw30.updT hb35 u37 (by decide) (by decide)).mono (Nat.zero_le _)) (Nat.le_refl _) (by omega)) ?_
          rintro _ v39 ⟨rfl, A40, n41, c42, hb43, ho44, uw45, kp46⟩
          refine ret_intro ?_
          have hw6 : Ext w v39 := uw45.ext hw5 hle0
          refine wl_nil ?_
          refine eo_then ?_
          refine cw_seq ?_
          refine cw_region ?_
          refine wl_move rfl rfl (by decide) ?_
          refine wl_pure rfl rfl (v := .pointer (some ⟨g11, 0, none⟩)) (by decide) (by kernel_rfl) ?_
          refine wl_pure rfl rfl (v := .pointer (some ⟨g11, 4, none⟩)) (by decide) (by kernel_rfl) ?_
          refine wl_load rfl rfl (load_cell (fun _ => by kernel_rfl) hb43 rfl) (by decide) ?_
          refine wl_toStr rfl rfl ho44 (by decide) ?_
          refine wl_assign rfl rfl (by decide) ?_
          refine wl_assign rfl rfl (by decide) ?_
          refine wl_nil ?_
          refine eo_then ?_
          refine cw_ret ?_
          refine eo_ret [.string (strB ([] ++ txt (padTo (db base m) 0))), .int .i64 0] rfl ⟨rfl, rfl, trivial⟩ ?_
          have hstr : ([] ++ txt (padTo (db base m) 0) : List Nat) = txtN base m := by rw [List.nil_append, padTo_of (Nat.zero_le _), txtN, if_neg hm0]
          exact ⟨_, rfl, ⟨_, _, rfl, (show Value.string _ = Value.string _ from congrArg (fun l => Value.string (strB l)) hstr), rfl⟩, hw6⟩
        ·
          refine cw_region ?_
          refine wl_move rfl rfl (by decide) ?_
          refine wl_pure rfl rfl (v := .int .i64 ((qn : Nat) : Int)) (by decide) (by kernel_rfl) ?_
          refine wl_ar rfl rfl rfl ((2 * qn : Nat) : Int) (ai_mul (a := 2) (b := qn) rfl rfl (by omega)) (by decide) ?_
          refine wl_move rfl rfl (by decide) ?_
          refine wl_pure rfl rfl (v := .int .i64 ((n4 : Nat) : Int)) (by decide) (by kernel_rfl) ?_
          refine wl_ar rfl rfl rfl ((n4 + 2 : Nat) : Int) (ai_add (a := n4) (b := 2) rfl rfl (by omega)) (by decide) ?_
          refine wl_cmp rfl rfl rfl false (cb_gt_f (a := 2 * qn) (b := n4 + 2) rfl rfl (by omega)) (by decide) ?_
          refine wl_nil ?_
          refine eo_then ?_
          refine cw_false rfl ?_
          refine cw_skip ?_
          refine eo_then ?_
          refine cw_region ?_
          refine wl_move rfl rfl (by decide) ?_
          refine wl_call rfl rfl (vs := [.slice QA qn qc]) (by kernel_rfl) (by decide) (rx_Square (Nat.zero_le _) (((hq.ext (e21.trans e26)).updOT ow33 (by decide) uo31).updT hb35 (by decide) u37).wi (by omega)) ?_
          rintro _ v47 ⟨xr49, rfl, r49, e48⟩
          refine ret_intro ?_
          have hw6 : Ext w v47 := hw5.trans e48
          obtain ⟨A50, n50, c50, rfl, j50, o50⟩ := r49
          refine wl_assign rfl rfl (by decide) ?_
          refine wl_nil ?_
          refine eo_block_normal ?_
          refine eo_round (⟨v47, j + 1, A50, n50, c50, A27, c28⟩ : World × Nat × Option Addr × Nat × Nat × Option Addr × Nat) ⟨hw6, (Or.inr hle), (by rw [j50, pow_sq]), (by rw [j50]; exact hsq), (by rw [← pow_sq]; exact o50), (hb36.ext e48), ((pw30.updT hb35 u37 (by decide) (by decide)).ext e48), (Nat.le_trans hpb0 ((Nat.le_trans (Nat.le_trans (Nat.le_trans (Nat.le_trans e21.size e26.size) uo31.size) u37.by_.size) e48.size))), ((((hoa.ext (e21.trans e26)).updOT ow33 (by decide) uo31).updT hb35 (by decide) u37).ext e48)⟩ (show 64 - (j + 1) < 64 - j by omega) rfl ⟨rfl, rfl, rfl, rfl, rfl, rfl, trivial⟩
      ·
        refine cw_region ?_
        refine wl_move rfl rfl (by decide) ?_
        refine wl_move rfl rfl (by decide) ?_
        refine wl_call rfl rfl (vs := [.slice QA qn qc, .slice A4 n4 c4]) (by kernel_rfl) (by decide) (rx_Cmp hq.wi (by omega) hoa.wi (by omega)) ?_
        rintro _ v51 ⟨xr53, rfl, r53, e52⟩
        refine ret_intro ?_
        have hw2 : Ext w v51 := hw1.trans e52
        obtain rfl := r53
        refine wl_cmp rfl rfl rfl false (cmp3_leF (by omega)) (by decide) ?_
        refine wl_nil ?_
        refine eo_then ?_
        refine cw_false rfl ?_
        refine cw_exit ?_
        refine eo_thenX ?_
        refine eo_loopX ?_
        refine eo_block_here ?_
        refine eo_then ?_
        refine cw_seq ?_
        refine cw_region ?_
        refine wl_move rfl rfl (by decide) ?_
        refine wl_move rfl rfl (by decide) ?_
        refine wl_move rfl rfl (by decide) ?_
        refine wl_pure rfl rfl (v := .pointer (some ⟨g11, 0, none⟩)) (by decide) (by kernel_rfl) ?_
        refine wl_pure rfl rfl (v := .pointer (some ⟨g11, 3, none⟩)) (by decide) (by kernel_rfl) ?_
        refine wl_load rfl rfl (load_cell (fun _ => by kernel_rfl) (b_g.ext e52) rfl) (by decide) ?_
        refine wl_pure rfl rfl (v := .int .i64 ((j : Nat) : Int)) (by decide) (by kernel_rfl) ?_
        refine wl_ar rfl rfl rfl (((j : Nat) : Int) - 1) (ar_i64s rfl (by omega) (by omega)) (by decide) ?_
        refine wl_call rfl rfl (vs := [.pointer (some ⟨g11, 0, none⟩), .slice A4 n4 c4, .int .i64 (((j : Nat) : Int) - 1), .int .i64 0]) (by kernel_rfl) (by decide) (rx_halves (j) (lb := v5.heap.size) (bs := []) rfl (hS.ext hw2) (Nat.lt_of_lt_of_le (World.block_lt_of_cell? w _ (hS 0 (by decide))) hle0) hbl hbu (b_g.ext e52) (Own.nil _ _ _ _) hgl (Nat.le_trans hpb0 (e52.size)) (hoa.ext e52).wi (by omega) rfl p9 (by decide) hlen0 ((hPw.ext e52).mono (Nat.zero_le _)) (Nat.le_refl _) (by omega)) ?_
        rintro _ v54 ⟨rfl, A55, n56, c57, hb58, ho59, uw60, kp61⟩
        refine ret_intro ?_
        have hw3 : Ext w v54 := uw60.ext hw2 hle0
        refine wl_nil ?_
        refine eo_then ?_
        refine cw_seq ?_
        refine cw_region ?_
        refine wl_move rfl rfl (by decide) ?_
        refine wl_pure rfl rfl (v := .pointer (some ⟨g11, 0, none⟩)) (by decide) (by kernel_rfl) ?_
        refine wl_pure rfl rfl (v := .pointer (some ⟨g11, 4, none⟩)) (by decide) (by kernel_rfl) ?_
        refine wl_load rfl rfl (load_cell (fun _ => by kernel_rfl) hb58 rfl) (by decide) ?_
        refine wl_toStr rfl rfl ho59 (by decide) ?_
        refine wl_assign rfl rfl (by decide) ?_
        refine wl_assign rfl rfl (by decide) ?_
        refine wl_nil ?_
        refine eo_then ?_
        refine cw_ret ?_
        refine eo_ret [.string (strB ([] ++ txt (padTo (db base m) 0))), .int .i64 0] rfl ⟨rfl, rfl, trivial⟩ ?_
        have hstr : ([] ++ txt (padTo (db base m) 0) : List Nat) = txtN base m := by rw [List.nil_append, padTo_of (Nat.zero_le _), txtN, if_neg hm0]
        exact ⟨_, rfl, ⟨_, _, rfl, (show Value.string _ = Value.string _ from congrArg (fun l => Value.string (strB l)) hstr), rfl⟩, hw3⟩
    ·
      refine cw_region ?_
      refine wl_move rfl rfl (by decide) ?_
      refine wl_pure rfl rfl (v := .int .i64 ((n4 : Nat) : Int)) (by decide) (by kernel_rfl) ?_
      refine wl_cmp rfl rfl rfl false (cb_gt_f (a := n4) (b := 12) rfl rfl (by omega)) (by decide) ?_
      refine wl_nil ?_
      refine eo_then ?_
      refine cw_false rfl ?_
      refine cw_skip ?_
      refine eo_then ?_
      refine cw_seq ?_
      refine cw_region ?_
      refine wl_move rfl rfl (by decide) ?_
      refine wl_move rfl rfl (by decide) ?_
      refine wl_move rfl rfl (by decide) ?_
      refine wl_pure rfl rfl (v := .pointer (some ⟨g11, 0, none⟩)) (by decide) (by kernel_rfl) ?_
      refine wl_pure rfl rfl (v := .pointer (some ⟨g11, 3, none⟩)) (by decide) (by kernel_rfl) ?_
      refine wl_load rfl rfl (load_cell (fun _ => by kernel_rfl) hb14 rfl) (by decide) ?_
      refine wl_pure rfl rfl (v := .int .i64 0) (by decide) (by kernel_rfl) ?_
      refine wl_ar rfl rfl rfl (((0 : Nat) : Int) - 1) (ar_i64s rfl (by omega) (by omega)) (by decide) ?_
      refine wl_call rfl rfl (vs := [.pointer (some ⟨g11, 0, none⟩), .slice A4 n4 c4, .int .i64 (((0 : Nat) : Int) - 1), .int .i64 0]) (by kernel_rfl) (by decide) (rx_halves 0 (lb := v5.heap.size) (bs := []) rfl (hS.ext hw3) (Nat.lt_of_lt_of_le (World.block_lt_of_cell? w _ (hS 0 (by decide))) hle0) hbl hbu hb14 (Own.nil _ _ _ _) hgl (e13.size) (o4.ext (e6.trans e13)).wi (by omega) rfl p9 (by decide) hlen0 (Pw.nil _ _ _) (Nat.le_refl _) (by omega)) ?_
      rintro _ v62 ⟨rfl, A63, n64, c65, hb66, ho67, uw68, kp69⟩
      refine ret_intro ?_
      have hw4 : Ext w v62 := uw68.ext hw3 hle0
      refine wl_nil ?_
      refine eo_then ?_
      refine cw_seq ?_
      refine cw_region ?_
      refine wl_move rfl rfl (by decide) ?_
      refine wl_pure rfl rfl (v := .pointer (some ⟨g11, 0, none⟩)) (by decide) (by kernel_rfl) ?_
      refine wl_pure rfl rfl (v := .pointer (some ⟨g11, 4, none⟩)) (by decide) (by kernel_rfl) ?_
      refine wl_load rfl rfl (load_cell (fun _ => by kernel_rfl) hb66 rfl) (by decide) ?_
      refine wl_toStr rfl rfl ho67 (by decide) ?_
      refine wl_assign rfl rfl (by decide) ?_
      refine wl_assign rfl rfl (by decide) ?_
      refine wl_nil ?_
      refine eo_then ?_
      refine cw_ret ?_
      refine eo_ret [.string (strB ([] ++ txt (padTo (db base m) 0))), .int .i64 0] rfl ⟨rfl, rfl, trivial⟩ ?_
      have hstr : ([] ++ txt (padTo (db base m) 0) : List Nat) = txtN base m := by rw [List.nil_append, padTo_of (Nat.zero_le _), txtN, if_neg hm0]
      exact ⟨_, rfl, ⟨_, _, rfl, (show Value.string _ = Value.string _ from congrArg (fun l => Value.string (strB l)) hstr), rfl⟩, hw4⟩
end Go.Proofs.YtmjdmjflgiicaaaDoor

namespace Go.Proofs.YtmjdmjflgiicaaaDoor
open Go.RowKit
theorem run_strix {P : Program} {w : World} {t : TypeId} {bs : List Nat} {i : Nat} (ht : P.underlying t = some .string) (hb : ∀ b, b ∈ bs → b < 256) (hi : i < bs.length) : (Instr.index t (.string (strB bs)) (.int .i64 (i : Int))).run P w = .ok (.int .u8 ((bs.getD i 0 : Nat) : Int)) w := by
  have hs : i < (strB bs).size := by rw [strB_size]; exact hi
  rw [run_index_string w t _ _ _ ht, dif_pos ⟨by omega, by omega⟩]
  have e := strB_get hb hi hs
  simp only [Int.toNat_natCast]
  rw [e]
/-- s[i] of a text -/
theorem wl_strix {P : Program} {Q : Exit → Act → World → Prop} {n : Nat} {l : Fr} {w : World} {ops : Array Oper} {rest : List Oper} {d : Nat} {ty : TypeId} {pos : String} {af : Array Edge} {gd : Option (Nat × Bool)} {x y : Operand} {t : TypeId} {bs : List Nat} {i : Nat} (hw : guardB ops l gd = some true)
    (hx : evo l x = some (.string (strB bs))) (hy : evo l y = some (.int .i64 (i : Int))) (ht : P.underlying t = some .string) (hb : ∀ b, b ∈ bs → b < 256) (hi : i < bs.length) (hn : d < n) (h : wl P ops Q n rest ((d, .int .u8 ((bs.getD i 0 : Nat) : Int)) :: l) w) : wl P ops Q n (⟨some d, .index t x y, ty, pos, af, gd⟩ :: rest) l w := by
  refine wl_val hw hn (fun a' ha => ?_) h
  have e : (Instr.index t (a'.eval x) (a'.eval y)).run P w = .ok (.int .u8 ((bs.getD i 0 : Nat) : Int)) w := by rw [ha.ev hx, ha.ev hy]; exact run_strix ht hb hi
  show ((Instr.index t (a'.eval x) (a'.eval y) >>= fun r => pure (Next.value r) : Sem Next)).run P w = _
  rw [Sem.run_bind, e]; rfl
theorem Rune.eq {bs : List Nat} {p r z : Nat} (h : Rune bs p r z) (hr : r < 128) : z = 1 ∧ r = bs.getD p 0 := by
  by_cases h1 : bs.getD p 0 < 128
  · exact ⟨(h.low h1).2, (h.low h1).1⟩
  · have := h.high (by omega); omega
theorem Rune.ne {bs : List Nat} {p r z c : Nat} (h : Rune bs p r z) (hc : c < 128) (hr : r ≠ c) : bs.getD p 0 ≠ c := fun e => hr (by rw [(h.low (by omega)).1, e])
/-- digits in groups of three -/
def gout (s : List Nat) : Nat → List Nat
  | 0 => []
  | i + 1 => gout s i ++ ((if 0 < i ∧ (s.length - i) % 3 = 0 then [95] else []) ++ [s.getD i 0])
def grpT (s : List Nat) : List Nat := gout s s.length
/-- what is left of a text with _ between digits -/
def grp : Bool → List Nat → Option (List Nat)
  | b, [] => if b then some [] else none
  | b, c :: r => if c = 95 ∧ b = true then grp false r else if dv c < 10 then (grp true r).map (c :: ·) else none
theorem txtN_lt {b m : Nat} (hb : 2 ≤ b) (hb2 : b ≤ 36) : ∀ c, c ∈ txtN b m → c < 256 := by
  intro c hc
  unfold txtN at hc
  split at hc
  · rw [List.mem_singleton] at hc; omega
  · unfold txt at hc
    obtain ⟨d, hd, rfl⟩ := List.mem_map.1 hc
    have h1 := Wfb_db hb m d (List.mem_reverse.1 hd)
    have := sgn_le (d := d) (by omega)
    omega
theorem grp_under {bs : List Nat} {p : Nat} (hp : p < bs.length) (h : 95 = bs.getD p 0) : grp true (bs.drop p) = grp false (bs.drop (p + 1)) := by
  rw [drop_getD hp, grp, if_pos ⟨h.symm, rfl⟩]
theorem grp_dig {bs : List Nat} {p : Nat} {b : Bool} (hp : p < bs.length) (h : dv (bs.getD p 0) < 10) : grp b (bs.drop p) = (grp true (bs.drop (p + 1))).map (bs.getD p 0 :: ·) := by
  rw [drop_getD hp, grp, if_neg (fun e => by rw [e.1] at h; exact absurd h (by decide)), if_pos h]
theorem grp_bad {bs : List Nat} {p : Nat} {b : Bool} (hp : p < bs.length) (h : ¬ dv (bs.getD p 0) < 10) (h2 : ¬ (bs.getD p 0 = 95 ∧ b = true)) : grp b (bs.drop p) = none := by
  rw [drop_getD hp, grp, if_neg h2, if_neg h]
theorem grp_app {X : Option (List Nat)} {pl : List Nat} {c : Nat} : (X.map (c :: ·)).map (pl ++ ·) = X.map ((pl ++ [c]) ++ ·) := by
  cases X with
  | none => rfl
  | some x => simp
set_option maxHeartbeats 4000000 in
theorem rx_DecF {w : World} {A : Option Addr} {an ac m : Nat} (hS : Signs w) (hx : Wi w A an ac m) (hal : an ≤ 4194304) :
    Calls Tryd.prog 42 #[.slice A an ac] w (Gv w (Is (.string (strB (txtN 10 m))))) := by
  refine sx_enter Tryd.func42 rfl (n := 11) rfl (Nat.le_of_ble_eq_true rfl) (args := [.slice A an ac]) ?_
  refine cw_keep [(0, .slice A an ac)] ⟨rfl, trivial⟩ ?_
  refine cw_seq ?_
  refine cw_region ?_
  refine wl_assign rfl rfl (by decide) ?_
  refine wl_nil ?_
  refine eo_then ?_
  refine cw_seq ?_
  refine cw_region ?_
  refine wl_move rfl rfl (by decide) ?_
  refine wl_call rfl rfl (vs := [.slice A an ac, .int .i64 10]) (by kernel_rfl) (by decide) (rx_Text (base := 10) (hS.ext (Ext.refl w)) hx (by omega) (by decide) (by decide)) ?_
  rintro _ v1 ⟨xr3, rfl, r3, e2⟩
  refine ret_intro ?_
  have hw1 : Ext w v1 := (Ext.refl w).trans e2
  obtain ⟨a4_0, a4_1, rfl, r4_0, r4_1⟩ := r3
  obtain rfl := r4_0
  obtain rfl := r4_1
  refine wl_move rfl rfl (by decide) ?_
  refine wl_pure rfl rfl (v := .string (strB (txtN 10 m))) (by decide) (by kernel_rfl) ?_
  refine wl_pure rfl rfl (v := .int .i64 0) (by decide) (by kernel_rfl) ?_
  refine wl_assign rfl rfl (by decide) ?_
  refine wl_assign rfl rfl (by decide) ?_
  refine wl_nil ?_
  refine eo_then ?_
  refine cw_seq ?_
  refine cw_region ?_
  refine wl_move rfl rfl (by decide) ?_
  refine wl_assign rfl rfl (by decide) ?_
  refine wl_nil ?_
  refine eo_then ?_
  refine cw_ret ?_
  refine eo_ret [.string (strB (txtN 10 m))] rfl ⟨rfl, trivial⟩ ?_
  exact ⟨_, rfl, rfl, hw1⟩
set_option maxHeartbeats 4000000 in
theorem rx_Digits {w : World} {A : Option Addr} {an ac m : Nat} (hS : Signs w) (hx : Wi w A an ac m) (hal : an ≤ 4194304) :
    Calls Tryd.prog 40 #[.slice A an ac] w (Gv w (Is (.int .i64 (((txtN 10 m).length : Nat) : Int)))) := by
  refine sx_enter Tryd.func40 rfl (n := 6) rfl (Nat.le_of_ble_eq_true rfl) (args := [.slice A an ac]) ?_
  refine cw_keep [(0, .slice A an ac)] ⟨rfl, trivial⟩ ?_
  refine cw_seq ?_
  refine cw_region ?_
  refine wl_assign rfl rfl (by decide) ?_
  refine wl_nil ?_
  refine eo_then ?_
  refine cw_seq ?_
  refine cw_region ?_
  refine wl_move rfl rfl (by decide) ?_
  refine wl_call rfl rfl (vs := [.slice A an ac]) (by kernel_rfl) (by decide) (rx_DecF (hS.ext (Ext.refl w)) hx (by omega)) ?_
  rintro _ v1 ⟨xr3, rfl, r3, e2⟩
  refine ret_intro ?_
  have hw1 : Ext w v1 := (Ext.refl w).trans e2
  obtain rfl := r3
  refine wl_pureE rfl rfl (v := .int .i64 (((strB (txtN 10 m)).size : Nat) : Int)) (v' := .int .i64 (((txtN 10 m).length : Nat) : Int)) (by decide) (by kernel_rfl) (by rw [strB_size]) ?_
  refine wl_assign rfl rfl (by decide) ?_
  refine wl_nil ?_
  refine eo_then ?_
  refine cw_ret ?_
  refine eo_ret [.int .i64 (((txtN 10 m).length : Nat) : Int)] rfl ⟨rfl, trivial⟩ ?_
  exact ⟨_, rfl, rfl, hw1⟩
set_option maxHeartbeats 4000000 in
theorem rx_ReadDec_good {w : World} {bs : List Nat} (hbs : ∀ b, b ∈ bs → b < 256) (hlen : bs.length ≤ 17179869184) (hg : Good 10 bs) :
    Calls Tryd.prog 44 #[.string (strB bs)] w (Gv w (T2 (WR w.heap.size (vald 10 (bs.map dv))) (Is (.int .i64 0)))) := by
  refine sx_enter Tryd.func44 rfl (n := 8) rfl (Nat.le_of_ble_eq_true rfl) (args := [.string (strB bs)]) ?_
  refine cw_keep [(0, .string (strB bs))] ⟨rfl, trivial⟩ ?_
  refine cw_seq ?_
  refine cw_region ?_
  refine wl_assign rfl rfl (by decide) ?_
  refine wl_assign rfl rfl (by decide) ?_
  refine wl_nil ?_
  refine eo_then ?_
  refine cw_seq ?_
  refine cw_region ?_
  refine wl_move rfl rfl (by decide) ?_
  refine wl_call rfl rfl (vs := [.string (strB bs), .int .i64 10]) (by kernel_rfl) (by decide) (rx_Read_good (Ext.refl w).size (base := 10) (by decide) (by decide) hbs hlen hg) ?_
  rintro _ v1 ⟨xr3, rfl, r3, e2⟩
  refine ret_intro ?_
  have hw1 : Ext w v1 := (Ext.refl w).trans e2
  obtain ⟨a4_0, a4_1, rfl, r4_0, r4_1⟩ := r3
  obtain ⟨A5, n5, c5, rfl, j5, o5⟩ := r4_0
  obtain rfl := r4_1
  refine wl_pure rfl rfl (v := .slice A5 n5 c5) (by decide) (by kernel_rfl) ?_
  refine wl_pure rfl rfl (v := .int .i64 0) (by decide) (by kernel_rfl) ?_
  refine wl_assign rfl rfl (by decide) ?_
  refine wl_assign rfl rfl (by decide) ?_
  refine wl_nil ?_
  refine eo_then ?_
  refine cw_ret ?_
  refine eo_ret [.slice A5 n5 c5, .int .i64 0] rfl ⟨rfl, rfl, trivial⟩ ?_
  exact ⟨_, rfl, ⟨_, _, rfl, ⟨_, _, _, rfl, j5, o5⟩, rfl⟩, hw1⟩
set_option maxHeartbeats 4000000 in
theorem rx_ReadDec_bad {w : World} {bs : List Nat} (hbs : ∀ b, b ∈ bs → b < 256) (hlen : bs.length ≤ 17179869184) (hg : ¬ Good 10 bs) :
    Calls Tryd.prog 44 #[.string (strB bs)] w (Gv w (T2 (Is (.slice none 0 0)) (Is (.int .i64 7)))) := by
  refine sx_enter Tryd.func44 rfl (n := 8) rfl (Nat.le_of_ble_eq_true rfl) (args := [.string (strB bs)]) ?_
  refine cw_keep [(0, .string (strB bs))] ⟨rfl, trivial⟩ ?_
  refine cw_seq ?_
  refine cw_region ?_
  refine wl_assign rfl rfl (by decide) ?_
  refine wl_assign rfl rfl (by decide) ?_
  refine wl_nil ?_
  refine eo_then ?_
  refine cw_seq ?_
  refine cw_region ?_
  refine wl_move rfl rfl (by decide) ?_
  refine wl_call rfl rfl (vs := [.string (strB bs), .int .i64 10]) (by kernel_rfl) (by decide) (rx_Read_bad (base := 10) (by decide) (by decide) hbs hlen hg) ?_
  rintro _ v1 ⟨xr3, rfl, r3, e2⟩
  refine ret_intro ?_
  have hw1 : Ext w v1 := (Ext.refl w).trans e2
  obtain ⟨a4_0, a4_1, rfl, r4_0, r4_1⟩ := r3
  obtain rfl := r4_0
  obtain rfl := r4_1
  refine wl_pure rfl rfl (v := .slice none 0 0) (by decide) (by kernel_rfl) ?_
  refine wl_pure rfl rfl (v := .int .i64 7) (by decide) (by kernel_rfl) ?_
  refine wl_assign rfl rfl (by decide) ?_
  refine wl_assign rfl rfl (by decide) ?_
  refine wl_nil ?_
  refine eo_then ?_
  refine cw_ret ?_
  refine eo_ret [.slice none 0 0, .int .i64 7] rfl ⟨rfl, rfl, trivial⟩ ?_
  exact ⟨_, rfl, ⟨_, _, rfl, rfl, rfl⟩, hw1⟩
set_option maxHeartbeats 4000000 in
theorem rx_Grouped {w : World} {A : Option Addr} {an ac m : Nat} (hS : Signs w) (hx : Wi w A an ac m) (hal : an ≤ 4194304) :
    Calls Tryd.prog 41 #[.slice A an ac] w (Gv w (Is (.string (strB (grpT (txtN 10 m)))))) := by
  refine sx_enter Tryd.func41 rfl (n := 42) rfl (Nat.le_of_ble_eq_true rfl) (args := [.slice A an ac]) ?_
  refine cw_keep [(0, .slice A an ac)] ⟨rfl, trivial⟩ ?_
  refine cw_seq ?_
  refine cw_region ?_
  refine wl_assign rfl rfl (by decide) ?_
  refine wl_nil ?_
  refine eo_then ?_
  refine cw_seq ?_
  refine cw_region ?_
  refine wl_move rfl rfl (by decide) ?_
  refine wl_call rfl rfl (vs := [.slice A an ac]) (by kernel_rfl) (by decide) (rx_DecF (hS.ext (Ext.refl w)) hx (by omega)) ?_
  rintro _ v1 ⟨xr3, rfl, r3, e2⟩
  refine ret_intro ?_
  have hw1 : Ext w v1 := (Ext.refl w).trans e2
  obtain rfl := r3
  refine wl_assign rfl rfl (by decide) ?_
  refine wl_nil ?_
  refine eo_then ?_
  refine cw_seq ?_
  have hml := Nat.le_trans hx.len hal
  have hbs : ∀ b, b ∈ txtN 10 m → b < 256 := txtN_lt (by decide) (by decide)
  have hsl : (txtN 10 m).length ≤ 268435457 := txtN_len (by decide) hml
  generalize hsx : txtN 10 m = s at *
  refine cw_keep [(0, .slice A an ac), (2, .string (strB ([]))), (6, .slice A an ac), (3, .string (strB s))] ⟨rfl, rfl, rfl, rfl, trivial⟩ ?_
  refine cw_region ?_
  refine wl_move rfl rfl (by decide) ?_
  refine wl_pureE rfl rfl (v := .int .i64 (((strB s).size : Nat) : Int)) (v' := .int .i64 ((s.length : Nat) : Int)) (by decide) (by kernel_rfl) (by rw [strB_size]) ?_
  refine wl_move rfl rfl (by decide) ?_
  refine wl_pureE rfl rfl (v := .int .i64 (((strB s).size : Nat) : Int)) (v' := .int .i64 ((s.length : Nat) : Int)) (by decide) (by kernel_rfl) (by rw [strB_size]) ?_
  refine wl_ar rfl rfl rfl ((s.length / 3 : Nat) : Int) (ai_quo (a := s.length) (b := 3) rfl rfl (by omega) (by omega)) (by decide) ?_
  refine wl_ar rfl rfl rfl ((s.length + (s.length / 3) : Nat) : Int) (ai_add (a := s.length) (b := s.length / 3) rfl rfl (by omega)) (by decide) ?_
  refine wl_make80 (k := s.length + (s.length / 3)) rfl rfl rfl un_u8 info8 rfl (by omega) (by decide) fun g4 v5 ho6 e7 => ?_
  have ho6 := ho6.mono hw1.size
  have hw2 : Ext w v5 := hw1.trans e7
  refine wl_assign rfl rfl (by decide) ?_
  refine wl_nil ?_
  refine eo_then ?_
  refine cw_seq ?_
  refine cw_seq ?_
  refine cw_region ?_
  refine wl_move rfl rfl (by decide) ?_
  refine wl_pureE rfl rfl (v := .int .i64 (((strB s).size : Nat) : Int)) (v' := .int .i64 ((s.length : Nat) : Int)) (by decide) (by kernel_rfl) (by rw [strB_size]) ?_
  refine wl_move rfl rfl (by decide) ?_
  refine wl_nil ?_
  refine eo_then ?_
  refine cw_block ?_
  refine cw_loop (T := World × Nat × Option Addr × Nat × Nat)
    (fun ⟨wr, i, OA, on, oc⟩ => [(3, .string (strB s)), (4, .slice OA on oc), (16, .int .i64 ((s.length : Nat) : Int)), (17, .int .i64 ((i : Nat) : Int))])
    (fun ⟨wr, i, OA, on, oc⟩ => wr)
    (fun ⟨wr, i, OA, on, oc⟩ => (Ext w wr) ∧ (Own wr w.heap.size 5 1 OA on oc ((gout s i).map B8)) ∧ (i ≤ s.length) ∧ (on ≤ 2 * i))
    (fun ⟨wr, i, OA, on, oc⟩ => s.length - i)
    (⟨v5, 0, (some ⟨g4, 0, none⟩), 0, (s.length + (s.length / 3))⟩ : World × Nat × Option Addr × Nat × Nat) ⟨hw2, ho6, (Nat.zero_le _), (Nat.zero_le _)⟩ rfl ⟨rfl, rfl, rfl, rfl, trivial⟩ ?_
  rintro ⟨wr, i, OA, on, oc⟩ ⟨hw1, hO, hi, hon⟩
  refine cw_re [(3, .string (strB s)), (4, .slice OA on oc), (16, .int .i64 ((s.length : Nat) : Int)), (17, .int .i64 ((i : Nat) : Int))] wr rfl ⟨rfl, rfl, rfl, rfl, trivial⟩ ?_
  refine cw_seq ?_
  by_cases hlt : i < s.length
  ·
    refine cw_region ?_
    refine wl_cmp rfl rfl rfl true (cb_lt_t (a := i) (b := s.length) rfl rfl (by omega)) (by decide) ?_
    refine wl_nil ?_
    refine eo_then ?_
    refine cw_seq ?_
    refine cw_true rfl ?_
    refine cw_skip ?_
    refine eo_then ?_
    refine cw_seq ?_
    refine cw_block ?_
    refine cw_seq ?_
    refine cw_region ?_
    refine wl_move rfl rfl (by decide) ?_
    refine wl_assign rfl rfl (by decide) ?_
    refine wl_nil ?_
    refine eo_then ?_
    refine cw_seq ?_
    refine cw_seq ?_
    by_cases hi0 : i > 0
    ·
      by_cases hi3 : (s.length - i) % 3 = 0
      ·
        refine cw_region ?_
        refine wl_move rfl rfl (by decide) ?_
        refine wl_cmp rfl rfl rfl true (cb_gt_t (a := i) (b := 0) rfl rfl (by omega)) (by decide) ?_
        refine wl_move rfl rfl (by decide) ?_
        refine wl_move rfl rfl (by decide) ?_
        refine wl_pureE rfl rfl (v := .int .i64 (((strB s).size : Nat) : Int)) (v' := .int .i64 ((s.length : Nat) : Int)) (by decide) (by kernel_rfl) (by rw [strB_size]) ?_
        refine wl_move rfl rfl (by decide) ?_
        refine wl_ar rfl rfl rfl ((s.length - i : Nat) : Int) (ai_sub (a := s.length) (b := i) rfl rfl (by omega) (by omega)) (by decide) ?_
        refine wl_ar rfl rfl rfl (((s.length - i) % 3 : Nat) : Int) (au_rem (a := s.length - i) (b := 3) rfl rfl (by omega)) (by decide) ?_
        refine wl_cmp rfl rfl rfl true (cb_eq_t (a := (s.length - i) % 3) (b := 0) rfl rfl (by omega)) (by decide) ?_
        refine wl_pure rfl rfl (v := .bool true) (by decide) (by kernel_rfl) ?_
        refine wl_nil ?_
        refine eo_then ?_
        refine cw_true rfl ?_
        refine cw_region ?_
        refine wl_move rfl rfl (by decide) ?_
        refine wl_bslice rfl rfl (by decide) (k := 1) (e := 5) [.int .u8 95] (fun _ => by kernel_rfl) fun g8 v9 nb => ?_
        have hb10 := nb.bk
        have e11 := nb.ext
        clear nb
        have hw2 : Ext w v9 := hw1.trans e11
        have ow12 := (hO.ext e11)
        refine wl_app rfl rfl rfl un_u8 info8 rfl (by decide) (by decide) ow12 hw2.size [.int .u8 95] rfl (one_news _ hb10) rfl (by omega) (by decide) fun A13 c14 v15 ho16 uo17 kp18 => ?_
        have hw3 : Ext w v15 := uo17.ext hw2 (fun p hp => (ow12.block p hp).1)
        have ho19 : Own v15 w.heap.size 5 1 A13 (on + 1) c14 (((gout s i) ++ [95]).map B8) := by have h := ho16; simp only [List.map_append, List.map_cons, List.map_nil] at h ⊢; exact h
        refine wl_assign rfl rfl (by decide) ?_
        refine wl_nil ?_
        refine eo_then ?_
        refine cw_region ?_
        refine wl_move rfl rfl (by decide) ?_
        refine wl_move rfl rfl (by decide) ?_
        refine wl_move rfl rfl (by decide) ?_
        refine wl_strix (bs := s) (i := i) rfl rfl rfl Tryd.underlying9 hbs (by omega) (by decide) ?_
        refine wl_bslice rfl rfl (by decide) (k := 1) (e := 5) [.int .u8 ((s.getD i 0 : Nat) : Int)] (fun _ => by kernel_rfl) fun g20 v21 nb => ?_
        have hb22 := nb.bk
        have e23 := nb.ext
        clear nb
        have hw4 : Ext w v21 := hw3.trans e23
        have ow24 := (ho19.ext e23)
        refine wl_app rfl rfl rfl un_u8 info8 rfl (by decide) (by decide) ow24 hw4.size [.int .u8 ((s.getD i 0 : Nat) : Int)] rfl (one_news _ hb22) rfl (by omega) (by decide) fun A25 c26 v27 ho28 uo29 kp30 => ?_
        have hw5 : Ext w v27 := uo29.ext hw4 (fun p hp => (ow24.block p hp).1)
        have ho31 : Own v27 w.heap.size 5 1 A25 (on + 1 + 1) c26 ((((gout s i) ++ [95]) ++ [s.getD i 0]).map B8) := by have h := ho28; simp only [List.map_append, List.map_cons, List.map_nil] at h ⊢; exact h
        refine wl_assign rfl rfl (by decide) ?_
        refine wl_nil ?_
        refine eo_block_normal ?_
        refine eo_then ?_
        refine cw_region ?_
        refine wl_ar rfl rfl rfl ((i + 1 : Nat) : Int) (ai_add (a := i) (b := 1) rfl rfl (by omega)) (by decide) ?_
        refine wl_move rfl rfl (by decide) ?_
        refine wl_nil ?_
        refine eo_round (⟨v27, i + 1, A25, on + 1 + 1, c26⟩ : World × Nat × Option Addr × Nat × Nat) ⟨hw5, (by rw [gout, if_pos ⟨hi0, hi3⟩, ← List.append_assoc]; exact ho31), (by omega), (by omega)⟩ (show s.length - (i + 1) < s.length - i by omega) rfl ⟨rfl, rfl, rfl, rfl, trivial⟩
      ·
        refine cw_region ?_
        refine wl_move rfl rfl (by decide) ?_
        refine wl_cmp rfl rfl rfl true (cb_gt_t (a := i) (b := 0) rfl rfl (by omega)) (by decide) ?_
        refine wl_move rfl rfl (by decide) ?_
        refine wl_move rfl rfl (by decide) ?_
        refine wl_pureE rfl rfl (v := .int .i64 (((strB s).size : Nat) : Int)) (v' := .int .i64 ((s.length : Nat) : Int)) (by decide) (by kernel_rfl) (by rw [strB_size]) ?_
        refine wl_move rfl rfl (by decide) ?_
        refine wl_ar rfl rfl rfl ((s.length - i : Nat) : Int) (ai_sub (a := s.length) (b := i) rfl rfl (by omega) (by omega)) (by decide) ?_
        refine wl_ar rfl rfl rfl (((s.length - i) % 3 : Nat) : Int) (au_rem (a := s.length - i) (b := 3) rfl rfl (by omega)) (by decide) ?_
        refine wl_cmp rfl rfl rfl false (cb_eq_f (a := (s.length - i) % 3) (b := 0) rfl rfl (by omega)) (by decide) ?_
        refine wl_pure rfl rfl (v := .bool false) (by decide) (by kernel_rfl) ?_
        refine wl_nil ?_
        refine eo_then ?_
        refine cw_false rfl ?_
        refine cw_skip ?_
        refine eo_then ?_
        refine cw_region ?_
        refine wl_move rfl rfl (by decide) ?_
        refine wl_move rfl rfl (by decide) ?_
        refine wl_move rfl rfl (by decide) ?_
        refine wl_strix (bs := s) (i := i) rfl rfl rfl Tryd.underlying9 hbs (by omega) (by decide) ?_
        refine wl_bslice rfl rfl (by decide) (k := 1) (e := 5) [.int .u8 ((s.getD i 0 : Nat) : Int)] (fun _ => by kernel_rfl) fun g32 v33 nb => ?_
        have hb34 := nb.bk
        have e35 := nb.ext
        clear nb
        have hw2 : Ext w v33 := hw1.trans e35
        have ow36 := (hO.ext e35)
        refine wl_app rfl rfl rfl un_u8 info8 rfl (by decide) (by decide) ow36 hw2.size [.int .u8 ((s.getD i 0 : Nat) : Int)] rfl (one_news _ hb34) rfl (by omega) (by decide) fun A37 c38 v39 ho40 uo41 kp42 => ?_
        have hw3 : Ext w v39 := uo41.ext hw2 (fun p hp => (ow36.block p hp).1)
        have ho43 : Own v39 w.heap.size 5 1 A37 (on + 1) c38 (((gout s i) ++ [s.getD i 0]).map B8) := by have h := ho40; simp only [List.map_append, List.map_cons, List.map_nil] at h ⊢; exact h
        refine wl_assign rfl rfl (by decide) ?_
        refine wl_nil ?_
        refine eo_block_normal ?_
        refine eo_then ?_
        refine cw_region ?_
        refine wl_ar rfl rfl rfl ((i + 1 : Nat) : Int) (ai_add (a := i) (b := 1) rfl rfl (by omega)) (by decide) ?_
        refine wl_move rfl rfl (by decide) ?_
        refine wl_nil ?_
        refine eo_round (⟨v39, i + 1, A37, on + 1, c38⟩ : World × Nat × Option Addr × Nat × Nat) ⟨hw3, (by rw [gout, if_neg (by omega), List.nil_append]; exact ho43), (by omega), (by omega)⟩ (show s.length - (i + 1) < s.length - i by omega) rfl ⟨rfl, rfl, rfl, rfl, trivial⟩
    ·
      refine cw_region ?_
      refine wl_move rfl rfl (by decide) ?_
      refine wl_cmp rfl rfl rfl false (cb_gt_f (a := i) (b := 0) rfl rfl (by omega)) (by decide) ?_
      refine wl_move rfl rfl (by decide) ?_
      refine wl_off rfl (by decide) ?_
      refine wl_off rfl (by decide) ?_
      refine wl_off rfl (by decide) ?_
      refine wl_off rfl (by decide) ?_
      refine wl_off rfl (by decide) ?_
      refine wl_off rfl (by decide) ?_
      refine wl_pure rfl rfl (v := .bool false) (by decide) (by kernel_rfl) ?_
      refine wl_nil ?_
      refine eo_then ?_
      refine cw_false rfl ?_
      refine cw_skip ?_
      refine eo_then ?_
      refine cw_region ?_
      refine wl_move rfl rfl (by decide) ?_
      refine wl_move rfl rfl (by decide) ?_
      refine wl_move rfl rfl (by decide) ?_
      refine wl_strix (bs := s) (i := i) rfl rfl rfl Tryd.underlying9 hbs (by omega) (by decide) ?_
      refine wl_bslice rfl rfl (by decide) (k := 1) (e := 5) [.int .u8 ((s.getD i 0 : Nat) : Int)] (fun _ => by kernel_rfl) fun g44 v45 nb => ?_
      have hb46 := nb.bk
      have e47 := nb.ext
      clear nb
      have hw2 : Ext w v45 := hw1.trans e47
      have ow48 := (hO.ext e47)
      refine wl_app rfl rfl rfl un_u8 info8 rfl (by decide) (by decide) ow48 hw2.size [.int .u8 ((s.getD i 0 : Nat) : Int)] rfl (one_news _ hb46) rfl (by omega) (by decide) fun A49 c50 v51 ho52 uo53 kp54 => ?_
      have hw3 : Ext w v51 := uo53.ext hw2 (fun p hp => (ow48.block p hp).1)
      have ho55 : Own v51 w.heap.size 5 1 A49 (on + 1) c50 (((gout s i) ++ [s.getD i 0]).map B8) := by have h := ho52; simp only [List.map_append, List.map_cons, List.map_nil] at h ⊢; exact h
      refine wl_assign rfl rfl (by decide) ?_
      refine wl_nil ?_
      refine eo_block_normal ?_
      refine eo_then ?_
      refine cw_region ?_
      refine wl_ar rfl rfl rfl ((i + 1 : Nat) : Int) (ai_add (a := i) (b := 1) rfl rfl (by omega)) (by decide) ?_
      refine wl_move rfl rfl (by decide) ?_
      refine wl_nil ?_
      refine eo_round (⟨v51, i + 1, A49, on + 1, c50⟩ : World × Nat × Option Addr × Nat × Nat) ⟨hw3, (by rw [gout, if_neg (by omega), List.nil_append]; exact ho55), (by omega), (by omega)⟩ (show s.length - (i + 1) < s.length - i by omega) rfl ⟨rfl, rfl, rfl, rfl, trivial⟩
  ·
    have hil : i = s.length := by omega
    refine cw_region ?_
    refine wl_cmp rfl rfl rfl false (cb_lt_f (a := i) (b := s.length) rfl rfl (by omega)) (by decide) ?_
    refine wl_nil ?_
    refine eo_then ?_
    refine cw_seq ?_
    refine cw_false rfl ?_
    refine cw_exit ?_
    refine eo_thenX ?_
    refine eo_loopX ?_
    refine eo_block_here ?_
    refine eo_then ?_
    refine cw_seq ?_
    refine cw_region ?_
    refine wl_move rfl rfl (by decide) ?_
    refine wl_toStr rfl rfl hO (by decide) ?_
    refine wl_assign rfl rfl (by decide) ?_
    refine wl_nil ?_
    refine eo_then ?_
    refine cw_ret ?_
    refine eo_ret [.string (strB (gout s i))] rfl ⟨rfl, trivial⟩ ?_
    subst hil
    exact ⟨_, rfl, rfl, hw1⟩
set_option maxHeartbeats 4000000 in
theorem rx_ReadGrouped_all {w : World} {bs : List Nat} (hbs : ∀ b, b ∈ bs → b < 256) (hlen : bs.length ≤ 17179869184) :
    Calls Tryd.prog 43 #[.string (strB bs)] w (fun e w' => (∀ pl, grp false bs = some pl → Gv w (T2 (WR w.heap.size (vald 10 (pl.map dv))) (Is (.int .i64 0))) e w') ∧ (grp false bs = none → Gv w (T2 (Is (.slice none 0 0)) (Is (.int .i64 7))) e w')) := by
  refine sx_enter Tryd.func43 rfl (n := 38) rfl (Nat.le_of_ble_eq_true rfl) (args := [.string (strB bs)]) ?_
  refine cw_keep [(0, .string (strB bs))] ⟨rfl, trivial⟩ ?_
  refine cw_seq ?_
  refine cw_region ?_
  refine wl_assign rfl rfl (by decide) ?_
  refine wl_assign rfl rfl (by decide) ?_
  refine wl_nil ?_
  refine eo_then ?_
  refine cw_seq ?_
  refine cw_region ?_
  refine wl_move rfl rfl (by decide) ?_
  refine wl_pureE rfl rfl (v := .int .i64 (((strB bs).size : Nat) : Int)) (v' := .int .i64 ((bs.length : Nat) : Int)) (by decide) (by kernel_rfl) (by rw [strB_size]) ?_
  refine wl_make80 (k := bs.length) rfl rfl rfl un_u8 info8 rfl (by omega) (by decide) fun g1 v2 ho3 e4 => ?_
  have ho3 := ho3.mono (Ext.refl w).size
  have hw1 : Ext w v2 := (Ext.refl w).trans e4
  refine wl_assign rfl rfl (by decide) ?_
  refine wl_nil ?_
  refine eo_then ?_
  refine cw_seq ?_
  refine cw_region ?_
  refine wl_assign rfl rfl (by decide) ?_
  refine wl_nil ?_
  refine eo_then ?_
  refine cw_seq ?_
  refine cw_seq ?_
  refine cw_region ?_
  refine wl_move rfl rfl (by decide) ?_
  refine wl_range (bs := bs) rfl rfl Tryd.underlying9 (by decide) fun g5 v6 hg7 it8 e9 => ?_
  have ge10 : w.heap.size ≤ g5 := by rw [← hg7]; exact hw1.size
  clear hg7
  have hw2 : Ext w v6 := hw1.trans e9
  refine wl_nil ?_
  refine eo_then ?_
  refine cw_block ?_
  refine cw_loop (T := World × Nat × Bool × List Nat × Option Addr × Nat × Nat)
    (fun ⟨wr, p, bt, pl, OA, on, oc⟩ => [(0, .string (strB bs)), (4, .slice OA on oc), (5, .bool bt), (12, .pointer (some ⟨g5, 0, none⟩))])
    (fun ⟨wr, p, bt, pl, OA, on, oc⟩ => wr)
    (fun ⟨wr, p, bt, pl, OA, on, oc⟩ => (Ext w wr) ∧ (It wr g5 bs p) ∧ (Own wr w.heap.size 5 1 OA on oc (pl.map B8)) ∧ (p ≤ bs.length) ∧ (on ≤ p) ∧ (grp false bs = (grp bt (bs.drop p)).map (pl ++ ·)) ∧ (∀ c, c ∈ pl → dv c < 10) ∧ (∀ c, c ∈ pl → c < 256) ∧ (bt = true → pl ≠ []))
    (fun ⟨wr, p, bt, pl, OA, on, oc⟩ => bs.length - p)
    (⟨v6, 0, false, [], (some ⟨g1, 0, none⟩), 0, bs.length⟩ : World × Nat × Bool × List Nat × Option Addr × Nat × Nat) ⟨hw2, it8, (ho3.ext e9), (Nat.zero_le _), (Nat.zero_le _), (by rw [List.drop_zero]; cases grp false bs <;> simp), (fun c hc => absurd hc (by simp)), (fun c hc => absurd hc (by simp)), (fun h => absurd h (by decide))⟩ rfl ⟨rfl, rfl, rfl, rfl, trivial⟩ ?_
  rintro ⟨wr, p, bt, pl, OA, on, oc⟩ ⟨hw1, hI, hO, hp, hon, hG, hpd, hpb, hbt⟩
  refine cw_re [(0, .string (strB bs)), (4, .slice OA on oc), (5, .bool bt), (12, .pointer (some ⟨g5, 0, none⟩))] wr rfl ⟨rfl, rfl, rfl, rfl, trivial⟩ ?_
  refine cw_seq ?_
  by_cases hnx : p < bs.length
  ·
    refine cw_region ?_
    have it11 := hI
    refine wl_nextR rfl rfl hbs it11 (by omega) (by decide) fun v12 r13 z14 hr15 it16 u17 => ?_
    have hw2 : Ext w v12 := u17.ext hw1 ge10
    refine wl_pure rfl rfl (v := .bool true) (by decide) (by kernel_rfl) ?_
    refine wl_nil ?_
    refine eo_then ?_
    refine cw_seq ?_
    refine cw_true rfl ?_
    refine cw_skip ?_
    refine eo_then ?_
    refine cw_block ?_
    refine cw_seq ?_
    refine cw_region ?_
    refine wl_pure rfl rfl (v := .int .i32 ((r13 : Nat) : Int)) (by decide) (by kernel_rfl) ?_
    refine wl_assign rfl rfl (by decide) ?_
    refine wl_nil ?_
    refine eo_then ?_
    refine cw_block ?_
    refine cw_seq ?_
    by_cases h95r : r13 = 95
    ·
      cases bt
      ·
        have h95 : ¬ (bs.getD p 0 = 95 ∧ false = true) := fun h => absurd h.2 (by decide)
        refine cw_region ?_
        refine wl_move rfl rfl (by decide) ?_
        refine wl_cmp rfl rfl rfl true (cb_eq_t (a := r13) (b := 95) rfl rfl (by omega)) (by decide) ?_
        refine wl_move rfl rfl (by decide) ?_
        refine wl_move rfl rfl (by decide) ?_
        refine wl_pure rfl rfl (v := .bool false) (by decide) (by kernel_rfl) ?_
        refine wl_assign rfl rfl (by decide) ?_
        refine wl_nil ?_
        refine eo_then ?_
        refine cw_false rfl ?_
        refine cw_seq ?_
        by_cases hdl : dv r13 < 10
        ·
          have h1z := hr15.one (by omega)
          refine cw_region ?_
          refine wl_move rfl rfl (by decide) ?_
          refine wl_call rfl rfl (vs := [.int .i32 ((r13 : Nat) : Int)]) (by kernel_rfl) (by decide) (rx_value hr15.le) ?_
          rintro _ v18 ⟨xr20, rfl, r20, e19⟩
          refine ret_intro ?_
          have hw3 : Ext w v18 := hw2.trans e19
          obtain rfl := r20
          refine wl_cmp rfl rfl rfl true (cb_lt_t (a := dv r13) (b := 10) rfl rfl (by omega)) (by decide) ?_
          refine wl_assign rfl rfl (by decide) ?_
          refine wl_nil ?_
          refine eo_then ?_
          refine cw_true rfl ?_
          refine cw_seq ?_
          refine cw_region ?_
          refine wl_move rfl rfl (by decide) ?_
          refine wl_move rfl rfl (by decide) ?_
          refine wl_pureE rfl rfl (v := .int .u8 (IntKind.u8.wrap ((r13 : Nat) : Int))) (v' := .int .u8 ((r13 : Nat) : Int)) (by decide) (by kernel_rfl) (cv_u8 (by omega)) ?_
          refine wl_bslice rfl rfl (by decide) (k := 1) (e := 5) [.int .u8 ((r13 : Nat) : Int)] (fun _ => by kernel_rfl) fun g21 v22 nb => ?_
          have hb23 := nb.bk
          have e24 := nb.ext
          clear nb
          have hw4 : Ext w v22 := hw3.trans e24
          have ow25 := ((hO.updI it11 u17).ext (e19.trans e24))
          refine wl_app rfl rfl rfl un_u8 info8 rfl (by decide) (by decide) ow25 hw4.size [.int .u8 ((r13 : Nat) : Int)] rfl (one_news _ hb23) rfl (by omega) (by decide) fun A26 c27 v28 ho29 uo30 kp31 => ?_
          have hw5 : Ext w v28 := uo30.ext hw4 (fun p hp => (ow25.block p hp).1)
          have ho32 : Own v28 w.heap.size 5 1 A26 (on + 1) c27 ((pl ++ [r13]).map B8) := by have h := ho29; simp only [List.map_append, List.map_cons, List.map_nil] at h ⊢; exact h
          refine wl_assign rfl rfl (by decide) ?_
          refine wl_nil ?_
          refine eo_then ?_
          refine cw_region ?_
          refine wl_assign rfl rfl (by decide) ?_
          refine wl_nil ?_
          refine eo_block_normal ?_
          refine eo_block_normal ?_
          refine eo_round (⟨v28, p + 1, true, pl ++ [r13], A26, on + 1, c27⟩ : World × Nat × Bool × List Nat × Option Addr × Nat × Nat) ⟨hw5, (by have h := ((it16.ext (e19.trans e24)).updO uo30 (it_own_ne ow25 (it16.ext (e19.trans e24)))); rwa [h1z.1] at h), ho32, (by omega), (by omega), (by rw [hG, grp_dig hnx (by rw [← hr15.dv]; exact hdl), grp_app, ← h1z.2.1]), (fun c hc => by rcases List.mem_append.1 hc with h | h; (· exact hpd c h); (· rw [List.mem_singleton.1 h]; exact hdl)), (fun c hc => by rcases List.mem_append.1 hc with h | h; (· exact hpb c h); (· rw [List.mem_singleton.1 h]; omega)), (fun _ => by simp)⟩ (show bs.length - (p + 1) < bs.length - p by omega) rfl ⟨rfl, rfl, rfl, rfl, trivial⟩
        ·
          rw [grp_bad hnx (by rw [← hr15.dv]; exact hdl) h95] at hG
          refine cw_region ?_
          refine wl_move rfl rfl (by decide) ?_
          refine wl_call rfl rfl (vs := [.int .i32 ((r13 : Nat) : Int)]) (by kernel_rfl) (by decide) (rx_value hr15.le) ?_
          rintro _ v33 ⟨xr35, rfl, r35, e34⟩
          refine ret_intro ?_
          have hw3 : Ext w v33 := hw2.trans e34
          obtain rfl := r35
          refine wl_cmp rfl rfl rfl false (cb_lt_f (a := dv r13) (b := 10) rfl rfl (by omega)) (by decide) ?_
          refine wl_assign rfl rfl (by decide) ?_
          refine wl_nil ?_
          refine eo_then ?_
          refine cw_false rfl ?_
          refine cw_seq ?_
          refine cw_region ?_
          refine wl_assign rfl rfl (by decide) ?_
          refine wl_assign rfl rfl (by decide) ?_
          refine wl_nil ?_
          refine eo_then ?_
          refine cw_ret ?_
          refine eo_block_ret ?_
          refine eo_block_ret ?_
          refine eo_loopR ?_
          refine eo_block_ret ?_
          refine eo_thenR ?_
          refine eo_ret [.slice none 0 0, .int .i64 7] rfl ⟨rfl, rfl, trivial⟩ ?_
          exact ⟨fun ql hq => by rw [hG] at hq; simp at hq, fun _ => ⟨_, rfl, ⟨_, _, rfl, rfl, rfl⟩, hw3⟩⟩
      ·
        have h1z := hr15.eq (by omega)
        have hnb : 10 ≤ 36 := by decide
        refine cw_region ?_
        refine wl_move rfl rfl (by decide) ?_
        refine wl_cmp rfl rfl rfl true (cb_eq_t (a := r13) (b := 95) rfl rfl (by omega)) (by decide) ?_
        refine wl_move rfl rfl (by decide) ?_
        refine wl_move rfl rfl (by decide) ?_
        refine wl_pure rfl rfl (v := .bool true) (by decide) (by kernel_rfl) ?_
        refine wl_assign rfl rfl (by decide) ?_
        refine wl_nil ?_
        refine eo_then ?_
        refine cw_true rfl ?_
        refine cw_region ?_
        refine wl_assign rfl rfl (by decide) ?_
        refine wl_nil ?_
        refine eo_block_normal ?_
        refine eo_block_normal ?_
        refine eo_round (⟨v12, p + 1, false, pl, OA, on, oc⟩ : World × Nat × Bool × List Nat × Option Addr × Nat × Nat) ⟨hw2, (by have h := it16; rwa [h1z.1] at h), (hO.updI it11 u17), (by omega), (by omega), (by rw [hG, grp_under hnx (by rw [← h1z.2]; omega)]), hpd, hpb, (fun h => absurd h (by decide))⟩ (show bs.length - (p + 1) < bs.length - p by omega) rfl ⟨rfl, rfl, rfl, rfl, trivial⟩
    ·
      have h95 : ¬ (bs.getD p 0 = 95 ∧ bt = true) := fun h => hr15.ne (by decide) h95r h.1
      refine cw_region ?_
      refine wl_move rfl rfl (by decide) ?_
      refine wl_cmp rfl rfl rfl false (cb_eq_f (a := r13) (b := 95) rfl rfl (by omega)) (by decide) ?_
      refine wl_move rfl rfl (by decide) ?_
      refine wl_off rfl (by decide) ?_
      refine wl_pure rfl rfl (v := .bool false) (by decide) (by kernel_rfl) ?_
      refine wl_assign rfl rfl (by decide) ?_
      refine wl_nil ?_
      refine eo_then ?_
      refine cw_false rfl ?_
      refine cw_seq ?_
      by_cases hdl : dv r13 < 10
      ·
        have h1z := hr15.one (by omega)
        refine cw_region ?_
        refine wl_move rfl rfl (by decide) ?_
        refine wl_call rfl rfl (vs := [.int .i32 ((r13 : Nat) : Int)]) (by kernel_rfl) (by decide) (rx_value hr15.le) ?_
        rintro _ v36 ⟨xr38, rfl, r38, e37⟩
        refine ret_intro ?_
        have hw3 : Ext w v36 := hw2.trans e37
        obtain rfl := r38
        refine wl_cmp rfl rfl rfl true (cb_lt_t (a := dv r13) (b := 10) rfl rfl (by omega)) (by decide) ?_
        refine wl_assign rfl rfl (by decide) ?_
        refine wl_nil ?_
        refine eo_then ?_
        refine cw_true rfl ?_
        refine cw_seq ?_
        refine cw_region ?_
        refine wl_move rfl rfl (by decide) ?_
        refine wl_move rfl rfl (by decide) ?_
        refine wl_pureE rfl rfl (v := .int .u8 (IntKind.u8.wrap ((r13 : Nat) : Int))) (v' := .int .u8 ((r13 : Nat) : Int)) (by decide) (by kernel_rfl) (cv_u8 (by omega)) ?_
        refine wl_bslice rfl rfl (by decide) (k := 1) (e := 5) [.int .u8 ((r13 : Nat) : Int)] (fun _ => by kernel_rfl) fun g39 v40 nb => ?_
        have hb41 := nb.bk
        have e42 := nb.ext
        clear nb
        have hw4 : Ext w v40 := hw3.trans e42
        have ow43 := ((hO.updI it11 u17).ext (e37.trans e42))
        refine wl_app rfl rfl rfl un_u8 info8 rfl (by decide) (by decide) ow43 hw4.size [.int .u8 ((r13 : Nat) : Int)] rfl (one_news _ hb41) rfl (by omega) (by decide) fun A44 c45 v46 ho47 uo48 kp49 => ?_
        have hw5 : Ext w v46 := uo48.ext hw4 (fun p hp => (ow43.block p hp).1)
        have ho50 : Own v46 w.heap.size 5 1 A44 (on + 1) c45 ((pl ++ [r13]).map B8) := by have h := ho47; simp only [List.map_append, List.map_cons, List.map_nil] at h ⊢; exact h
        refine wl_assign rfl rfl (by decide) ?_
        refine wl_nil ?_
        refine eo_then ?_
        refine cw_region ?_
        refine wl_assign rfl rfl (by decide) ?_
        refine wl_nil ?_
        refine eo_block_normal ?_
        refine eo_block_normal ?_
        refine eo_round (⟨v46, p + 1, true, pl ++ [r13], A44, on + 1, c45⟩ : World × Nat × Bool × List Nat × Option Addr × Nat × Nat) ⟨hw5, (by have h := ((it16.ext (e37.trans e42)).updO uo48 (it_own_ne ow43 (it16.ext (e37.trans e42)))); rwa [h1z.1] at h), ho50, (by omega), (by omega), (by rw [hG, grp_dig hnx (by rw [← hr15.dv]; exact hdl), grp_app, ← h1z.2.1]), (fun c hc => by rcases List.mem_append.1 hc with h | h; (· exact hpd c h); (· rw [List.mem_singleton.1 h]; exact hdl)), (fun c hc => by rcases List.mem_append.1 hc with h | h; (· exact hpb c h); (· rw [List.mem_singleton.1 h]; omega)), (fun _ => by simp)⟩ (show bs.length - (p + 1) < bs.length - p by omega) rfl ⟨rfl, rfl, rfl, rfl, trivial⟩
      ·
        rw [grp_bad hnx (by rw [← hr15.dv]; exact hdl) h95] at hG
        refine cw_region ?_
        refine wl_move rfl rfl (by decide) ?_
        refine wl_call rfl rfl (vs := [.int .i32 ((r13 : Nat) : Int)]) (by kernel_rfl) (by decide) (rx_value hr15.le) ?_
        rintro _ v51 ⟨xr53, rfl, r53, e52⟩
        refine ret_intro ?_
        have hw3 : Ext w v51 := hw2.trans e52
        obtain rfl := r53
        refine wl_cmp rfl rfl rfl false (cb_lt_f (a := dv r13) (b := 10) rfl rfl (by omega)) (by decide) ?_
        refine wl_assign rfl rfl (by decide) ?_
        refine wl_nil ?_
        refine eo_then ?_
        refine cw_false rfl ?_
        refine cw_seq ?_
        refine cw_region ?_
        refine wl_assign rfl rfl (by decide) ?_
        refine wl_assign rfl rfl (by decide) ?_
        refine wl_nil ?_
        refine eo_then ?_
        refine cw_ret ?_
        refine eo_block_ret ?_
        refine eo_block_ret ?_
        refine eo_loopR ?_
        refine eo_block_ret ?_
        refine eo_thenR ?_
        refine eo_ret [.slice none 0 0, .int .i64 7] rfl ⟨rfl, rfl, trivial⟩ ?_
        exact ⟨fun ql hq => by rw [hG] at hq; simp at hq, fun _ => ⟨_, rfl, ⟨_, _, rfl, rfl, rfl⟩, hw3⟩⟩
  ·
    have hpl : p = bs.length := by omega
    rw [hpl, List.drop_length] at hG
    refine cw_region ?_
    have it54 := hI
    refine wl_next_end rfl rfl it54 (by omega) (by decide) ?_
    refine wl_pure rfl rfl (v := .bool false) (by decide) (by kernel_rfl) ?_
    refine wl_nil ?_
    refine eo_then ?_
    refine cw_seq ?_
    refine cw_false rfl ?_
    refine cw_exit ?_
    refine eo_thenX ?_
    refine eo_loopX ?_
    refine eo_block_here ?_
    refine eo_then ?_
    refine cw_seq ?_
    refine cw_seq ?_
    cases bt
    ·
      refine cw_region ?_
      refine wl_move rfl rfl (by decide) ?_
      refine wl_pure rfl rfl (v := .bool true) (by decide) (by kernel_rfl) ?_
      refine wl_nil ?_
      refine eo_then ?_
      refine cw_true rfl ?_
      refine cw_seq ?_
      refine cw_region ?_
      refine wl_assign rfl rfl (by decide) ?_
      refine wl_assign rfl rfl (by decide) ?_
      refine wl_nil ?_
      refine eo_then ?_
      refine cw_ret ?_
      refine eo_thenR ?_
      refine eo_ret [.slice none 0 0, .int .i64 7] rfl ⟨rfl, rfl, trivial⟩ ?_
      exact ⟨fun ql hq => by rw [hG] at hq; simp [grp] at hq, fun _ => ⟨_, rfl, ⟨_, _, rfl, rfl, rfl⟩, hw1⟩⟩
    ·
      have hgood : Good 10 pl := ⟨hbt rfl, hpd⟩
      have hpn := own_len hO
      have hG2 : grp false bs = some pl := by rw [hG]; simp [grp]
      refine cw_region ?_
      refine wl_move rfl rfl (by decide) ?_
      refine wl_pure rfl rfl (v := .bool false) (by decide) (by kernel_rfl) ?_
      refine wl_nil ?_
      refine eo_then ?_
      refine cw_false rfl ?_
      refine cw_skip ?_
      refine eo_then ?_
      refine cw_seq ?_
      refine cw_region ?_
      refine wl_move rfl rfl (by decide) ?_
      refine wl_toStr rfl rfl hO (by decide) ?_
      refine wl_call rfl rfl (vs := [.string (strB pl)]) (by kernel_rfl) (by decide) ((rx_ReadDec_good hpb (by omega) hgood).mono (Gv.imp (T2.imp (WR.imp hw1.size) Is.imp))) ?_
      rintro _ v55 ⟨xr57, rfl, r57, e56⟩
      refine ret_intro ?_
      have hw2 : Ext w v55 := hw1.trans e56
      obtain ⟨a58_0, a58_1, rfl, r58_0, r58_1⟩ := r57
      obtain ⟨A59, n59, c59, rfl, j59, o59⟩ := r58_0
      obtain rfl := r58_1
      refine wl_pure rfl rfl (v := .slice A59 n59 c59) (by decide) (by kernel_rfl) ?_
      refine wl_pure rfl rfl (v := .int .i64 0) (by decide) (by kernel_rfl) ?_
      refine wl_assign rfl rfl (by decide) ?_
      refine wl_assign rfl rfl (by decide) ?_
      refine wl_nil ?_
      refine eo_then ?_
      refine cw_ret ?_
      refine eo_ret [.slice A59 n59 c59, .int .i64 0] rfl ⟨rfl, rfl, trivial⟩ ?_
      exact ⟨fun ql hq => by rw [hG2] at hq; cases hq; exact ⟨_, rfl, ⟨_, _, rfl, ⟨_, _, _, rfl, j59, o59⟩, rfl⟩, hw2⟩, fun h => by rw [hG2] at h; cases h⟩
end Go.Proofs.YtmjdmjflgiicaaaDoor

namespace Go.Proofs.YtmjdmjflgiicaaaDoor
theorem dv_sgn {d : Nat} (h : d < 36) : dv (sgn d) = d := by
  unfold dv sgn
  by_cases h1 : d < 10
  · rw [if_pos h1, if_pos (by omega)]; omega
  · rw [if_neg h1, if_neg (by omega), if_pos (by omega)]; omega
end Go.Proofs.YtmjdmjflgiicaaaDoor

namespace Go.Proofs.YtmjdmjflgiicaaaDoor
open Go.RowKit
theorem strE_eql_t {a b : List Nat} (h : a = b) : strE .eql a b = some true := by simp [strE, h]
theorem strE_eql_f {a b : List Nat} (h : a ≠ b) : strE .eql a b = some false := by simp [strE, h]
theorem a8_sub {A B : Int} {a b : Nat} (ha : A = (a : Int)) (hb : B = (b : Int)) (h : b ≤ a) (h2 : a ≤ 255) : arB .sub .u8 A B = some ((a - b : Nat) : Int) := by
  subst ha hb; simp only [arB, Option.some.injEq]; rw [show (a : Int) - (b : Int) = ((a - b : Nat) : Int) by omega, IntWalk.u8_in _ ⟨by omega, by omega⟩]
theorem g_same4 {w : World} {b b' : Nat} {A B : Option Addr} {n c m d k : Nat} (hx : Own w b 48 1 A n c ((wd k).map W64)) (hl : n ≤ 1099511627776) (hy : Own w b' 48 1 B m d ((wd k).map W64)) (hl' : m ≤ 1099511627776) :
    Calls Tryd.prog 37 #[.slice A n c, .slice B m d] w (Gv w (Is (.bool true))) := by
  have h := ref1_Same (hx.rd (Wf_wd _)) hl (hy.rd (Wf_wd _)) hl'
  rw [decide_eq_true rfl] at h
  exact h.mono gbool
set_option maxHeartbeats 4000000 in
theorem g_law4_awake {w : World} (hS : Signs w) :
    Calls Tryd.prog 33 #[] w (Gv w (Is (.bool true))) := by
  refine sx_enter Tryd.func33 rfl (n := 14) rfl (Nat.le_of_ble_eq_true rfl) (args := []) ?_
  refine cw_keep [] trivial ?_
  refine cw_seq ?_
  refine cw_region ?_
  refine wl_assign rfl rfl (by decide) ?_
  refine wl_nil ?_
  refine eo_then ?_
  refine cw_seq ?_
  refine cw_region ?_
  refine wl_bslice rfl rfl (by decide) (k := 1) (e := 48) [.int .u64 255] (fun _ => by kernel_rfl) fun g1 v2 nb3 => ?_
  have o4 := O1.mk_ (x := 255) (b := w.heap.size) nb3 (Ext.refl w).size
  have e5 := nb3.ext
  have hw1 : Ext w v2 := (Ext.refl w).trans e5
  have o7 := own1_wd o4 (by decide : 255 ≤ 18446744073709551615) (by decide : 255 ≠ 0)
  have j6 := len1 (by decide : 255 ≤ 18446744073709551615) (by decide : 255 ≠ 0)
  refine wl_call rfl rfl (vs := [.slice (some ⟨g1, 0, none⟩) 1 1, .int .i64 16]) (by kernel_rfl) (by decide) (rx_Text (base := 16) (hS.ext hw1) o7.wi (by decide) (by decide) (by decide)) ?_
  rintro _ v8 ⟨xr10, rfl, r10, e9⟩
  refine ret_intro ?_
  have hw2 : Ext w v8 := hw1.trans e9
  obtain ⟨a11_0, a11_1, rfl, r11_0, r11_1⟩ := r10
  obtain rfl := r11_0
  obtain rfl := r11_1
  refine wl_move rfl rfl (by decide) ?_
  refine wl_pure rfl rfl (v := .string (strB (txtN 16 255))) (by decide) (by kernel_rfl) ?_
  refine wl_pure rfl rfl (v := .int .i64 0) (by decide) (by kernel_rfl) ?_
  refine wl_assign rfl rfl (by decide) ?_
  refine wl_assign rfl rfl (by decide) ?_
  refine wl_nil ?_
  refine eo_then ?_
  refine cw_seq ?_
  refine cw_region ?_
  refine wl_move rfl rfl (by decide) ?_
  refine wl_streq (a := txtN 16 255) (b := [102, 102]) rfl rfl rfl (by decide +kernel) (by decide) true (strE_eql_t (by decide +kernel)) (by decide) ?_
  refine wl_move rfl rfl (by decide) ?_
  refine wl_move rfl rfl (by decide) ?_
  refine wl_cmp rfl rfl rfl true (by decide) (by decide) ?_
  refine wl_pure rfl rfl (v := .bool true) (by decide) (by kernel_rfl) ?_
  refine wl_assign rfl rfl (by decide) ?_
  refine wl_nil ?_
  refine eo_then ?_
  refine cw_ret ?_
  refine eo_ret [.bool true] rfl ⟨rfl, trivial⟩ ?_
  exact ⟨_, rfl, rfl, hw2⟩
set_option maxHeartbeats 4000000 in
theorem rx_Text_bad {w : World} {A : Option Addr} {n c : Nat} {b : Int} (hbad : b < 2 ∨ 36 < b) :
    Calls Tryd.prog 36 #[.slice A n c, .int .i64 b] w (Gv w (T2 (Is (.string (strB []))) (Is (.int .i64 3)))) := by
  refine sx_enter Tryd.func36 rfl (n := 73) rfl (Nat.le_of_ble_eq_true rfl) (args := [.slice A n c, .int .i64 b]) ?_
  refine cw_keep [(0, .slice A n c), (1, .int .i64 b)] ⟨rfl, rfl, trivial⟩ ?_
  refine cw_seq ?_
  refine cw_region ?_
  refine wl_assign rfl rfl (by decide) ?_
  refine wl_assign rfl rfl (by decide) ?_
  refine wl_nil ?_
  refine eo_then ?_
  refine cw_seq ?_
  refine cw_seq ?_
  rcases hbad with hbad | hbad
  ·
    refine cw_region ?_
    refine wl_move rfl rfl (by decide) ?_
    refine wl_cmp rfl rfl rfl true (lt_t hbad) (by decide) ?_
    refine wl_move rfl rfl (by decide) ?_
    refine wl_off rfl (by decide) ?_
    refine wl_off rfl (by decide) ?_
    refine wl_pure rfl rfl (v := .bool true) (by decide) (by kernel_rfl) ?_
    refine wl_nil ?_
    refine eo_then ?_
    refine cw_true rfl ?_
    refine cw_seq ?_
    refine cw_region ?_
    refine wl_assign rfl rfl (by decide) ?_
    refine wl_assign rfl rfl (by decide) ?_
    refine wl_nil ?_
    refine eo_then ?_
    refine cw_ret ?_
    refine eo_thenR ?_
    refine eo_ret [.string (strB ([])), .int .i64 3] rfl ⟨rfl, rfl, trivial⟩ ?_
    exact ⟨_, rfl, ⟨_, _, rfl, rfl, rfl⟩, (Ext.refl w)⟩
  ·
    refine cw_region ?_
    refine wl_move rfl rfl (by decide) ?_
    refine wl_cmp rfl rfl rfl false (lt_f (by omega)) (by decide) ?_
    refine wl_move rfl rfl (by decide) ?_
    refine wl_move rfl rfl (by decide) ?_
    refine wl_cmp rfl rfl rfl true (gt_t hbad) (by decide) ?_
    refine wl_pure rfl rfl (v := .bool true) (by decide) (by kernel_rfl) ?_
    refine wl_nil ?_
    refine eo_then ?_
    refine cw_true rfl ?_
    refine cw_seq ?_
    refine cw_region ?_
    refine wl_assign rfl rfl (by decide) ?_
    refine wl_assign rfl rfl (by decide) ?_
    refine wl_nil ?_
    refine eo_then ?_
    refine cw_ret ?_
    refine eo_thenR ?_
    refine eo_ret [.string (strB ([])), .int .i64 3] rfl ⟨rfl, rfl, trivial⟩ ?_
    exact ⟨_, rfl, ⟨_, _, rfl, rfl, rfl⟩, (Ext.refl w)⟩
set_option maxHeartbeats 4000000 in
theorem rx_Read_badb {w : World} {bs : List Nat} {b : Int} (hbad : b < 2 ∨ 36 < b) :
    Calls Tryd.prog 34 #[.string (strB bs), .int .i64 b] w (Gv w (T2 (Is (.slice none 0 0)) (Is (.int .i64 3)))) := by
  refine sx_enter Tryd.func34 rfl (n := 41) rfl (Nat.le_of_ble_eq_true rfl) (args := [.string (strB bs), .int .i64 b]) ?_
  refine cw_keep [(0, .string (strB bs)), (1, .int .i64 b)] ⟨rfl, rfl, trivial⟩ ?_
  refine cw_seq ?_
  refine cw_region ?_
  refine wl_assign rfl rfl (by decide) ?_
  refine wl_assign rfl rfl (by decide) ?_
  refine wl_nil ?_
  refine eo_then ?_
  refine cw_seq ?_
  refine cw_seq ?_
  rcases hbad with hbad | hbad
  ·
    refine cw_region ?_
    refine wl_move rfl rfl (by decide) ?_
    refine wl_cmp rfl rfl rfl true (lt_t hbad) (by decide) ?_
    refine wl_move rfl rfl (by decide) ?_
    refine wl_off rfl (by decide) ?_
    refine wl_off rfl (by decide) ?_
    refine wl_pure rfl rfl (v := .bool true) (by decide) (by kernel_rfl) ?_
    refine wl_nil ?_
    refine eo_then ?_
    refine cw_true rfl ?_
    refine cw_seq ?_
    refine cw_region ?_
    refine wl_assign rfl rfl (by decide) ?_
    refine wl_assign rfl rfl (by decide) ?_
    refine wl_nil ?_
    refine eo_then ?_
    refine cw_ret ?_
    refine eo_thenR ?_
    refine eo_ret [.slice none 0 0, .int .i64 3] rfl ⟨rfl, rfl, trivial⟩ ?_
    exact ⟨_, rfl, ⟨_, _, rfl, rfl, rfl⟩, (Ext.refl w)⟩
  ·
    refine cw_region ?_
    refine wl_move rfl rfl (by decide) ?_
    refine wl_cmp rfl rfl rfl false (lt_f (by omega)) (by decide) ?_
    refine wl_move rfl rfl (by decide) ?_
    refine wl_move rfl rfl (by decide) ?_
    refine wl_cmp rfl rfl rfl true (gt_t hbad) (by decide) ?_
    refine wl_pure rfl rfl (v := .bool true) (by decide) (by kernel_rfl) ?_
    refine wl_nil ?_
    refine eo_then ?_
    refine cw_true rfl ?_
    refine cw_seq ?_
    refine cw_region ?_
    refine wl_assign rfl rfl (by decide) ?_
    refine wl_assign rfl rfl (by decide) ?_
    refine wl_nil ?_
    refine eo_then ?_
    refine cw_ret ?_
    refine eo_thenR ?_
    refine eo_ret [.slice none 0 0, .int .i64 3] rfl ⟨rfl, rfl, trivial⟩ ?_
    exact ⟨_, rfl, ⟨_, _, rfl, rfl, rfl⟩, (Ext.refl w)⟩
end Go.Proofs.YtmjdmjflgiicaaaDoor

namespace Go.Proofs.YtmjdmjflgiicaaaDoor
/-- digits in groups, by the list itself -/
def gg : List Nat → List Nat
  | [] => []
  | c :: r => c :: ((if r ≠ [] ∧ r.length % 3 = 0 then [95] else []) ++ gg r)
theorem gout_eq (s : List Nat) : ∀ i, i ≤ s.length → gout s i ++ ((if 0 < i ∧ i < s.length ∧ (s.length - i) % 3 = 0 then [95] else []) ++ gg (s.drop i)) = gg s := by
  intro i
  induction i with
  | zero => intro _; simp [gout]
  | succ i ih =>
    intro hi
    rw [← ih (by omega), gout, drop_getD (show i < s.length by omega), gg]
    have e1 : (s.drop (i + 1)).length = s.length - (i + 1) := List.length_drop
    have e2 : (s.drop (i + 1) ≠ []) ↔ i + 1 < s.length := by
      rw [ne_eq, List.drop_eq_nil_iff]; omega
    have e3 : (0 < i ∧ i < s.length ∧ (s.length - i) % 3 = 0) ↔ (0 < i ∧ (s.length - i) % 3 = 0) := by
      constructor
      · rintro ⟨a, _, c⟩; exact ⟨a, c⟩
      · rintro ⟨a, c⟩; exact ⟨a, by omega, c⟩
    have e4 : (0 < i + 1 ∧ i + 1 < s.length ∧ (s.length - (i + 1)) % 3 = 0) ↔ (s.drop (i + 1) ≠ [] ∧ (s.drop (i + 1)).length % 3 = 0) := by
      rw [e2, e1]
      constructor
      · rintro ⟨_, b, c⟩; exact ⟨b, c⟩
      · rintro ⟨b, c⟩; exact ⟨by omega, b, c⟩
    simp only [e3, e4]
    simp
theorem grpT_gg (s : List Nat) : grpT s = gg s := by
  have h := gout_eq s s.length (Nat.le_refl _)
  rw [List.drop_length] at h
  rw [← h, grpT, if_neg (by omega)]; simp [gg]
theorem gg_lt {s : List Nat} (h : ∀ c, c ∈ s → c < 256) : ∀ c, c ∈ gg s → c < 256 := by
  induction s with
  | nil => intro c hc; simp [gg] at hc
  | cons x r ih =>
    intro c hc
    rw [gg, List.mem_cons, List.mem_append] at hc
    rcases hc with rfl | hc | hc
    · exact h _ (by simp)
    · split at hc
      · rw [List.mem_singleton] at hc; omega
      · simp at hc
    · exact ih (fun c hc => h c (by simp [hc])) c hc
theorem grpT_lt {s : List Nat} (h : ∀ c, c ∈ s → c < 256) : ∀ c, c ∈ grpT s → c < 256 := by rw [grpT_gg]; exact gg_lt h
end Go.Proofs.YtmjdmjflgiicaaaDoor

namespace Go.Proofs.YtmjdmjflgiicaaaDoor
open Go.RowKit
theorem txtN_len5 {b m : Nat} (hb : 2 ≤ b) (h : (wd m).length ≤ 1048576) : (txtN b m).length ≤ 67108865 := by have := txtN_len hb h; omega
end Go.Proofs.YtmjdmjflgiicaaaDoor

namespace Go.Proofs.YtmjdmjflgiicaaaDoor
open Go.RowKit
theorem len_wd_dv {base : Nat} {bs : List Nat} (hbl : 2 ≤ base) (hbu : base ≤ 36) (h : ∀ c, c ∈ bs → dv c < base) : (wd (vald base (bs.map dv))).length ≤ bs.length := by
  have := len_vald (b := base) (by omega) hbu (dig_map h)
  rwa [List.length_map] at this
theorem take_snoc4 {bs : List Nat} {i : Nat} (h : i < bs.length) : bs.take (i + 1) = bs.take i ++ [bs.getD i 0] := by
  rw [List.take_add_one, List.getD_eq_getElem?_getD, List.getElem?_eq_getElem h]; rfl
end Go.Proofs.YtmjdmjflgiicaaaDoor

namespace Go.Proofs.YtmjdmjflgiicaaaDoor
/-- two '_' together -/
def twice : List Nat → Bool
  | [] => false
  | c :: r => (decide (c = 95) && decide (r.headD 0 = 95)) || twice r
/-- digits and '_' -/
def mixed (l : List Nat) : Prop := ∀ c, c ∈ l → dv c < 10 ∨ c = 95
theorem grp_mixed {l : List Nat} (hm : mixed l) : ∀ b, grp b l = (if (b = false ∧ l.headD 95 = 95) ∨ twice l = true ∨ (l ≠ [] ∧ l.getLast? = some 95) then none else some (l.filter (· ≠ 95))) := by
  induction l with
  | nil =>
    intro b
    cases b <;> simp [grp, twice]
  | cons c r ih =>
    intro b
    have ih' := ih (fun x hx => hm x (by simp [hx]))
    by_cases hc : c = 95
    · subst hc
      cases b with
      | false =>
        rw [grp, if_neg (fun h => by cases h.2), if_neg (by decide), if_pos (Or.inl ⟨rfl, rfl⟩)]
      | true =>
        rw [grp, if_pos ⟨rfl, rfl⟩, ih' false]
        cases r with
        | nil => simp [twice]
        | cons x r' =>
          have e1 : (95 :: x :: r').getLast? = (x :: r').getLast? := by simp [List.getLast?_cons_cons]
          have e2 : twice (95 :: x :: r') = (decide (x = 95) || twice (x :: r')) := by rw [twice]; simp
          rw [e1, e2]
          have e3 : (95 :: x :: r').filter (· ≠ 95) = (x :: r').filter (· ≠ 95) := by rw [List.filter_cons_of_neg (by simp)]
          rw [e3]
          by_cases hx : x = 95
          · simp [hx]
          · simp [hx]
    · have hd : dv c < 10 := by
        rcases hm c (by simp) with h | h
        · exact h
        · exact absurd h hc
      rw [grp, if_neg (fun h => hc h.1), if_pos hd, ih' true]
      have e3 : (c :: r).filter (· ≠ 95) = c :: r.filter (· ≠ 95) := by rw [List.filter_cons_of_pos (by simp [hc])]
      have e2 : twice (c :: r) = twice r := by rw [twice]; simp [hc]
      rw [e3, e2]
      cases r with
      | nil => simp [hc, twice]
      | cons x r' =>
        have e1 : (c :: x :: r').getLast? = (x :: r').getLast? := by simp [List.getLast?_cons_cons]
        rw [e1]
        by_cases ht : twice (x :: r') = true
        · simp [ht]
        · by_cases hl : (x :: r').getLast? = some 95
          · simp [hl]
          · simp [ht, hl, hc]
/-- what the law's text is after some places: the digits d with '_' put between -/
structure Wide (d l : List Nat) : Prop where
  mix : mixed l
  digits : l.filter (· ≠ 95) = d
  first : l.headD 95 ≠ 95
  last : l.getLast? ≠ some 95
theorem Wide.start {d : List Nat} (h0 : d ≠ []) (h : ∀ c, c ∈ d → dv c < 10) : Wide d d := by
  have h95 : ∀ c, c ∈ d → c ≠ 95 := fun c hc e => by have := h c hc; rw [e] at this; exact absurd this (by decide)
  refine ⟨fun c hc => Or.inl (h c hc), ?_, ?_, ?_⟩
  · rw [List.filter_eq_self]; intro c hc; simpa using h95 c hc
  · cases d with
    | nil => exact absurd rfl h0
    | cons x r => exact h95 x (by simp)
  · intro e
    exact h95 95 (List.mem_of_getLast? e) rfl
theorem Wide.put {d l : List Nat} (h : Wide d l) {p : Nat} (hp : 0 < p) (hp2 : p < l.length) : Wide d (l.take p ++ [95] ++ l.drop p) := by
  refine ⟨fun c hc => ?_, ?_, ?_, ?_⟩
  · simp only [List.mem_append, List.mem_singleton] at hc
    rcases hc with (hc | hc) | hc
    · exact h.mix c (List.mem_of_mem_take hc)
    · exact Or.inr hc
    · exact h.mix c (List.mem_of_mem_drop hc)
  · rw [List.filter_append, List.filter_append]
    have : ([95] : List Nat).filter (· ≠ 95) = [] := by decide
    rw [this, List.append_nil, ← List.filter_append, List.take_append_drop]
    exact h.digits
  · have h1 := h.first
    cases l with
    | nil => simp at hp2
    | cons x r =>
      cases p with
      | zero => omega
      | succ p => simpa using h1
  · obtain ⟨x, hx⟩ : ∃ x, l.getLast? = some x := ⟨_, List.getLast?_eq_some_getLast (fun e => by rw [e] at hp2; simp at hp2)⟩
    rw [List.getLast?_append, List.getLast?_drop, if_neg (by omega), hx]
    have := h.last
    rw [hx] at this
    simpa using this
theorem Wide.ne {d l : List Nat} (h : Wide d l) : l ≠ [] := fun e => h.first (by rw [e]; rfl)
theorem Wide.reads {d l : List Nat} (h : Wide d l) (ht : twice l = false) : grp false l = some d := by
  rw [grp_mixed h.mix, if_neg, h.digits]
  rintro (⟨_, h1⟩ | h1 | ⟨_, h1⟩)
  · exact h.first h1
  · rw [ht] at h1; cases h1
  · exact h.last h1
theorem Wide.twice {d l : List Nat} (h : Wide d l) (ht : twice l = true) : grp false l = none := by
  rw [grp_mixed h.mix, if_pos (Or.inr (Or.inl ht))]
theorem Wide.behind {d l : List Nat} (h : Wide d l) : grp false (l ++ [95]) = none := by
  rw [grp_mixed, if_pos (Or.inr (Or.inr ⟨by simp, by simp⟩))]
  intro c hc
  rcases List.mem_append.1 hc with hc | hc
  · exact h.mix c hc
  · exact Or.inr (List.mem_singleton.1 hc)
end Go.Proofs.YtmjdmjflgiicaaaDoor

namespace Go.Proofs.YtmjdmjflgiicaaaDoor
open Go.ChangeShapes Go.WideShapes Go.ChangeAt Go.RowKit
section
variable {P : Program} {Q : Exit → Act → World → Prop} {n : Nat} {l : Fr} {w : World} {ops : Array Oper} {rest : List Oper} {d : Nat} {ty : TypeId} {pos : String} {af : Array Edge} {gd : Option (Nat × Bool)}
end
/-- a list of ints that came in -/
structure Rn (w : World) (A : Option Addr) (n cap : Nat) (xs : List Int) : Prop where
  len : xs.length = n
  get : ∀ i, i < n → ∃ a, A = some a ∧ w.cell? (a.add i) = some (.int .i64 (xs.getD i 0)) ∧ -9223372036854775808 ≤ xs.getD i 0 ∧ xs.getD i 0 ≤ 9223372036854775807
theorem Rn.at {w : World} {A : Option Addr} {n cap : Nat} {xs : List Int} (h : Rn w A n cap xs) {i : Nat} (hi : i < n) : ∃ p, A.map (·.add (i * 1)) = some p ∧ w.cell? p = some (.int .i64 (xs.getD i 0)) ∧ -9223372036854775808 ≤ xs.getD i 0 ∧ xs.getD i 0 ≤ 9223372036854775807 := by
  obtain ⟨a, rfl, h1, h2⟩ := h.get i hi
  exact ⟨a.add i, by rw [Nat.mul_one]; rfl, h1, h2⟩
end Go.Proofs.YtmjdmjflgiicaaaDoor

namespace Go.Proofs.YtmjdmjflgiicaaaDoor
open Go.RowKit
theorem infoInt : (Tryd.prog.info? 3).map (fun i => (i.zero, i.size, i.bytes)) = some (some (.int .i64 0), 1, 8) := by kernel_rfl
abbrev I6 (x : Nat) : Value := .int .i64 (x : Int)
/-- a slice of digits, each below b, as ints -/
structure Ri (b : Nat) (w : World) (A : Option Addr) (n cap : Nat) (ds : List Nat) : Prop where
  rv : Rv w 1 A n cap (ds.map I6)
  wf : Wfb b ds
theorem Ri.ext {b : Nat} {w w' : World} {A : Option Addr} {n cap : Nat} {xs : List Nat} (h : Ri b w A n cap xs) (e : Ext w w') : Ri b w' A n cap xs := ⟨h.rv.ext e, h.wf⟩
theorem Ri.len {b : Nat} {w : World} {A : Option Addr} {n cap : Nat} {xs : List Nat} (h : Ri b w A n cap xs) : xs.length = n := by simpa using h.rv.len
theorem Ri.get {b : Nat} (hb : 0 < b) {w : World} {A : Option Addr} {n cap : Nat} {xs : List Nat} (h : Ri b w A n cap xs) {i : Nat} (hi : i < n) :
    ∃ a x, A = some a ∧ Hid (xs.getD i 0 = x) ∧ x < b ∧ w.cell? (a.add i) = some (.int .i64 (x : Int)) := by
  obtain ⟨a, ha, hc⟩ := h.rv.get i (by omega)
  have hl : i < xs.length := by rw [h.len]; exact hi
  refine ⟨a, _, ha, rfl, Wfb_getD hb h.wf i, ?_⟩
  rw [hc]
  simp [List.getD_eq_getElem?_getD, List.getElem?_map, List.getElem?_eq_getElem hl]
theorem Bk.digit {b : Nat} (hb : 0 < b) {w : World} {g : Nat} {t : TypeId} {xs : List Nat} (h : Bk w g t (xs.map I6)) (hw : Wfb b xs) {i : Nat} (hi : i < xs.length) :
    ∃ x, Hid (xs.getD i 0 = x) ∧ x < b ∧ w.cell? ⟨g, i, none⟩ = some (.int .i64 (x : Int)) := by
  refine ⟨_, rfl, Wfb_getD hb hw i, ?_⟩
  rw [h.cell (by simpa using hi)]
  simp [List.getD_eq_getElem?_getD, List.getElem?_map, List.getElem?_eq_getElem hi]
theorem Rv.take {w : World} {s : Nat} {A : Option Addr} {n cap : Nat} {vs : List Value} (h : Rv w s A n cap vs) {k m : Nat} (hk : k ≤ n) (hm : k ≤ m) (hc : m ≤ cap) : Rv w s A k m (vs.take (k * s)) := by
  have := h.cut (l := 0) (Nat.zero_le _) hk hm hc
  simp only [Nat.sub_zero, Nat.zero_mul, List.drop_zero] at this
  have e : (if m = 0 then A else A.map (·.add 0)) = A := by
    have h0 : ∀ a : Addr, a.add 0 = a := fun a => by simp [Addr.add]
    split
    · rfl
    · cases A <;> simp [h0]
  rwa [e] at this
theorem Own.take {w : World} {base : Nat} {t : TypeId} {s : Nat} {A : Option Addr} {n cap : Nat} {vs : List Value} (h : Own w base t s A n cap vs) {k : Nat} (hk : k ≤ n) : Own w base t s A k cap (vs.take (k * s)) := by
  rcases h with ⟨rfl, rfl, rfl, rfl⟩ | ⟨g, cs, rfl, hb, hbk, hn, hm, hl, rfl⟩
  · exact Or.inl ⟨rfl, by omega, rfl, by simp⟩
  · refine Or.inr ⟨g, cs, rfl, hb, hbk, by omega, hm, hl, ?_⟩
    rw [List.take_take, Nat.min_eq_left (Nat.mul_le_mul_right s hk)]
/-- the answer is the digits of m to the base 65536, in memory of its own -/
def RetI (w : World) (m : Nat) (e : Ending) (w' : World) : Prop :=
  ∃ A n cap, e = .returned (.slice A n cap) ∧ Hid (n = (db 65536 m).length) ∧ Ri 65536 w' A n cap (db 65536 m) ∧ Own w' w.heap.size 3 1 A n cap ((db 65536 m).map I6) ∧ Ext w w'
theorem b16 : 2 ≤ 65536 := by decide
theorem WB_16 : WB = 65536 ^ 4 := by decide
def TrimP (A : Option Addr) (n cap : Nat) (m : Nat) (w : World) (e : Ending) (w' : World) : Prop :=
  ∃ k : Nat, Hid (k = (db 65536 m).length) ∧ k ≤ n ∧ e = .returned (.slice A k cap) ∧ w = w'
theorem ref1_trim {w : World} {A : Option Addr} {n cap : Nat} {ds : List Nat} (hx : Ri 65536 w A n cap ds) (hl : n ≤ 1099511627776) :
    Calls Tryd.prog 117 #[.slice A n cap] w (TrimP A n cap (nb 65536 ds) w) := by
  have hlen := Lib.hid hx.len
  have hcap := hx.rv.le
  go_enter Tryd.func117, Tryd.ntmps117
  go_wp2_with fail
  go_loop [3] (fun u => ∃ k : Nat, k ≤ n ∧ u = .int .i64 (k : Int) ∧ nb 65536 (ds.take k) = nb 65536 ds) (fun u => (intOf u).toNat)
  case atStart => exact ⟨n, Nat.le_refl _, rfl, by rw [← hlen.out, List.take_length]⟩
  case round =>
    obtain ⟨k, hk, rfl, hv⟩ := hrel
    have HV := Lib.hid hv
    clear hv
    by_cases h0 : 0 < k
    · obtain ⟨a, x, rfl, hxk, hxb, hc⟩ := hx.get (by omega) (i := k - 1) (by omega)
      by_cases hz : x = 0
      · subst hz
        go_wp2_with fail
        go_round
        case rel =>
          refine ⟨k - 1, by omega, by congr 1; omega, ?_⟩
          rw [← HV.out, ← nb_take_zero 65536 ds (k - 1) (by rw [hlen.out]; omega) hxk.out, Nat.sub_add_cancel h0]
        case measure => simp [intOf]; omega
      · have hzb : ((x : Int) == 0) = false := by simp; omega
        go_wp2_with fail
        go_ret
        refine ⟨k, ?_, hk, ?_, rfl⟩
        · have := db_take b16 (k := k) hx.wf (by rw [hlen.out]; exact hk) HV.out (Or.inr (by rw [hxk.out]; exact hz))
          show k = _
          rw [this, List.length_take, hlen.out]; omega
        · rfl
    · go_wp2_with fail
      go_ret
      refine ⟨k, ?_, hk, ?_, rfl⟩
      · have := db_take b16 (k := k) hx.wf (by rw [hlen.out]; exact hk) HV.out (Or.inl (by omega))
        show k = _
        rw [this, List.length_take, hlen.out]; omega
      · rfl
theorem split_step {ds : List Nat} {n x w : Nat} (hl : ds.length = n) (h : nb 65536 ds + 65536 ^ n * w = x) : nb 65536 (ds ++ [w % 65536]) + 65536 ^ (n + 1) * (w / 65536) = x := by
  rw [nb_snoc, hl, Nat.pow_succ, Nat.mul_assoc, Nat.add_assoc, ← Nat.mul_add, Nat.mod_add_div]
  exact h
theorem ref1_Split {w : World} {A : Option Addr} {n cap : Nat} {xs : List Nat} (hx : Rd w A n cap xs) (hl : n ≤ 274877906943) :
    Calls Tryd.prog 102 #[.slice A n cap] w (RetI w (nv xs)) := by
  have hlx := Lib.hid hx.len
  have hmk := run_make0 (P := Tryd.prog) Tryd.underlying52 infoInt rfl (by decide) (4 * (n : Int)) (by omega) (by omega)
  have et : (4 * (n : Int)).toNat = 4 * n := by omega
  rw [et] at hmk
  clear et
  go_enter Tryd.func102, Tryd.ntmps102
  go_wp2_with fail
  clear hmk
  obtain ⟨g, hg⟩ : ∃ g, w.heap.size = g := ⟨_, rfl⟩
  rw [hg]
  obtain ⟨wa, hwa⟩ : ∃ wa, w.alloc (.cells (zc (.int .i64 0) (4 * n)) 3) = wa := ⟨_, rfl⟩
  rw [hwa]
  have hoa : Own wa w.heap.size 3 1 (some ⟨g, 0, none⟩) 0 (4 * n) (([] : List Nat).map I6) := by
    rw [← hwa, ← hg]
    exact Own.mk_ (cs := List.replicate (4 * n) (.int .i64 0)) (Nat.le_refl _) (Bk.new' _ _ _) (by omega) (by rw [len_maxLen]; omega) (by simp) (by simp)
  have hea : Ext w wa := by rw [← hwa]; exact (Ext.refl w).alloc _
  clear hg hwa
  go_loopw [4, 3] (fun u v wr => ∃ (i : Nat) (A' : Option Addr) (c' : Nat) (ds : List Nat), i ≤ n ∧ u = .int .i64 (i : Int) ∧ v = .slice A' (4 * i) c' ∧ Own wr w.heap.size 3 1 A' (4 * i) c' (ds.map I6) ∧ Wfb 65536 ds ∧
    Hid (ds.length = 4 * i) ∧ Hid (nb 65536 ds = nv (xs.take i)) ∧ Ext w wr) (fun u v wr => n - (intOf u).toNat)
  case atStart => exact ⟨0, _, _, [], Nat.zero_le _, rfl, rfl, hoa, Wfb_nil _, rfl, rfl, hea⟩
  case round =>
    obtain ⟨i, A', c', ds, hi, rfl, rfl, ho, hw, hdl, hv, hr⟩ := hrel
    clear hoa hea
    by_cases him : i < n
    · obtain ⟨a, x, rfl, hxk, hxb, hcx⟩ := (hx.ext hr).get (i := i) (by omega)
      go_wp2_with fail
      obtain ⟨wo, rfl⟩ : ∃ wo : World, wo = wr := ⟨_, rfl⟩
      go_loopw [6, 3, 5] (fun u v y wr => ∃ (k : Nat) (A' : Option Addr) (c' : Nat) (ds : List Nat) (q : Nat), k ≤ 4 ∧ u = .int .i64 (k : Int) ∧ v = .slice A' (4 * i + k) c' ∧ y = .int .u64 (q : Int) ∧ q ≤ 18446744073709551615 ∧ Own wr w.heap.size 3 1 A' (4 * i + k) c' (ds.map I6) ∧ Wfb 65536 ds ∧
        Hid (ds.length = 4 * i + k) ∧ Hid (nb 65536 ds + 65536 ^ (4 * i + k) * q = nv (xs.take (i + 1))) ∧ Hid (q * 65536 ^ k < WB) ∧ Ext w wr) (fun u v y wr => 4 - (intOf u).toNat)
      case atStart =>
        refine ⟨0, _, _, ds, x, Nat.zero_le _, rfl, rfl, rfl, hxb, ho, hw, hdl, ?_, ?_, hr⟩
        · show _ = _
          rw [hv.out, nv_take_snoc xs i (by rw [hlx.out]; omega), hxk.out, WB_16, ← Nat.pow_mul]; rfl
        · show _ < _
          rw [WB_def]; omega
      case round =>
        obtain ⟨k, A2, c2, es, q, hk, rfl, rfl, rfl, hqb, ho2, hw2, hel, hev, hq, hr2⟩ := hrel
        clear ho hw hdl hv
        by_cases hk4 : k < 4
        · have r1 : (4 * i + k + 1) * 8 ≤ 140737488355328 := by omega
          go_wp2_with ((with_reducible refine at_slot (some 30) ?_); refine wpc_append rfl (.tmp 25) (.tmp 29) 52 rfl rfl rfl Tryd.underlying52 infoInt rfl (by decide) (ho2.ext ((Ext.refl _).alloc _)) (Rv.one _ _ _) (by simp [Value.oneCell']) r1 (by rw [len_maxLen]; omega) (by have := hr2.size; simp; omega) ?_; intro A3 c3 w3 ho3 hu3 _)
          have he3 : Ext w w3 := hu3.ext (hr2.alloc _) (fun p hp => (ho2.block p hp).1)
          go_roundw
          case rel =>
            refine ⟨k + 1, A3, c3, es ++ [q % 65536], q / 65536, by omega, by go_num, rfl, by go_num, by omega, ?_, Wfb_append hw2 (Wfb_one (by omega)), ?_, split_step hel.out hev.out, ?_, he3⟩
            · have : (es ++ [q % 65536]).map I6 = es.map I6 ++ [.int .i64 ((q : Int) % 65536)] := by simp
              rw [this]; exact ho3
            · show _ = _
              rw [List.length_append, hel.out]; rfl
            · show _ < _
              have h2 : q / 65536 * 65536 ≤ q := Nat.div_mul_le_self q 65536
              calc q / 65536 * 65536 ^ (k + 1) = (q / 65536 * 65536) * 65536 ^ k := by rw [Nat.pow_succ, Nat.mul_comm (65536 ^ k), Nat.mul_assoc]
                _ ≤ q * 65536 ^ k := Nat.mul_le_mul_right _ h2
                _ < WB := hq.out
          case measure => simp [intOf]; omega
        · obtain rfl : k = 4 := by omega
          have hq0 : q = 0 := by
            have h := hq.out
            rw [WB_def] at h
            omega
          go_wp2_with fail
          go_roundw
          case rel =>
            refine ⟨i + 1, A2, c2, es, by omega, by go_num, rfl, ho2, hw2, hel.out, ?_, hr2⟩
            show _ = _
            have h := hev.out
            rw [hq0, Nat.mul_zero, Nat.add_zero] at h
            exact h
          case measure => simp [intOf]; omega
    · obtain rfl : i = n := by omega
      have hri : Ri 65536 wr A' (4 * i) c' ds := ⟨ho.rv, hw⟩
      go_wp2_with fail
      refine (ref1_trim hri (by omega)).mono ?_
      rintro e w' ⟨k, hk, hkn, rfl, rfl⟩
      go_wp2_with fail
      go_ret
      have e : nb 65536 ds = nv xs := by rw [hv.out, ← hlx.out, List.take_length]
      have e2 := db_take_len b16 hw hk.out
      rw [e] at e2
      have hot := ho.take hkn
      rw [Nat.mul_one, ← List.map_take, ← e2] at hot
      refine ⟨A', k, c', rfl, ?_, ⟨hot.rv, Wfb_db b16 _⟩, hot, hr⟩
      show _ = _
      rw [hk.out, e]
theorem ref1_Join {w : World} {A : Option Addr} {n cap : Nat} {ds : List Nat} (hx : Ri 65536 w A n cap ds) (hl : n ≤ 1099511627775) :
    Calls Tryd.prog 99 #[.slice A n cap] w (RetW w (nb 65536 ds)) := by
  go_enter Tryd.func99, Tryd.ntmps99
  go_wp2_with fail
  refine (ref1_trim hx (by omega)).mono ?_
  rintro e w' ⟨k, hk, hkn, rfl, rfl⟩
  obtain ⟨es, hes⟩ : ∃ es, es = db 65536 (nb 65536 ds) := ⟨_, rfl⟩
  have hes2 : es = ds.take k := by rw [hes]; exact db_take_len b16 hx.wf hk.out
  have hlen := Lib.hid hx.len
  have he : Ri 65536 w A k cap es := by
    have h := hx.rv.take (k := k) (m := cap) hkn (by have := hx.rv.le; omega) (Nat.le_refl _)
    rw [Nat.mul_one, ← List.map_take, ← hes2] at h
    exact ⟨h, by rw [hes2]; exact Wfb_take hx.wf _⟩
  have hel := Lib.hid he.len
  have hval : Hid (nb 65536 es = nb 65536 ds) := by show _ = _; rw [hes, nb_db b16]
  have htop : Hid (k = 0 ∨ 65536 ^ (k - 1) ≤ nb 65536 ds) := by
    by_cases h0 : nb 65536 ds = 0
    · left
      have h := hk.out
      rw [h0, db_zero] at h
      exact h
    · right
      have := pow_len_db_le b16 h0
      rwa [← hk.out] at this
  clear hes hes2 hk
  have hmk := run_make0 (P := Tryd.prog) Tryd.underlying22 info64 rfl (by decide) ((k : Int) / 4 + 1) (by omega) (by omega)
  have et : ((k : Int) / 4 + 1).toNat = k / 4 + 1 := by omega
  rw [et] at hmk
  clear et
  go_wp2_with fail
  clear hmk
  obtain ⟨g, hg⟩ : ∃ g, w.heap.size = g := ⟨_, rfl⟩
  rw [hg]
  obtain ⟨wa, hwa⟩ : ∃ wa, w.alloc (.cells (zc (.int .u64 0) (k / 4 + 1)) 48) = wa := ⟨_, rfl⟩
  rw [hwa]
  have hoa : Own wa w.heap.size 48 1 (some ⟨g, 0, none⟩) 0 (k / 4 + 1) (([] : List Nat).map W64) := by
    rw [← hwa, ← hg]
    exact Own.mk_ (cs := List.replicate (k / 4 + 1) (.int .u64 0)) (Nat.le_refl _) (Bk.new' _ _ _) (by omega) (by rw [len_maxLen]; omega) (by simp) (by simp)
  have hea : Ext w wa := by rw [← hwa]; exact (Ext.refl w).alloc _
  clear hg hwa
  go_loopw [4, 3] (fun u v wr => ∃ (i : Nat) (A' : Option Addr) (c' : Nat) (ws : List Nat), 4 * i ≤ k + 3 ∧ u = .int .i64 (4 * (i : Int)) ∧ v = .slice A' i c' ∧ Own wr w.heap.size 48 1 A' i c' (ws.map W64) ∧ Wf ws ∧
    Hid (ws.length = i) ∧ Hid (nv ws = nb 65536 (es.take (4 * i))) ∧ Ext w wr) (fun u v wr => k + 4 - (intOf u).toNat)
  case atStart => exact ⟨0, _, _, [], by omega, rfl, rfl, hoa, Wf_nil, rfl, rfl, hea⟩
  case round =>
    obtain ⟨i, A', c', ws, hi, rfl, rfl, ho, hw, hwl, hv, hr⟩ := hrel
    clear hoa hea
    by_cases him : 4 * i < k
    · go_wp2_with fail
      obtain ⟨wo, rfl⟩ : ∃ wo : World, wo = wr := ⟨_, rfl⟩
      go_loop [6, 5] (fun u v => ∃ (j q : Nat), j ≤ 4 ∧ u = .int .i64 ((j : Int) - 1) ∧ v = .int .u64 (q : Int) ∧ Hid (q = nb 65536 ((es.drop (4 * i + j)).take (4 - j)))) (fun u v => (intOf u + 1).toNat)
      case atStart => exact ⟨4, 0, Nat.le_refl _, rfl, rfl, by simp [Hid, nb]⟩
      case round =>
        obtain ⟨j, q, hj, rfl, rfl, hq⟩ := hrel
        have hqlt : q < 65536 ^ (4 - j) := by
          rw [hq.out]
          have h1 := nb_lt (Wfb_take (Wfb_drop he.wf (4 * i + j)) (4 - j))
          have h2 : 65536 ^ (List.take (4 - j) (List.drop (4 * i + j) es)).length ≤ 65536 ^ (4 - j) := Nat.pow_le_pow_right (by omega) (by rw [List.length_take]; omega)
          omega
        by_cases hj0 : 0 < j
        · have hqb : q ≤ 281474976710655 := by
            have : (65536 : Nat) ^ (4 - j) ≤ 65536 ^ 3 := Nat.pow_le_pow_right (by omega) (by omega)
            omega
          clear hqlt
          have hstep : Hid (es.getD (4 * i + (j - 1)) 0 + 65536 * q = nb 65536 ((es.drop (4 * i + (j - 1))).take (4 - (j - 1)))) := by
            show _ = _
            have e2 : 4 - (j - 1) = (4 - j) + 1 := by omega
            have e3 : 4 * i + (j - 1) + 1 = 4 * i + j := by omega
            rw [e2, nb_drop_take, e3, hq.out]
          by_cases hin : 4 * i + (j - 1) < k
          · obtain ⟨a, x, rfl, hxk, hxb, hcx⟩ := (he.ext hr).get (by omega) (i := 4 * i + (j - 1)) (by omega)
            have hin' : 4 * (i : Int) + ((j : Int) - 1) < (k : Int) := by omega
            go_wp2_with fail
            go_round
            case rel => exact ⟨j - 1, x + 65536 * q, by omega, val_int (by omega), val_int (by omega), by show _ = _; rw [← hstep.out, hxk.out]⟩
            case measure => simp [intOf]; omega
          · have hin' : ¬ 4 * (i : Int) + ((j : Int) - 1) < (k : Int) := by omega
            go_wp2_with fail
            go_round
            case rel => exact ⟨j - 1, 65536 * q, by omega, val_int (by omega), val_int (by omega), by show _ = _; rw [← hstep.out, List.getD_eq_getElem?_getD, List.getElem?_eq_none (by rw [hel.out]; omega)]; simp⟩
            case measure => simp [intOf]; omega
        · obtain rfl : j = 0 := by omega
          have hqW : q < WB := by rw [WB_16]; exact hqlt
          clear hqlt
          have r1 : (i + 1) * 8 ≤ 140737488355328 := by omega
          go_wp2_with ((with_reducible refine at_slot (some 44) ?_); refine wpc_append rfl (.tmp 41) (.tmp 43) 22 rfl rfl rfl Tryd.underlying22 info64 rfl (by decide) (ho.ext ((Ext.refl _).alloc _)) (Rv.one _ _ _) (by simp [Value.oneCell']) r1 (by rw [len_maxLen]; omega) (by have := hr.size; simp; omega) ?_; intro A3 c3 w3 ho3 hu3 _)
          have he3 : Ext w w3 := hu3.ext (hr.alloc _) (fun p hp => (ho.block p hp).1)
          go_roundw
          case rel =>
            refine ⟨i + 1, A3, c3, ws ++ [q], by omega, val_int (by omega), rfl, ?_, Wf_append hw (Wf_one hqW), ?_, ?_, he3⟩
            · have : (ws ++ [q]).map W64 = ws.map W64 ++ [.int .u64 (q : Int)] := by simp
              rw [this]; exact ho3
            · show _ = _
              rw [List.length_append, hwl.out]; rfl
            · show _ = _
              rw [nv_snoc, hwl.out, hv.out, show 4 * (i + 1) = 4 * i + 4 from by omega, nb_take_add 65536 es (4 * i) 4 (by rw [hel.out]; omega), hq.out, WB_16, ← Nat.pow_mul]
              rfl
          case measure => simp [intOf]; omega
    · go_wp2_with fail
      go_ret
      have e1 : nv ws = nb 65536 ds := by rw [hv.out, List.take_of_length_le (by rw [hel.out]; omega), hval.out]
      have e2 : wd (nv ws) = ws := by
        refine wd_of_ge hw ?_
        rw [hwl.out, e1]
        by_cases h0 : i = 0
        · exact Or.inl h0
        · refine Or.inr ?_
          rcases htop.out with h | h
          · omega
          · refine Nat.le_trans ?_ h
            rw [WB_16, ← Nat.pow_mul]
            exact Nat.pow_le_pow_right (by omega) (by omega)
      rw [← e1]
      rw [← e2] at ho
      refine ⟨A', i, c', rfl, ?_, ho.rd (by rw [e2]; exact hw), ho, hr⟩
      show _ = _
      rw [e2, hwl.out]
end Go.Proofs.YtmjdmjflgiicaaaDoor

namespace Go.Proofs.YtmjdmjflgiicaaaDoor
open Go.RowKit
theorem UpdO.refl (A : Option Addr) (w : World) : UpdO A w w := ⟨World.grownBy.refl _ _⟩
theorem UpdO.trans {A : Option Addr} {a b c : World} (h : UpdO A a b) (k : UpdO A b c) : UpdO A a c :=
  ⟨⟨k.by_.os.trans h.by_.os, k.by_.tape.trans h.by_.tape, k.by_.output.trans h.by_.output, Nat.le_trans h.by_.size k.by_.size,
    fun i hi hne => (k.by_.block i (Nat.lt_of_lt_of_le hi h.by_.size) hne).trans (h.by_.block i hi hne)⟩⟩
theorem UpdO.then_ext {A : Option Addr} {a b c : World} (h : UpdO A a b) (e : Ext b c) : UpdO A a c :=
  ⟨⟨e.below.os.trans h.by_.os, e.below.tape.trans h.by_.tape, e.below.output.trans h.by_.output, Nat.le_trans h.by_.size e.below.size,
    fun i hi hne => (e.below.block i (Nat.lt_of_lt_of_le hi h.by_.size)).trans (h.by_.block i hi hne)⟩⟩
theorem Own.at1 {w : World} {lb : Nat} {T : TypeId} {A : Option Addr} {n c : Nat} {f : Nat → Value} {xs : List Nat} (h : Own w lb T 1 A n c (xs.map f)) {i : Nat} (hi : i < n) :
    ∃ p, A.map (·.add (i * 1)) = some p ∧ w.cell? p = some (f (xs.getD i 0)) := by
  have hl := h.rv.len
  rw [List.length_map, Nat.mul_one] at hl
  obtain ⟨a, rfl, hc⟩ := h.rv.get i (by omega)
  refine ⟨a.add i, by rw [Nat.mul_one]; rfl, ?_⟩
  rw [hc]
  simp [List.getD_eq_getElem?_getD, List.getElem?_map, List.getElem?_eq_getElem (show i < xs.length by omega)]
theorem own_len1 {w : World} {b n c : Nat} {T : TypeId} {A : Option Addr} {f : Nat → Value} {l : List Nat} (h : Own w b T 1 A n c (l.map f)) : l.length = n := by have := h.rv.len; rwa [List.length_map, Nat.mul_one] at this
theorem Own.take1 {w : World} {lb : Nat} {T : TypeId} {A : Option Addr} {n c k : Nat} {f : Nat → Value} {xs : List Nat} (h : Own w lb T 1 A n c (xs.map f)) (hk : k ≤ n) : Own w lb T 1 A k c ((xs.take k).map f) := by
  have := h.take hk
  rwa [Nat.mul_one, ← List.map_take] at this
theorem own_set {w : World} {lb : Nat} {T : TypeId} {A : Option Addr} {n c : Nat} {f : Nat → Value} {xs : List Nat} (h : Own w lb T 1 A n c (xs.map f)) {i u : Nat} (hi : i < n) (h1 : (f u).oneCell' = true) (hcl : (f u).cells = #[f u]) {P : Program} {T' : TypeId} (hT : ∀ w, (sizeOf T').run P w = .ok 1 w) {p : Addr} (hp : A.map (·.add (i * 1)) = some p) :
    ∃ w', (storeVar T' p (f u)).run P w = .ok () w' ∧ Own w' lb T 1 A n c ((xs.set i u).map f) ∧ UpdO A w w' := by
  rcases h with ⟨_, rfl, _, _⟩ | ⟨g, cs, rfl, hb, hk, hn, hm, hl, hv⟩
  · omega
  · rw [Option.map_some, Option.some.injEq, Nat.mul_one, add_lit0, Nat.zero_add] at hp
    subst hp
    rw [Nat.mul_one] at hl hv
    obtain ⟨w', hr, hb2, hu, _⟩ := run_store1v (P := P) (v := f u) hT hcl hk (show i < cs.length by omega) h1 _ rfl
    refine ⟨w', hr, Or.inr ⟨g, _, rfl, hb, hb2, hn, hm, by rw [List.length_set, hl, Nat.mul_one], ?_⟩, hu.updO⟩
    rw [Nat.mul_one, List.take_set, hv, List.map_set]
section
variable {P : Program} {Q : Exit → Act → World → Prop} {n : Nat} {l : Fr} {w : World} {ops : Array Oper} {rest : List Oper} {d : Nat} {ty : TypeId} {pos : String} {af : Array Edge} {gd : Option (Nat × Bool)}
theorem wl_setO {x y : Operand} {T T' : TypeId} {lb : Nat} {A : Option Addr} {m c : Nat} {f : Nat → Value} {xs : List Nat} {i u : Nat} {p : Addr} (hw : guardB ops l gd = some true) (hx : evo l x = some (.pointer (some p))) (hy : evo l y = some (f u))
    (hp : A.map (·.add (i * 1)) = some p) (h : Own w lb T 1 A m c (xs.map f)) (hi : i < m) (h1 : (f u).oneCell' = true) (hcl : (f u).cells = #[f u]) (hT : ∀ w, (sizeOf T').run P w = .ok 1 w)
    (k : ∀ w', Own w' lb T 1 A m c ((xs.set i u).map f) → UpdO A w w' → wl P ops Q n rest l w') : wl P ops Q n (⟨none, .store T' x y, ty, pos, af, gd⟩ :: rest) l w := by
  obtain ⟨w', hr, h2, h3⟩ := own_set (P := P) (T' := T') h hi h1 hcl hT hp
  exact wl_store hw hx hy hr (k w' h2 h3)
end
theorem un_int4 : Tryd.prog.underlying 52 = some (.slice 3) := Tryd.underlying52
theorem sz_int4 (w : World) : (sizeOf 3).run Tryd.prog w = .ok 1 w := by kernel_rfl
/-- a list of numbers of the call's own -/
def OI (b : Nat) (ds : List Nat) (v : Value) (w : World) : Prop := ∃ A n c, v = .slice A n c ∧ ds.length = n ∧ Own w b 3 1 A n c (ds.map I6)
theorem g_split4 {w : World} {A : Option Addr} {n c m : Nat} (hx : Wi w A n c m) (hl : n ≤ 274877906943) : Calls Tryd.prog 102 #[.slice A n c] w (Gv w (OI w.heap.size (db 65536 m))) := by
  obtain ⟨xs, h1, rfl⟩ := hx
  refine (ref1_Split h1 hl).mono fun e w' h => ?_
  obtain ⟨A, n, c, rfl, h1, h2, h3, h4⟩ := h
  exact ⟨_, rfl, ⟨A, n, c, rfl, h1.out.symm, h3⟩, h4⟩
theorem replicate_B8 (n : Nat) : List.replicate n (Value.int .u8 0) = (List.replicate n 0).map B8 := by rw [List.map_replicate]; rfl
/-- the signs, as the document's text lays them -/
def sgns : List Nat := [48, 49, 50, 51, 52, 53, 54, 55, 56, 57, 97, 98, 99, 100, 101, 102, 103, 104, 105, 106, 107, 108, 109, 110, 111, 112, 113, 114, 115, 116, 117, 118, 119, 120, 121, 122]
theorem sgns_get {d : Nat} (h : d < 36) : sgns.getD d 0 = sgn d := by
  have key : ∀ d, d < 36 → sgns.getD d 0 = sgn d := by decide
  exact key d h
theorem over_step {ds l : List Nat} {base j rest : Nat} (hb : 0 < base) (hj : 0 < j) (hjl : j ≤ l.length) (hl : l.length = ds.length) (ht : l.take j = ds.take j) (h : nb 65536 (ds.drop j) = base * nb 65536 (l.drop j) + rest) :
    nb 65536 (ds.drop (j - 1)) = base * nb 65536 ((l.set (j - 1) ((rest * 65536 + l.getD (j - 1) 0) / base)).drop (j - 1)) + (rest * 65536 + l.getD (j - 1) 0) % base := by
  have e1 : l.getD (j - 1) 0 = ds.getD (j - 1) 0 := by
    have h1 : (l.take j).getD (j - 1) 0 = (ds.take j).getD (j - 1) 0 := by rw [ht]
    simpa [List.getD_eq_getElem?_getD, List.getElem?_take, show j - 1 < j by omega] using h1
  have e2 : ds.drop (j - 1) = ds.getD (j - 1) 0 :: ds.drop j := by
    rw [drop_getD (by omega), show j - 1 + 1 = j by omega]
  have e3 : (l.set (j - 1) ((rest * 65536 + l.getD (j - 1) 0) / base)).drop (j - 1) = ((rest * 65536 + l.getD (j - 1) 0) / base) :: l.drop j := by
    rw [drop_getD (by rw [List.length_set]; omega)]
    congr 1
    · simp [List.getD_eq_getElem?_getD, show j - 1 < l.length by omega]
    · rw [show j - 1 + 1 = j by omega, List.drop_set_of_lt (by omega)]
  rw [e2, e3, nb_cons, nb_cons, h, ← e1]
  have h5 := Nat.div_add_mod (rest * 65536 + l.getD (j - 1) 0) base
  generalize (rest * 65536 + l.getD (j - 1) 0) / base = q at h5 ⊢
  generalize (rest * 65536 + l.getD (j - 1) 0) % base = r at h5 ⊢
  have h6 : base * (q + 65536 * nb 65536 (l.drop j)) = base * q + 65536 * (base * nb 65536 (l.drop j)) := by rw [Nat.mul_add, Nat.mul_left_comm]
  rw [h6]
  omega
theorem onto_step {ds l : List Nat} {base i c v : Nat} (hi : i < l.length) (hl : l.length = ds.length) (ht : l.drop i = ds.drop i) (h : nb 65536 (l.take i) + 65536 ^ i * c = nb 65536 (ds.take i) * base + v) :
    nb 65536 ((l.set i ((l.getD i 0 * base + c) % 65536)).take (i + 1)) + 65536 ^ (i + 1) * ((l.getD i 0 * base + c) / 65536) = nb 65536 (ds.take (i + 1)) * base + v := by
  have e1 : l.getD i 0 = ds.getD i 0 := by
    have h1 : (l.drop i).getD 0 0 = (ds.drop i).getD 0 0 := by rw [ht]
    simpa [List.getD_eq_getElem?_getD, List.getElem?_drop] using h1
  rw [nb_set_snoc 65536 hi, Nat.pow_succ, Nat.mul_assoc, Nat.add_assoc, ← Nat.mul_add, Nat.mod_add_div, nb_take_snoc 65536 ds i (by omega), Nat.add_mul, ← e1, Nat.mul_add, Nat.mul_assoc]
  omega
end Go.Proofs.YtmjdmjflgiicaaaDoor

namespace Go.Proofs.YtmjdmjflgiicaaaDoor
open Go.RowKit
/-- what may have turned: blocks of words, from lb on -/
structure UpU (lb : Nat) (w w' : World) : Prop where
  os : w'.os = w.os
  tape : w'.tape = w.tape
  output : w'.output = w.output
  size : w.heap.size ≤ w'.heap.size
  low : ∀ k, k < lb → k < w.heap.size → w'.heap[k]? = w.heap[k]?
  typ : ∀ (k : Nat) (cs : Array Value) (t : TypeId) (fr : Nat × Nat), w.heap[k]? = some (.cells cs t fr) → t ≠ 48 → w'.heap[k]? = some (.cells cs t fr)
section
variable {lb : Nat} {a b c w w' : World}
theorem UpU.refl (lb : Nat) (w : World) : UpU lb w w := ⟨rfl, rfl, rfl, Nat.le_refl _, fun _ _ _ => rfl, fun _ _ _ _ h _ => h⟩
theorem UpU.trans (h : UpU lb a b) (e : UpU lb b c) : UpU lb a c :=
  ⟨e.os.trans h.os, e.tape.trans h.tape, e.output.trans h.output, Nat.le_trans h.size e.size, fun k hk hs => (e.low k hk (Nat.lt_of_lt_of_le hs h.size)).trans (h.low k hk hs), fun k cs t fr ho h1 => e.typ k cs t fr (h.typ k cs t fr ho h1) h1⟩
theorem UpU.of_ext (lb : Nat) (e : Ext w w') : UpU lb w w' := ⟨e.below.os, e.below.tape, e.below.output, e.size, fun k _ hs => e.below.block k hs, fun _ _ _ _ ho _ => e.heap ho⟩
theorem UpU.then_ext (h : UpU lb a b) (e : Ext b c) : UpU lb a c := h.trans (UpU.of_ext lb e)
theorem UpU.ext (h : UpU lb w w') (e : Ext a w) (hl : a.heap.size ≤ lb) : Ext a w' :=
  ⟨⟨h.os.trans e.below.os, h.tape.trans e.below.tape, h.output.trans e.below.output, Nat.le_trans e.size h.size, fun k hk => (h.low k (Nat.lt_of_lt_of_le hk hl) (Nat.lt_of_lt_of_le hk e.size)).trans (e.below.block k hk)⟩⟩
theorem UpU.bk {g : Nat} {t : TypeId} {vs : List Value} (h : UpU lb w w') (hb : Bk w g t vs) (h1 : t ≠ 48) : Bk w' g t vs := h.typ g _ _ _ hb h1
theorem UpU.own {base s n cap : Nat} {t : TypeId} {A : Option Addr} {vs : List Value} (h : UpU lb w w') (ho : Own w base t s A n cap vs) (h1 : t ≠ 48) : Own w' base t s A n cap vs := by
  rcases ho with ho | ⟨g, cs, ha, hb, hk, r⟩
  · exact Or.inl ho
  · exact Or.inr ⟨g, cs, ha, hb, h.bk hk h1, r⟩
theorem UpU.ofO {A : Option Addr} {s n cap : Nat} {vs : List Value} (ho : Own w lb 48 s A n cap vs) (u : UpdO A w w') : UpU lb w w' := by
  refine ⟨u.by_.os, u.by_.tape, u.by_.output, u.size, fun k hk hs => ?_, fun k cs t fr h1 h2 => ?_⟩
  · refine u.by_.block k hs fun e => ?_
    cases A with
    | none => cases e
    | some p =>
      have e' : k = p.block := Option.some.inj e
      have := (ho.block p rfl).1
      omega
  · refine u.heap h1 fun p hp e => h2 ?_
    rcases ho with ⟨h, _⟩ | ⟨g, cs', ha, _, hk, _⟩
    · rw [h] at hp; cases hp
    · rw [ha] at hp; cases hp
      simp only at e
      subst e
      unfold Bk at hk
      rw [hk] at h1
      injection h1 with h1
      injection h1 with _ h1
      exact h1.symm
end
/-- append, with what it leaves: in place, or in a new block -/
theorem run_app2 {P : Program} {t ty e : TypeId} {z : Value} {s bytes : Nat} (ht : P.underlying t = some (.slice e)) (hinfo : (P.info? e).map (fun i => (i.zero, i.size, i.bytes)) = some (some z, s, bytes)) (hzs : z.cells.size = s) (hsz : 0 < s) (hby : bytes ≤ 64)
    {w : World} {base : Nat} {A : Option Addr} {n cap : Nat} {xs : List Value} (hown : Own w base e s A n cap xs) (hb : base ≤ w.heap.size) {a : Addr} {m c : Nat} {news : List Value} (hl : news.length = m * s) (hnews : ∀ j u, news[j]? = some u → w.cell? (a.add j) = some u)
    (h1 : news.all (·.oneCell') = true) (hm : n + m ≤ 1099511627776) :
    ∃ A' cap' w', (Builtin.append_ #[t, t] ty #[.slice A n cap, .slice (some a) m c]).run P w = .ok (.slice A' (n + m) cap') w' ∧ Own w' base e s A' (n + m) cap' (xs ++ news) ∧
      ((A' = A ∧ cap' = cap ∧ UpdO A w w') ∨ (Ext w w' ∧ ∀ a', A' = some a' → w.heap.size ≤ a'.block)) := by
  obtain ⟨i, hi, hz, hz1, hz2⟩ := info_parts hinfo
  have h1' : ∀ u ∈ news, u.oneCell' = true := by simpa [List.all_eq_true] using h1
  have h63 : n + m ≤ maxLen := by rw [len_maxLen]; omega
  have hbytes : (n + m) * bytes ≤ 140737488355328 := by
    have : (n + m) * bytes ≤ 1099511627776 * 64 := Nat.mul_le_mul hm hby
    omega
  rcases hown with ⟨rfl, rfl, rfl, rfl⟩ | ⟨g, cs, rfl, hg, hk, hn, hcm, hcl, hv⟩
  · obtain ⟨v', w', hr, h2, h3, _⟩ := run_append_own (P := P) w w.heap.size t ty e i z s bytes ht hi hz hz1 hz2 hzs hsz (.slice none 0 0) 0 [] (World.ownsRow_nil w _ e s) a m c news hl hnews h1' h63 hbytes (Nat.le_refl _)
    obtain ⟨A', cap', rfl, ho⟩ := Own.of_row h2
    exact ⟨A', cap', w', hr, ho.mono hb, Or.inr ⟨Ext.of_grown h3, fun a' ha => (ho.block a' ha).1⟩⟩
  · by_cases hroom : n + m ≤ cap
    · have hfit : n * s + news.length ≤ cs.length := by rw [hl, hcl, ← Nat.add_mul]; exact Nat.mul_le_mul_right s hroom
      obtain ⟨w', hst, hb2, hu, hs⟩ := store_cells (P := P) news 0 (n * s) w cs hk (by omega) h1'
      rw [Nat.add_zero] at hb2
      have hfc := run_firstCells_some (P := P) w i.size m a m c news (by rw [hz1]; exact hl) hnews
      rw [hz1] at hfc
      refine ⟨some ⟨g, 0, none⟩, cap, w', ?_, Or.inr ⟨g, _, rfl, hg, hb2, hroom, hcm, ?_, ?_⟩, Or.inl ⟨rfl, rfl, hu.updO⟩⟩
      · simp [Builtin.append_, run_underlying ht, sizeOf, typeInfo, hi, Builtin.lenOf, hroom, hfc, Addr.add_lit, hz1, hst]
      · unfold overl
        simp only [List.length_append, List.length_take, List.length_drop]
        omega
      · rw [Nat.add_mul, ← hl]
        exact overl_take hv (by omega)
    · obtain ⟨v', w', hr, h2, h3⟩ := run_append_arg_grows (P := P) w t ty e i z s bytes ht hi hz hz1 hz2 hzs hsz ⟨g, 0, none⟩ n cap xs
        (by rw [← hv, List.length_take]; have := Nat.mul_le_mul_right s hn; omega)
        (fun j u hj => by
          have hjl := (List.getElem?_eq_some_iff.1 hj).1
          rw [add_lit0, Nat.zero_add, hk.cell (by rw [← hv, List.length_take] at hjl; omega)]
          rw [← hv, List.getElem?_take] at hj
          split at hj
          · rw [List.getD_eq_getElem?_getD, hj]; rfl
          · cases hj) a m c news hl hnews (by omega) h63 hbytes
      obtain ⟨A', cap', rfl, ho⟩ := Own.of_row h2
      exact ⟨A', cap', w', hr, ho.mono hb, Or.inr ⟨Ext.of_grown h3, fun a' ha => (ho.block a' ha).1⟩⟩
/-- a list that was answered -/
structure Lst where
  A : Option Addr
  n : Nat
  c : Nat
def Lst.v (x : Lst) : Value := .slice x.A x.n x.c
def Lst.z : Lst := ⟨none, 0, 0⟩
/-- the mark of the place j of the list with the number i -/
def sgm (i j : Nat) : Nat := 4323455642275676160 + i * 1048576 + j
def marks (i n : Nat) : List Nat := (List.range n).map (sgm i)
theorem marks_len (i n : Nat) : (marks i n).length = n := by unfold marks; rw [List.length_map, List.length_range]
theorem marks_get {i n j : Nat} (h : j < n) : (marks i n).getD j 0 = sgm i j := by unfold marks; simp [List.getD_eq_getElem?_getD, h]
theorem marks_take {i n k : Nat} (h : k ≤ n) : (marks i n).take k = marks i k := by
  unfold marks; rw [← List.map_take, List.take_range, Nat.min_eq_left h]
theorem marks_succ (i n : Nat) : marks i (n + 1) = marks i n ++ [sgm i n] := by unfold marks; rw [List.range_succ, List.map_append]; rfl
/-- the lists of the book: apart, each of the call's own; those before i are marked, of i the first j places -/
structure Al1 (w : World) (lb : Nat) (ls : List Lst) (i j : Nat) : Prop where
  dis : ∀ a b, a < ls.length → b < ls.length → a ≠ b → ∀ p q, (ls.getD a Lst.z).A = some p → (ls.getD b Lst.z).A = some q → p.block ≠ q.block
  own : ∀ a, a < ls.length → ∃ xs : List Nat, Own w lb 48 1 (ls.getD a Lst.z).A (ls.getD a Lst.z).n (ls.getD a Lst.z).c (xs.map W64) ∧ (a < i → xs = marks a (ls.getD a Lst.z).n) ∧ (a = i → xs.take j = (marks a (ls.getD a Lst.z).n).take j)
section
variable {w w' : World} {lb i j : Nat} {ls : List Lst}
theorem Al1.ext (h : Al1 w lb ls i j) (e : Ext w w') : Al1 w' lb ls i j := ⟨h.dis, fun a ha => by
  obtain ⟨xs, h1, h2⟩ := h.own a ha
  exact ⟨xs, h1.ext e, h2⟩⟩
theorem Al1.next (h : Al1 w lb ls i j) (hj : (ls.getD i Lst.z).n ≤ j) : Al1 w lb ls (i + 1) 0 := ⟨h.dis, fun a ha => by
  obtain ⟨xs, h1, h2, h3⟩ := h.own a ha
  refine ⟨xs, h1, fun hlt => ?_, fun _ => rfl⟩
  by_cases e : a = i
  · subst e
    have h4 := h3 rfl
    have hl := own_len1 h1
    rwa [List.take_of_length_le (by omega), List.take_of_length_le (by rw [marks_len]; exact hj)] at h4
  · exact h2 (by omega)⟩
theorem Al1.addr (h : Al1 w lb ls i j) (hi : i < ls.length) {k : Nat} (hk : k < (ls.getD i Lst.z).n) : ∃ p, (ls.getD i Lst.z).A.map (·.add (k * 1)) = some p := by
  obtain ⟨xs, h1, _⟩ := h.own i hi
  obtain ⟨p, hp, _⟩ := h1.at1 hk
  exact ⟨p, hp⟩
theorem Al1.set {P : Program} (h : Al1 w lb ls i j) (hi : i < ls.length) (hj : j < (ls.getD i Lst.z).n) {T' : TypeId} (hT : ∀ w, (sizeOf T').run P w = .ok 1 w) {p : Addr} (hp : (ls.getD i Lst.z).A.map (·.add (j * 1)) = some p) :
    ∃ w', (storeVar T' p (W64 (sgm i j))).run P w = .ok () w' ∧ Al1 w' lb ls i (j + 1) ∧ UpU lb w w' := by
  obtain ⟨xs, h1, h2, h3⟩ := h.own i hi
  obtain ⟨w', hr, h4, h5⟩ := own_set (P := P) (T' := T') (f := W64) (u := sgm i j) h1 hj rfl rfl hT hp
  refine ⟨w', hr, ⟨h.dis, fun a ha => ?_⟩, UpU.ofO h1 h5⟩
  by_cases e : a = i
  · subst e
    refine ⟨_, h4, fun h => absurd h (Nat.lt_irrefl _), fun _ => ?_⟩
    have h6 := h3 rfl
    have hl := own_len1 h1
    rw [List.take_add_one, List.take_add_one, List.take_set_of_le (Nat.le_refl _), h6]
    congr 1
    rw [List.getElem?_set_self (by omega)]
    have := marks_get (i := a) hj
    rw [List.getD_eq_getElem?_getD, List.getElem?_eq_getElem (by rw [marks_len]; exact hj), Option.getD_some] at this
    rw [List.getElem?_eq_getElem (by rw [marks_len]; exact hj), this]
  · obtain ⟨ys, g1, g2, g3⟩ := h.own a ha
    exact ⟨ys, g1.updO h5 (fun p q hp hq => h.dis i a hi ha (fun e' => e e'.symm) p q hp hq), g2, fun e' => absurd e' e⟩
end
/-- a list and what it grew to -/
structure Gr (w : World) (lb : Nat) (x g : Lst) (i : Nat) : Prop where
  ox : Own w lb 48 1 x.A x.n x.c ((marks i x.n).map W64)
  og : Own w lb 48 1 g.A g.n g.c ((marks i g.n).map W64)
  le : x.n ≤ g.n
  rel : (g.A = x.A ∧ g.c = x.c) ∨ (∀ p q, x.A = some p → g.A = some q → p.block ≠ q.block)
def inB (x g : Lst) (k : Nat) : Prop := ∃ p, (x.A = some p ∨ g.A = some p) ∧ p.block = k
structure Al2 (w : World) (lb : Nat) (ls gs : List Lst) : Prop where
  len : gs.length = ls.length
  dis : ∀ a b, a < ls.length → b < ls.length → a ≠ b → ∀ k, inB (ls.getD a Lst.z) (gs.getD a Lst.z) k → ¬ inB (ls.getD b Lst.z) (gs.getD b Lst.z) k
  gr : ∀ a, a < ls.length → Gr w lb (ls.getD a Lst.z) (gs.getD a Lst.z) a
section
variable {w w' : World} {lb i : Nat} {ls gs : List Lst}
theorem Al2.start (h : Al1 w lb ls ls.length 0) : Al2 w lb ls ls := by
  refine ⟨rfl, fun a b ha hb hne k h1 h2 => ?_, fun a ha => ?_⟩
  · obtain ⟨p, hp, rfl⟩ := h1
    obtain ⟨q, hq, hk⟩ := h2
    exact h.dis a b ha hb hne p q (by rcases hp with hp | hp <;> exact hp) (by rcases hq with hq | hq <;> exact hq) hk.symm
  · obtain ⟨xs, h1, h2, _⟩ := h.own a ha
    rw [h2 ha] at h1
    exact ⟨h1, h1, Nat.le_refl _, Or.inl ⟨rfl, rfl⟩⟩
theorem Gr.ext {x g : Lst} (h : Gr w lb x g i) (e : Ext w w') : Gr w' lb x g i := ⟨h.ox.ext e, h.og.ext e, h.le, h.rel⟩
theorem Al2.ext (h : Al2 w lb ls gs) (e : Ext w w') : Al2 w' lb ls gs := ⟨h.len, h.dis, fun a ha => (h.gr a ha).ext e⟩
theorem getD_set_self {α : Type} {l : List α} {i : Nat} {x d : α} (h : i < l.length) : (l.set i x).getD i d = x := by simp [List.getD_eq_getElem?_getD, h]
theorem getD_set_other {α : Type} {l : List α} {i j : Nat} {x d : α} (h : j ≠ i) : (l.set i x).getD j d = l.getD j d := by
  rw [List.getD_eq_getElem?_getD, List.getElem?_set_ne (fun e => h e.symm), ← List.getD_eq_getElem?_getD]
theorem Al2.app (h : Al2 w lb ls gs) (hi : i < ls.length) {A' : Option Addr} {c' : Nat} (ho : Own w' lb 48 1 A' ((gs.getD i Lst.z).n + 1) c' ((marks i ((gs.getD i Lst.z).n + 1)).map W64))
    (hc : (A' = (gs.getD i Lst.z).A ∧ c' = (gs.getD i Lst.z).c ∧ UpdO (gs.getD i Lst.z).A w w') ∨ (Ext w w' ∧ ∀ a', A' = some a' → w.heap.size ≤ a'.block)) : Al2 w' lb ls (gs.set i ⟨A', (gs.getD i Lst.z).n + 1, c'⟩) := by
  have hig : i < gs.length := by rw [h.len]; exact hi
  have hgi := h.gr i hi
  rcases hc with ⟨rfl, rfl, hu⟩ | ⟨he, hnew⟩
  · refine ⟨by rw [List.length_set]; exact h.len, fun a b ha hb hne k h1 h2 => ?_, fun a ha => ?_⟩
    · refine h.dis a b ha hb hne k ?_ ?_
      · by_cases e : a = i
        · subst e; rwa [getD_set_self hig] at h1
        · rwa [getD_set_other e] at h1
      · by_cases e : b = i
        · subst e; rwa [getD_set_self hig] at h2
        · rwa [getD_set_other e] at h2
    · by_cases e : a = i
      · subst e
        rw [getD_set_self hig]
        refine ⟨?_, ho, Nat.le_succ_of_le hgi.le, hgi.rel⟩
        rcases hgi.rel with ⟨e1, e2⟩ | hd
        · have h4 := ho.take1 (k := (ls.getD a Lst.z).n) (Nat.le_succ_of_le hgi.le)
          rw [marks_take (Nat.le_succ_of_le hgi.le)] at h4
          rw [← e1, ← e2]; exact h4
        · exact hgi.ox.updO hu (fun p q hp hq e => hd q p hq hp e.symm)
      · rw [getD_set_other e]
        have hga := h.gr a ha
        refine ⟨hga.ox.updO hu (fun p q hp hq e' => ?_), hga.og.updO hu (fun p q hp hq e' => ?_), hga.le, hga.rel⟩
        · exact h.dis i a hi ha (fun e'' => e e''.symm) p.block ⟨p, Or.inr hp, rfl⟩ ⟨q, Or.inl hq, e'.symm⟩
        · exact h.dis i a hi ha (fun e'' => e e''.symm) p.block ⟨p, Or.inr hp, rfl⟩ ⟨q, Or.inr hq, e'.symm⟩
  · have old : ∀ a, a < ls.length → ∀ k, inB (ls.getD a Lst.z) (gs.getD a Lst.z) k → k < w.heap.size := fun a ha k hk => by
      obtain ⟨p, hp, rfl⟩ := hk
      rcases hp with hp | hp
      · exact ((h.gr a ha).ox.block p hp).2
      · exact ((h.gr a ha).og.block p hp).2
    have part : ∀ a, a < ls.length → ∀ k, inB (ls.getD a Lst.z) ((gs.set i ⟨A', (gs.getD i Lst.z).n + 1, c'⟩).getD a Lst.z) k → inB (ls.getD a Lst.z) (gs.getD a Lst.z) k ∨ (a = i ∧ w.heap.size ≤ k) := fun a ha k hk => by
      by_cases e : a = i
      · subst e
        rw [getD_set_self hig] at hk
        obtain ⟨p, hp, rfl⟩ := hk
        rcases hp with hp | hp
        · exact Or.inl ⟨p, Or.inl hp, rfl⟩
        · exact Or.inr ⟨rfl, hnew p hp⟩
      · rw [getD_set_other e] at hk; exact Or.inl hk
    refine ⟨by rw [List.length_set]; exact h.len, fun a b ha hb hne k h1 h2 => ?_, fun a ha => ?_⟩
    · rcases part a ha k h1 with h3 | ⟨e3, h3⟩
      · rcases part b hb k h2 with h4 | ⟨e4, h4⟩
        · exact h.dis a b ha hb hne k h3 h4
        · have := old a ha k h3; omega
      · rcases part b hb k h2 with h4 | ⟨e4, h4⟩
        · have := old b hb k h4; omega
        · exact hne (e3.trans e4.symm)
    · by_cases e : a = i
      · subst e
        rw [getD_set_self hig]
        refine ⟨hgi.ox.ext he, ho, Nat.le_succ_of_le hgi.le, Or.inr fun p q hp hq e => ?_⟩
        have := (hgi.ox.block p hp).2
        have := hnew q hq
        omega
      · rw [getD_set_other e]
        exact (h.gr a ha).ext he
end
section
variable {Q : Exit → Act → World → Prop} {N : Nat} {l : Fr} {w : World} {ops : Array Oper} {rest : List Oper} {d : Nat} {ty : TypeId} {pos : String} {af : Array Edge} {gd : Option (Nat × Bool)}
/-- a mark is written -/
theorem wl_mark {x y : Operand} {lb i j : Nat} {ls : List Lst} {p : Addr} (hw : guardB ops l gd = some true) (hx : evo l x = some (.pointer (some p))) (hy : evo l y = some (W64 (sgm i j))) (h : Al1 w lb ls i j) (hi : i < ls.length) (hj : j < (ls.getD i Lst.z).n)
    (hp : (ls.getD i Lst.z).A.map (·.add (j * 1)) = some p) (k : ∀ w', Al1 w' lb ls i (j + 1) → UpU lb w w' → wl Tryd.prog ops Q N rest l w') : wl Tryd.prog ops Q N (⟨none, .store 48 x y, ty, pos, af, gd⟩ :: rest) l w := by
  obtain ⟨w', hr, h2, h3⟩ := h.set (P := Tryd.prog) (T' := 48) hi hj sz_u64 hp
  exact wl_store hw hx hy hr (k w' h2 h3)
/-- a list grows by a mark -/
theorem wl_grow {x y : Operand} {lb i g c : Nat} {ls gs : List Lst} (hw : guardB ops l gd = some true) (hx : evo l x = some (.slice (gs.getD i Lst.z).A (gs.getD i Lst.z).n (gs.getD i Lst.z).c)) (hy : evo l y = some (.slice (some ⟨g, 0, none⟩) 1 c))
    (h : Al2 w lb ls gs) (hlb : lb ≤ w.heap.size) (hi : i < ls.length) (hb : Bk w g 48 [W64 (sgm i (gs.getD i Lst.z).n)]) (hm : (gs.getD i Lst.z).n + 1 ≤ 1099511627776) (hd : d < N)
    (k : ∀ A' c' w', Al2 w' lb ls (gs.set i ⟨A', (gs.getD i Lst.z).n + 1, c'⟩) → UpU lb w w' → wl Tryd.prog ops Q N rest ((d, .slice A' ((gs.getD i Lst.z).n + 1) c') :: l) w') :
    wl Tryd.prog ops Q N (⟨some d, .call { callee := .builtin .append, args := #[x, y], argTypes := #[22, 22] }, ty, pos, af, gd⟩ :: rest) l w := by
  have hg := h.gr i hi
  obtain ⟨A', cap', w', hr, h2, h3⟩ := run_app2 (P := Tryd.prog) (ty := ty) un_u64 info64 rfl (by decide) (by decide) hg.og hlb (m := 1) (c := c) (news := [W64 (sgm i (gs.getD i Lst.z).n)]) rfl (one_news _ hb) rfl hm
  have h4 : Own w' lb 48 1 A' ((gs.getD i Lst.z).n + 1) cap' ((marks i ((gs.getD i Lst.z).n + 1)).map W64) := by rw [marks_succ, List.map_append]; exact h2
  have h5 := h.app hi h4 h3
  have h6 : UpU lb w w' := by
    rcases h3 with ⟨_, _, hu⟩ | ⟨he, _⟩
    · exact UpU.ofO hg.og hu
    · exact UpU.of_ext lb he
  refine wl_val hw hd (fun a' ha => ?_) (k A' cap' w' h5 h6)
  unfold execOp
  simp only [resolve, invoke, builtin, Sem.run_bind, Sem.run_pure, Result.andThen_ok, List.map_toArray, List.map_cons, List.map_nil, ha.ev hx, ha.ev hy]
  rw [hr]
  rfl
end
theorem Own.atL {w : World} {lb : Nat} {T : TypeId} {A : Option Addr} {n c : Nat} {ls : List Lst} (h : Own w lb T 1 A n c (ls.map Lst.v)) {i : Nat} (hi : i < n) :
    ∃ p, A.map (·.add (i * 1)) = some p ∧ w.cell? p = some (.slice (ls.getD i Lst.z).A (ls.getD i Lst.z).n (ls.getD i Lst.z).c) := by
  have hl := h.rv.len
  rw [List.length_map, Nat.mul_one] at hl
  obtain ⟨a, rfl, hc⟩ := h.rv.get i (by omega)
  refine ⟨a.add i, by rw [Nat.mul_one]; rfl, ?_⟩
  rw [hc]
  simp [List.getD_eq_getElem?_getD, List.getElem?_map, List.getElem?_eq_getElem (show i < ls.length by omega), Lst.v]
end Go.Proofs.YtmjdmjflgiicaaaDoor
namespace Go.Proofs.YtmjdmjflgiicaaaDoor
open Go.RowKit
section
variable {w w' : World} {lb i g : Nat} {ls gs : List Lst} {T : TypeId} {us : List Value}
theorem Gr.updT {x y : Lst} (h : Gr w lb x y i) (hb : Bk w g T us) (hT : 48 ≠ T) (u : Upd g w w') : Gr w' lb x y i := ⟨h.ox.updT hb hT u, h.og.updT hb hT u, h.le, h.rel⟩
theorem Al2.updT (h : Al2 w lb ls gs) (hb : Bk w g T us) (hT : 48 ≠ T) (u : Upd g w w') : Al2 w' lb ls gs := ⟨h.len, h.dis, fun a ha => (h.gr a ha).updT hb hT u⟩
theorem UpU.upd_new {a b c : World} (h : UpU lb a b) (u : Upd g b c) (hg : a.heap.size ≤ g) (hlb : lb ≤ a.heap.size) : UpU lb a c :=
  ⟨u.by_.os.trans h.os, u.by_.tape.trans h.tape, u.by_.output.trans h.output, Nat.le_trans h.size u.size, fun k hk hs => (u.by_.block k (Nat.lt_of_lt_of_le hs h.size) (fun e => by injection e with e; omega)).trans (h.low k hk hs),
    fun k cs t fr ho h1 => by
      have hlt : k < a.heap.size := (Array.getElem?_eq_some_iff.1 ho).1
      exact u.heap (h.typ k cs t fr ho h1) (by omega)⟩
end
/-- what the lists must be before they are marked -/
def Al0 (w : World) (lb : Nat) (ls : List Lst) : Prop := Al1 w lb ls 0 0
theorem Al2.rd1 {w : World} {lb : Nat} {ls gs : List Lst} (h : Al2 w lb ls gs) {i : Nat} (hi : i < ls.length) (hn : ls.length ≤ 1048576) (hl : (ls.getD i Lst.z).n ≤ 1099511627776) : Rd w (ls.getD i Lst.z).A (ls.getD i Lst.z).n (ls.getD i Lst.z).c (marks i (ls.getD i Lst.z).n) := (h.gr i hi).ox.rd (fun x hx => by
  unfold marks at hx
  obtain ⟨j, hj, rfl⟩ := List.mem_map.1 hx
  have := List.mem_range.1 hj
  unfold sgm; rw [WB_def]; omega)
theorem Al2.rd2 {w : World} {lb : Nat} {ls gs : List Lst} (h : Al2 w lb ls gs) {i : Nat} (hi : i < ls.length) (hn : ls.length ≤ 1048576) (hl : (gs.getD i Lst.z).n ≤ 1099511627776) : Rd w (gs.getD i Lst.z).A (gs.getD i Lst.z).n (gs.getD i Lst.z).c (marks i (gs.getD i Lst.z).n) := (h.gr i hi).og.rd (fun x hx => by
  unfold marks at hx
  obtain ⟨j, hj, rfl⟩ := List.mem_map.1 hx
  have := List.mem_range.1 hj
  unfold sgm; rw [WB_def]; omega)
end Go.Proofs.YtmjdmjflgiicaaaDoor

namespace Go.Proofs.YtmjdmjflgiicaaaDoor
open Go.RowKit
theorem sgn_dv {c : Nat} (h : dv c < 36) (hn : ¬ (65 ≤ c ∧ c ≤ 90)) : sgn (dv c) = c := by
  unfold dv at h ⊢
  unfold sgn
  (repeat' split at h) <;> (repeat' split) <;> omega
theorem over_lt {rest base d : Nat} (h : rest < base) (hd : d < 65536) : (rest * 65536 + d) / base < 65536 := by
  rw [Nat.div_lt_iff_lt_mul (by omega)]
  have : (rest + 1) * 65536 ≤ base * 65536 := Nat.mul_le_mul_right _ h
  omega
theorem divmod_of {a b q r : Nat} (hb : 0 < b) (hr : r < b) (h : a = b * q + r) : a / b = q ∧ r = a % b := by
  subst h
  exact ⟨by rw [Nat.mul_add_div hb, Nat.div_eq_of_lt hr, Nat.add_zero], by rw [Nat.mul_add_mod, Nat.mod_eq_of_lt hr]⟩
set_option maxHeartbeats 4000000 in
theorem ref4_value {w : World} {c : Nat} (hc : c ≤ 255) :
    Calls Tryd.prog 97 #[.int .u8 ((c : Nat) : Int)] w (Gv w (Is (.int .i64 (if dv c < 36 then ((dv c : Nat) : Int) else 99)))) := by
  refine sx_enter Tryd.func97 rfl (n := 23) rfl (Nat.le_of_ble_eq_true rfl) (args := [.int .u8 ((c : Nat) : Int)]) ?_
  refine cw_keep [(0, .int .u8 ((c : Nat) : Int))] ⟨rfl, trivial⟩ ?_
  refine cw_seq ?_
  refine cw_region ?_
  refine wl_assign rfl rfl (by decide) ?_
  refine wl_nil ?_
  refine eo_then ?_
  refine cw_seq ?_
  refine cw_seq ?_
  by_cases ha65 : c ≥ 65
  ·
    by_cases hb90 : c ≤ 90
    ·
      refine cw_region ?_
      refine wl_move rfl rfl (by decide) ?_
      refine wl_cmp rfl rfl rfl true (cb_ge_t (a := c) (b := 65) rfl rfl (by omega)) (by decide) ?_
      refine wl_move rfl rfl (by decide) ?_
      refine wl_move rfl rfl (by decide) ?_
      refine wl_cmp rfl rfl rfl true (cb_le_t (a := c) (b := 90) rfl rfl (by omega)) (by decide) ?_
      refine wl_pure rfl rfl (v := .bool true) (by decide) (by kernel_rfl) ?_
      refine wl_nil ?_
      refine eo_then ?_
      refine cw_true rfl ?_
      refine cw_seq ?_
      refine cw_region ?_
      refine wl_move rfl rfl (by decide) ?_
      refine wl_ar rfl rfl rfl ((c - 65 : Nat) : Int) (a8_sub (a := c) (b := 65) rfl rfl (by omega) (by omega)) (by decide) ?_
      refine wl_pureE rfl rfl (v := .int .i64 (IntKind.i64.wrap ((c - 65 : Nat) : Int))) (v' := .int .i64 ((c - 65 : Nat) : Int)) (by decide) (by kernel_rfl) (cv_i64 (by first | omega | exact hle64)) ?_
      refine wl_ar rfl rfl rfl (((c - 65) + 10 : Nat) : Int) (ai_add (a := c - 65) (b := 10) rfl rfl (by omega)) (by decide) ?_
      refine wl_assign rfl rfl (by decide) ?_
      refine wl_nil ?_
      refine eo_then ?_
      refine cw_ret ?_
      refine eo_thenR ?_
      refine eo_ret [.int .i64 (((c - 65) + 10 : Nat) : Int)] rfl ⟨rfl, trivial⟩ ?_
      have hv : dv c = (c - 65) + 10 := by unfold dv; rw [if_neg (by omega), if_neg (by omega), if_pos (by omega)]; omega
      exact ⟨_, rfl, (show Value.int .i64 ((((c - 65) + 10 : Nat) : Int)) = _ by rw [hv, if_pos (by omega)]), (Ext.refl w)⟩
    ·
      refine cw_region ?_
      refine wl_move rfl rfl (by decide) ?_
      refine wl_cmp rfl rfl rfl true (cb_ge_t (a := c) (b := 65) rfl rfl (by omega)) (by decide) ?_
      refine wl_move rfl rfl (by decide) ?_
      refine wl_move rfl rfl (by decide) ?_
      refine wl_cmp rfl rfl rfl false (cb_le_f (a := c) (b := 90) rfl rfl (by omega)) (by decide) ?_
      refine wl_pure rfl rfl (v := .bool false) (by decide) (by kernel_rfl) ?_
      refine wl_nil ?_
      refine eo_then ?_
      refine cw_false rfl ?_
      refine cw_skip ?_
      refine eo_then ?_
      refine cw_seq ?_
      refine cw_seq ?_
      refine cw_region ?_
      refine wl_assign rfl rfl (by decide) ?_
      refine wl_nil ?_
      refine eo_then ?_
      refine cw_block ?_
      refine cw_loop (T := World × Nat)
        (fun ⟨wr, i⟩ => [(0, .int .u8 ((c : Nat) : Int)), (3, .int .i64 ((i : Nat) : Int))])
        (fun ⟨wr, i⟩ => wr)
        (fun ⟨wr, i⟩ => (Ext w wr) ∧ (i ≤ 36) ∧ (∀ j, j < i → sgn j ≠ c))
        (fun ⟨wr, i⟩ => 36 - i)
        (⟨w, 0⟩ : World × Nat) ⟨(Ext.refl w), (Nat.zero_le _), (fun j hj => absurd hj (Nat.not_lt_zero _))⟩ rfl ⟨rfl, rfl, trivial⟩ ?_
      rintro ⟨wr, i⟩ ⟨hw1, hi, hno⟩
      refine cw_re [(0, .int .u8 ((c : Nat) : Int)), (3, .int .i64 ((i : Nat) : Int))] wr rfl ⟨rfl, rfl, trivial⟩ ?_
      refine cw_seq ?_
      refine cw_seq ?_
      by_cases hi36 : i < 36
      ·
        refine cw_region ?_
        refine wl_move rfl rfl (by decide) ?_
        refine wl_cmp rfl rfl rfl true (cb_lt_t (a := i) (b := 36) rfl rfl (by omega)) (by decide) ?_
        refine wl_nil ?_
        refine eo_then ?_
        refine cw_true rfl ?_
        refine cw_skip ?_
        refine eo_then ?_
        refine cw_seq ?_
        refine cw_block ?_
        refine cw_seq ?_
        by_cases hne : ([48, 49, 50, 51, 52, 53, 54, 55, 56, 57, 97, 98, 99, 100, 101, 102, 103, 104, 105, 106, 107, 108, 109, 110, 111, 112, 113, 114, 115, 116, 117, 118, 119, 120, 121, 122]).getD i 0 = c
        ·
          refine cw_region ?_
          refine wl_move rfl rfl (by decide) ?_
          refine wl_strix (bs := [48, 49, 50, 51, 52, 53, 54, 55, 56, 57, 97, 98, 99, 100, 101, 102, 103, 104, 105, 106, 107, 108, 109, 110, 111, 112, 113, 114, 115, 116, 117, 118, 119, 120, 121, 122]) (i := i) rfl rfl rfl Tryd.underlying9 (by decide) (by omega) (by decide) ?_
          refine wl_move rfl rfl (by decide) ?_
          refine wl_cmp rfl rfl rfl true (cb_eq_t (a := ([48, 49, 50, 51, 52, 53, 54, 55, 56, 57, 97, 98, 99, 100, 101, 102, 103, 104, 105, 106, 107, 108, 109, 110, 111, 112, 113, 114, 115, 116, 117, 118, 119, 120, 121, 122]).getD i 0) (b := c) rfl rfl (by omega)) (by decide) ?_
          refine wl_nil ?_
          refine eo_then ?_
          refine cw_true rfl ?_
          refine cw_seq ?_
          refine cw_region ?_
          refine wl_move rfl rfl (by decide) ?_
          refine wl_assign rfl rfl (by decide) ?_
          refine wl_nil ?_
          refine eo_then ?_
          refine cw_ret ?_
          refine eo_block_ret ?_
          refine eo_thenR ?_
          refine eo_loopR ?_
          refine eo_block_ret ?_
          refine eo_thenR ?_
          refine eo_ret [.int .i64 ((i : Nat) : Int)] rfl ⟨rfl, trivial⟩ ?_
          have hv : dv c = i := by rw [← hne]; exact (congrArg dv (sgns_get hi36)).trans (dv_sgn hi36)
          exact ⟨_, rfl, (show Value.int .i64 ((i : Nat) : Int) = _ by rw [hv, if_pos hi36]), hw1⟩
        ·
          refine cw_region ?_
          refine wl_move rfl rfl (by decide) ?_
          refine wl_strix (bs := [48, 49, 50, 51, 52, 53, 54, 55, 56, 57, 97, 98, 99, 100, 101, 102, 103, 104, 105, 106, 107, 108, 109, 110, 111, 112, 113, 114, 115, 116, 117, 118, 119, 120, 121, 122]) (i := i) rfl rfl rfl Tryd.underlying9 (by decide) (by omega) (by decide) ?_
          refine wl_move rfl rfl (by decide) ?_
          refine wl_cmp rfl rfl rfl false (cb_eq_f (a := ([48, 49, 50, 51, 52, 53, 54, 55, 56, 57, 97, 98, 99, 100, 101, 102, 103, 104, 105, 106, 107, 108, 109, 110, 111, 112, 113, 114, 115, 116, 117, 118, 119, 120, 121, 122]).getD i 0) (b := c) rfl rfl (by omega)) (by decide) ?_
          refine wl_nil ?_
          refine eo_then ?_
          refine cw_false rfl ?_
          refine cw_skip ?_
          refine eo_block_normal ?_
          refine eo_then ?_
          refine cw_region ?_
          refine wl_move rfl rfl (by decide) ?_
          refine wl_ar rfl rfl rfl ((i + 1 : Nat) : Int) (ai_add (a := i) (b := 1) rfl rfl (by omega)) (by decide) ?_
          refine wl_assign rfl rfl (by decide) ?_
          refine wl_nil ?_
          refine eo_round (⟨wr, i + 1⟩ : World × Nat) ⟨hw1, (by omega), (fun j hj => by by_cases h : j = i; (· subst h; rw [← sgns_get hi36]; exact hne); (· exact hno j (by omega)))⟩ (show 36 - (i + 1) < 36 - i by omega) rfl ⟨rfl, rfl, trivial⟩
      ·
        refine cw_region ?_
        refine wl_move rfl rfl (by decide) ?_
        refine wl_cmp rfl rfl rfl false (cb_lt_f (a := i) (b := 36) rfl rfl (by omega)) (by decide) ?_
        refine wl_nil ?_
        refine eo_then ?_
        refine cw_false rfl ?_
        refine cw_exit ?_
        refine eo_thenX ?_
        refine eo_loopX ?_
        refine eo_block_here ?_
        refine eo_then ?_
        refine cw_seq ?_
        refine cw_region ?_
        refine wl_assign rfl rfl (by decide) ?_
        refine wl_nil ?_
        refine eo_then ?_
        refine cw_ret ?_
        refine eo_ret [.int .i64 99] rfl ⟨rfl, trivial⟩ ?_
        have hv : ¬ dv c < 36 := fun h => hno (dv c) (by omega) (sgn_dv h (by omega))
        exact ⟨_, rfl, (show Value.int .i64 (99 : Int) = _ by rw [if_neg hv]), hw1⟩
  ·
    refine cw_region ?_
    refine wl_move rfl rfl (by decide) ?_
    refine wl_cmp rfl rfl rfl false (cb_ge_f (a := c) (b := 65) rfl rfl (by omega)) (by decide) ?_
    refine wl_move rfl rfl (by decide) ?_
    refine wl_off rfl (by decide) ?_
    refine wl_off rfl (by decide) ?_
    refine wl_pure rfl rfl (v := .bool false) (by decide) (by kernel_rfl) ?_
    refine wl_nil ?_
    refine eo_then ?_
    refine cw_false rfl ?_
    refine cw_skip ?_
    refine eo_then ?_
    refine cw_seq ?_
    refine cw_seq ?_
    refine cw_region ?_
    refine wl_assign rfl rfl (by decide) ?_
    refine wl_nil ?_
    refine eo_then ?_
    refine cw_block ?_
    refine cw_loop (T := World × Nat)
      (fun ⟨wr, i⟩ => [(0, .int .u8 ((c : Nat) : Int)), (3, .int .i64 ((i : Nat) : Int))])
      (fun ⟨wr, i⟩ => wr)
      (fun ⟨wr, i⟩ => (Ext w wr) ∧ (i ≤ 36) ∧ (∀ j, j < i → sgn j ≠ c))
      (fun ⟨wr, i⟩ => 36 - i)
      (⟨w, 0⟩ : World × Nat) ⟨(Ext.refl w), (Nat.zero_le _), (fun j hj => absurd hj (Nat.not_lt_zero _))⟩ rfl ⟨rfl, rfl, trivial⟩ ?_
    rintro ⟨wr, i⟩ ⟨hw1, hi, hno⟩
    refine cw_re [(0, .int .u8 ((c : Nat) : Int)), (3, .int .i64 ((i : Nat) : Int))] wr rfl ⟨rfl, rfl, trivial⟩ ?_
    refine cw_seq ?_
    refine cw_seq ?_
    by_cases hi36 : i < 36
    ·
      refine cw_region ?_
      refine wl_move rfl rfl (by decide) ?_
      refine wl_cmp rfl rfl rfl true (cb_lt_t (a := i) (b := 36) rfl rfl (by omega)) (by decide) ?_
      refine wl_nil ?_
      refine eo_then ?_
      refine cw_true rfl ?_
      refine cw_skip ?_
      refine eo_then ?_
      refine cw_seq ?_
      refine cw_block ?_
      refine cw_seq ?_
      by_cases hne : ([48, 49, 50, 51, 52, 53, 54, 55, 56, 57, 97, 98, 99, 100, 101, 102, 103, 104, 105, 106, 107, 108, 109, 110, 111, 112, 113, 114, 115, 116, 117, 118, 119, 120, 121, 122]).getD i 0 = c
      ·
        refine cw_region ?_
        refine wl_move rfl rfl (by decide) ?_
        refine wl_strix (bs := [48, 49, 50, 51, 52, 53, 54, 55, 56, 57, 97, 98, 99, 100, 101, 102, 103, 104, 105, 106, 107, 108, 109, 110, 111, 112, 113, 114, 115, 116, 117, 118, 119, 120, 121, 122]) (i := i) rfl rfl rfl Tryd.underlying9 (by decide) (by omega) (by decide) ?_
        refine wl_move rfl rfl (by decide) ?_
        refine wl_cmp rfl rfl rfl true (cb_eq_t (a := ([48, 49, 50, 51, 52, 53, 54, 55, 56, 57, 97, 98, 99, 100, 101, 102, 103, 104, 105, 106, 107, 108, 109, 110, 111, 112, 113, 114, 115, 116, 117, 118, 119, 120, 121, 122]).getD i 0) (b := c) rfl rfl (by omega)) (by decide) ?_
        refine wl_nil ?_
        refine eo_then ?_
        refine cw_true rfl ?_
        refine cw_seq ?_
        refine cw_region ?_
        refine wl_move rfl rfl (by decide) ?_
        refine wl_assign rfl rfl (by decide) ?_
        refine wl_nil ?_
        refine eo_then ?_
        refine cw_ret ?_
        refine eo_block_ret ?_
        refine eo_thenR ?_
        refine eo_loopR ?_
        refine eo_block_ret ?_
        refine eo_thenR ?_
        refine eo_ret [.int .i64 ((i : Nat) : Int)] rfl ⟨rfl, trivial⟩ ?_
        have hv : dv c = i := by rw [← hne]; exact (congrArg dv (sgns_get hi36)).trans (dv_sgn hi36)
        exact ⟨_, rfl, (show Value.int .i64 ((i : Nat) : Int) = _ by rw [hv, if_pos hi36]), hw1⟩
      ·
        refine cw_region ?_
        refine wl_move rfl rfl (by decide) ?_
        refine wl_strix (bs := [48, 49, 50, 51, 52, 53, 54, 55, 56, 57, 97, 98, 99, 100, 101, 102, 103, 104, 105, 106, 107, 108, 109, 110, 111, 112, 113, 114, 115, 116, 117, 118, 119, 120, 121, 122]) (i := i) rfl rfl rfl Tryd.underlying9 (by decide) (by omega) (by decide) ?_
        refine wl_move rfl rfl (by decide) ?_
        refine wl_cmp rfl rfl rfl false (cb_eq_f (a := ([48, 49, 50, 51, 52, 53, 54, 55, 56, 57, 97, 98, 99, 100, 101, 102, 103, 104, 105, 106, 107, 108, 109, 110, 111, 112, 113, 114, 115, 116, 117, 118, 119, 120, 121, 122]).getD i 0) (b := c) rfl rfl (by omega)) (by decide) ?_
        refine wl_nil ?_
        refine eo_then ?_
        refine cw_false rfl ?_
        refine cw_skip ?_
        refine eo_block_normal ?_
        refine eo_then ?_
        refine cw_region ?_
        refine wl_move rfl rfl (by decide) ?_
        refine wl_ar rfl rfl rfl ((i + 1 : Nat) : Int) (ai_add (a := i) (b := 1) rfl rfl (by omega)) (by decide) ?_
        refine wl_assign rfl rfl (by decide) ?_
        refine wl_nil ?_
        refine eo_round (⟨wr, i + 1⟩ : World × Nat) ⟨hw1, (by omega), (fun j hj => by by_cases h : j = i; (· subst h; rw [← sgns_get hi36]; exact hne); (· exact hno j (by omega)))⟩ (show 36 - (i + 1) < 36 - i by omega) rfl ⟨rfl, rfl, trivial⟩
    ·
      refine cw_region ?_
      refine wl_move rfl rfl (by decide) ?_
      refine wl_cmp rfl rfl rfl false (cb_lt_f (a := i) (b := 36) rfl rfl (by omega)) (by decide) ?_
      refine wl_nil ?_
      refine eo_then ?_
      refine cw_false rfl ?_
      refine cw_exit ?_
      refine eo_thenX ?_
      refine eo_loopX ?_
      refine eo_block_here ?_
      refine eo_then ?_
      refine cw_seq ?_
      refine cw_region ?_
      refine wl_assign rfl rfl (by decide) ?_
      refine wl_nil ?_
      refine eo_then ?_
      refine cw_ret ?_
      refine eo_ret [.int .i64 99] rfl ⟨rfl, trivial⟩ ?_
      have hv : ¬ dv c < 36 := fun h => hno (dv c) (by omega) (sgn_dv h (by omega))
      exact ⟨_, rfl, (show Value.int .i64 (99 : Int) = _ by rw [if_neg hv]), hw1⟩
set_option maxHeartbeats 4000000 in
theorem ref4_over {w : World} {lb : Nat} {A : Option Addr} {n c base : Nat} {ds : List Nat} (ho : Own w lb 3 1 A n c (ds.map I6)) (hwf : Wfb 65536 ds) (hbl : 2 ≤ base) (hbu : base ≤ 36) (hn : n ≤ 1099511627776) :
    Calls Tryd.prog 103 #[.slice A n c, .int .i64 ((base : Nat) : Int)] w (fun e w' => ∃ es : List Nat, e = .returned (.int .i64 ((nb 65536 ds % base : Nat) : Int)) ∧ Own w' lb 3 1 A n c (es.map I6) ∧ es.length = n ∧ Wfb 65536 es ∧ nb 65536 es = nb 65536 ds / base ∧ UpdO A w w') := by
  have hdl := own_len1 ho
  refine sx_enter Tryd.func103 rfl (n := 32) rfl (Nat.le_of_ble_eq_true rfl) (args := [.slice A n c, .int .i64 ((base : Nat) : Int)]) ?_
  refine cw_keep [(0, .slice A n c), (1, .int .i64 ((base : Nat) : Int))] ⟨rfl, rfl, trivial⟩ ?_
  refine cw_seq ?_
  refine cw_region ?_
  refine wl_assign rfl rfl (by decide) ?_
  refine wl_nil ?_
  refine eo_then ?_
  refine cw_seq ?_
  refine cw_region ?_
  refine wl_assign rfl rfl (by decide) ?_
  refine wl_nil ?_
  refine eo_then ?_
  refine cw_seq ?_
  refine cw_seq ?_
  refine cw_region ?_
  refine wl_move rfl rfl (by decide) ?_
  refine wl_pure rfl rfl (v := .int .i64 ((n : Nat) : Int)) (by decide) (by kernel_rfl) ?_
  refine wl_ar rfl rfl rfl (((n : Nat) : Int) - 1) (ar_i64s rfl (by omega) (by omega)) (by decide) ?_
  refine wl_assign rfl rfl (by decide) ?_
  refine wl_nil ?_
  refine eo_then ?_
  refine cw_block ?_
  refine cw_loop (T := World × Nat × Nat × List Nat)
    (fun ⟨wr, j, rest, l⟩ => [(0, .slice A n c), (1, .int .i64 ((base : Nat) : Int)), (5, .int .i64 ((rest : Nat) : Int)), (6, .int .i64 (((j : Nat) : Int) - 1))])
    (fun ⟨wr, j, rest, l⟩ => wr)
    (fun ⟨wr, j, rest, l⟩ => (UpdO A w wr) ∧ (j ≤ n) ∧ (Own wr lb 3 1 A n c (l.map I6)) ∧ (l.length = n) ∧ (Wfb 65536 l) ∧ (l.take j = ds.take j) ∧ (rest < base) ∧ (nb 65536 (ds.drop j) = base * nb 65536 (l.drop j) + rest))
    (fun ⟨wr, j, rest, l⟩ => j)
    (⟨w, n, 0, ds⟩ : World × Nat × Nat × List Nat) ⟨(UpdO.refl A w), (Nat.le_refl _), ho, (own_len1 ho), hwf, rfl, (by omega), (by rw [List.drop_of_length_le (by have := own_len1 ho; omega)]; rfl)⟩ rfl ⟨rfl, rfl, rfl, rfl, trivial⟩ ?_
  rintro ⟨wr, j, rest, l⟩ ⟨hw1, hj, hO, hll, hwl, htk, hre, hv⟩
  refine cw_re [(0, .slice A n c), (1, .int .i64 ((base : Nat) : Int)), (5, .int .i64 ((rest : Nat) : Int)), (6, .int .i64 (((j : Nat) : Int) - 1))] wr rfl ⟨rfl, rfl, rfl, rfl, trivial⟩ ?_
  refine cw_seq ?_
  refine cw_seq ?_
  by_cases hj0 : 0 < j
  ·
    have hj1 : ((j : Nat) : Int) - 1 = ((j - 1 : Nat) : Int) := by omega
    refine cw_keep [(0, .slice A n c), (1, .int .i64 ((base : Nat) : Int)), (5, .int .i64 ((rest : Nat) : Int)), (6, .int .i64 (((j : Nat) : Int) - 1))] ⟨rfl, rfl, rfl, rfl, trivial⟩ ?_
    rw [hj1]
    refine cw_region ?_
    refine wl_move rfl rfl (by decide) ?_
    refine wl_cmp rfl rfl rfl true (cb_ge_t (a := j - 1) (b := 0) rfl rfl (by omega)) (by decide) ?_
    refine wl_nil ?_
    refine eo_then ?_
    refine cw_true rfl ?_
    refine cw_skip ?_
    refine eo_then ?_
    refine cw_seq ?_
    refine cw_block ?_
    refine cw_seq ?_
    have hdb := Wfb_getD (b := 65536) (by decide) hwl (j - 1)
    refine cw_region ?_
    refine wl_move rfl rfl (by decide) ?_
    refine wl_ar rfl rfl rfl ((rest * 65536 : Nat) : Int) (ai_mul (a := rest) (b := 65536) rfl rfl (by omega)) (by decide) ?_
    refine wl_move rfl rfl (by decide) ?_
    refine wl_move rfl rfl (by decide) ?_
    obtain ⟨p1, hp1, hc1⟩ := (hO).at1 (i := j - 1) (by omega)
    refine wl_idx rfl rfl rfl un_int4 sz_int4 (j - 1) rfl (by omega) p1 hp1 (by decide) ?_
    refine wl_load rfl rfl (load_cell1 ag_int2 hc1) (by decide) ?_
    refine wl_ar rfl rfl rfl (((rest * 65536) + (l.getD (j - 1) 0) : Nat) : Int) (ai_add (a := rest * 65536) (b := l.getD (j - 1) 0) rfl rfl (by omega)) (by decide) ?_
    refine wl_assign rfl rfl (by decide) ?_
    refine wl_nil ?_
    refine eo_then ?_
    refine cw_seq ?_
    refine cw_region ?_
    refine wl_move rfl rfl (by decide) ?_
    refine wl_move rfl rfl (by decide) ?_
    refine wl_move rfl rfl (by decide) ?_
    refine wl_move rfl rfl (by decide) ?_
    refine wl_ar rfl rfl rfl ((((rest * 65536) + (l.getD (j - 1) 0)) / base : Nat) : Int) (ai_quo (a := (rest * 65536) + (l.getD (j - 1) 0)) (b := base) rfl rfl (by omega) (by omega)) (by decide) ?_
    obtain ⟨p2, hp2, hc2⟩ := (hO).at1 (i := j - 1) (by omega)
    refine wl_idx rfl rfl rfl un_int4 sz_int4 (j - 1) rfl (by omega) p2 hp2 (by decide) ?_
    have ow3 := hO
    refine wl_setO (f := I6) (u := ((rest * 65536) + (l.getD (j - 1) 0)) / base) (i := j - 1) rfl rfl rfl hp2 ow3 (by omega) rfl rfl sz_int4 fun v4 ho5 uo6 => ?_
    have hw2 : UpdO A w v4 := hw1.trans uo6
    refine wl_nil ?_
    refine eo_then ?_
    refine cw_region ?_
    refine wl_move rfl rfl (by decide) ?_
    refine wl_move rfl rfl (by decide) ?_
    refine wl_ar rfl rfl rfl ((((rest * 65536) + (l.getD (j - 1) 0)) % base : Nat) : Int) (au_rem (a := (rest * 65536) + (l.getD (j - 1) 0)) (b := base) rfl rfl (by omega)) (by decide) ?_
    refine wl_assign rfl rfl (by decide) ?_
    refine wl_nil ?_
    refine eo_block_normal ?_
    refine eo_then ?_
    refine cw_region ?_
    refine wl_move rfl rfl (by decide) ?_
    refine wl_ar rfl rfl rfl (((j - 1 : Nat) : Int) - 1) (ar_i64s rfl (by omega) (by omega)) (by decide) ?_
    refine wl_assign rfl rfl (by decide) ?_
    refine wl_nil ?_
    refine eo_round (⟨v4, j - 1, (rest * 65536 + l.getD (j - 1) 0) % base, l.set (j - 1) (((rest * 65536) + (l.getD (j - 1) 0)) / base)⟩ : World × Nat × Nat × List Nat) ⟨hw2, (by omega), ho5, (by rw [List.length_set]; exact hll), (Wfb_set hwl _ (over_lt hre (Wfb_getD (by decide) hwl _))), (by rw [List.take_set_of_le (Nat.le_refl _)]; have h := congrArg (List.take (j - 1)) htk; rwa [List.take_take, List.take_take, Nat.min_eq_left (by omega)] at h), (Nat.mod_lt _ (by omega)), (over_step (by omega) hj0 (by omega) (by omega) htk hv)⟩ (show j - 1 < j by omega) rfl ⟨rfl, rfl, rfl, rfl, trivial⟩
  ·
    refine cw_region ?_
    refine wl_move rfl rfl (by decide) ?_
    refine wl_cmp rfl rfl rfl false (ge_f (by omega)) (by decide) ?_
    refine wl_nil ?_
    refine eo_then ?_
    refine cw_false rfl ?_
    refine cw_exit ?_
    refine eo_thenX ?_
    refine eo_loopX ?_
    refine eo_block_here ?_
    refine eo_then ?_
    refine cw_seq ?_
    refine cw_region ?_
    refine wl_move rfl rfl (by decide) ?_
    refine wl_assign rfl rfl (by decide) ?_
    refine wl_nil ?_
    refine eo_then ?_
    refine cw_ret ?_
    refine eo_ret [.int .i64 ((rest : Nat) : Int)] rfl ⟨rfl, trivial⟩ ?_
    have hj : j = 0 := by omega
    subst hj
    rw [List.drop_zero, List.drop_zero] at hv
    obtain ⟨h1, h2⟩ := divmod_of (by omega) hre hv
    exact ⟨l, (by rw [← h2]; rfl), hO, hll, hwl, h1.symm, hw1⟩
end Go.Proofs.YtmjdmjflgiicaaaDoor
