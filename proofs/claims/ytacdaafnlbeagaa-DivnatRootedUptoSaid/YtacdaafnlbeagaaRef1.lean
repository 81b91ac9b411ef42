/- Contracts of package trellisref01 (digits to the base 65536): Split, Join and what is made of them. -/
import Derived.Test.YtacdaafnlbeagaaNatB
import Derived.Test.YtacdaafnlbeagaaRadix
namespace Go.Proofs.Ytacdaafnlbeagaa
open Go.RowKit

theorem infoInt : (Try.prog.info? 3).map (fun i => (i.zero, i.size, i.bytes)) = some (some (.int .i64 0), 1, 8) := by kernel_rfl
abbrev I6 (x : Nat) : Value := .int .i64 (x : Int)
theorem I6_oneCell (xs : List Nat) : ∀ v ∈ xs.map I6, v.oneCell' = true := by
  intro v hv
  obtain ⟨x, _, rfl⟩ := List.mem_map.1 hv
  rfl
theorem map_I6_set (xs : List Nat) (i x : Nat) : (xs.map I6).set i (.int .i64 (x : Int)) = (xs.set i x).map I6 := by rw [List.map_set]
theorem replicate_I6 (n : Nat) : List.replicate n (Value.int .i64 0) = (List.replicate n 0).map I6 := by rw [List.map_replicate]; rfl

/-- a slice of digits, each below b, as ints -/
structure Ri (b : Nat) (w : World) (A : Option Addr) (n cap : Nat) (ds : List Nat) : Prop where
  rv : Rv w 1 A n cap (ds.map I6)
  wf : Wfb b ds
theorem Ri.ext {b : Nat} {w w' : World} {A : Option Addr} {n cap : Nat} {xs : List Nat} (h : Ri b w A n cap xs) (e : Ext w w') : Ri b w' A n cap xs := ⟨h.rv.ext e, h.wf⟩
theorem Ri.len {b : Nat} {w : World} {A : Option Addr} {n cap : Nat} {xs : List Nat} (h : Ri b w A n cap xs) : xs.length = n := by simpa using h.rv.len
theorem Ri.get {b : Nat} (hb : 0 < b) {w : World} {A : Option Addr} {n cap : Nat} {xs : List Nat} (h : Ri b w A n cap xs) {i : Nat} (hi : i < n) :
    ∃ a x, A = some a ∧ Hid (xs.getD i 0 = x) ∧ x < b ∧ w.cell? (a.add i) = some (.int .i64 (x : Int)) := by
  obtain ⟨a, ha, hc⟩ := h.rv.get i (by omega)
  have hl : i < xs.length := by rw [h.len]; exact hi
  refine ⟨a, _, ha, rfl, Wfb_getD hb h.wf i, ?_⟩
  rw [hc]
  simp [List.getD_eq_getElem?_getD, List.getElem?_map, List.getElem?_eq_getElem hl]
theorem Bk.digit {b : Nat} (hb : 0 < b) {w : World} {g : Nat} {t : TypeId} {xs : List Nat} (h : Bk w g t (xs.map I6)) (hw : Wfb b xs) {i : Nat} (hi : i < xs.length) :
    ∃ x, Hid (xs.getD i 0 = x) ∧ x < b ∧ w.cell? ⟨g, i, none⟩ = some (.int .i64 (x : Int)) := by
  refine ⟨_, rfl, Wfb_getD hb hw i, ?_⟩
  rw [h.cell (by simpa using hi)]
  simp [List.getD_eq_getElem?_getD, List.getElem?_map, List.getElem?_eq_getElem hi]
theorem Bk.ri {b : Nat} {w : World} {g : Nat} {t : TypeId} {xs : List Nat} (h : Bk w g t (xs.map I6)) (hw : Wfb b xs) {o n cap : Nat} (hn : n ≤ cap) (hc : o + cap ≤ xs.length) (hm : cap ≤ maxLen) : Ri b w (some ⟨g, o, none⟩) n cap ((xs.drop o).take n) := by
  refine ⟨?_, Wfb_take (Wfb_drop hw _) _⟩
  rw [List.map_take, List.map_drop]
  exact h.rv hn (by simpa using hc) hm
theorem Rv.take {w : World} {s : Nat} {A : Option Addr} {n cap : Nat} {vs : List Value} (h : Rv w s A n cap vs) {k m : Nat} (hk : k ≤ n) (hm : k ≤ m) (hc : m ≤ cap) : Rv w s A k m (vs.take (k * s)) := by
  have := h.cut (l := 0) (Nat.zero_le _) hk hm hc
  simp only [Nat.sub_zero, Nat.zero_mul, List.drop_zero] at this
  have e : (if m = 0 then A else A.map (·.add 0)) = A := by
    have h0 : ∀ a : Addr, a.add 0 = a := fun a => by simp [Addr.add]
    split
    · rfl
    · cases A <;> simp [h0]
  rwa [e] at this
theorem Own.take {w : World} {base : Nat} {t : TypeId} {s : Nat} {A : Option Addr} {n cap : Nat} {vs : List Value} (h : Own w base t s A n cap vs) {k : Nat} (hk : k ≤ n) : Own w base t s A k cap (vs.take (k * s)) := by
  rcases h with ⟨rfl, rfl, rfl, rfl⟩ | ⟨g, cs, rfl, hb, hbk, hn, hm, hl, rfl⟩
  · exact Or.inl ⟨rfl, by omega, rfl, by simp⟩
  · refine Or.inr ⟨g, cs, rfl, hb, hbk, by omega, hm, hl, ?_⟩
    rw [List.take_take, Nat.min_eq_left (Nat.mul_le_mul_right s hk)]

/-- the answer is the digits of m to the base 65536, in memory of its own -/
def RetI (w : World) (m : Nat) (e : Ending) (w' : World) : Prop :=
  ∃ A n cap, e = .returned (.slice A n cap) ∧ Hid (n = (db 65536 m).length) ∧ Ri 65536 w' A n cap (db 65536 m) ∧ Own w' w.heap.size 3 1 A n cap ((db 65536 m).map I6) ∧ Ext w w'
theorem b16 : 2 ≤ 65536 := by decide
theorem WB_16 : WB = 65536 ^ 4 := by decide

def TrimP (A : Option Addr) (n cap : Nat) (m : Nat) (w : World) (e : Ending) (w' : World) : Prop :=
  ∃ k : Nat, Hid (k = (db 65536 m).length) ∧ k ≤ n ∧ e = .returned (.slice A k cap) ∧ w = w'

theorem map_add_zero (A : Option Addr) : A.map (·.add 0) = A := by
  have h0 : ∀ a : Addr, a.add 0 = a := fun a => by simp [Addr.add]
  cases A <;> simp [h0]

theorem ref1_trim {w : World} {A : Option Addr} {n cap : Nat} {ds : List Nat} (hx : Ri 65536 w A n cap ds) (hl : n ≤ 1099511627776) :
    Calls Try.prog 55 #[.slice A n cap] w (TrimP A n cap (nb 65536 ds) w) := by
  have hlen := Lib.hid hx.len
  have hcap := hx.rv.le
  go_enter Try.func55, Try.ntmps55
  go_wp2_with fail
  go_loop [3] (fun u => ∃ k : Nat, k ≤ n ∧ u = .int .i64 (k : Int) ∧ nb 65536 (ds.take k) = nb 65536 ds) (fun u => (intOf u).toNat)
  case atStart => exact ⟨n, Nat.le_refl _, rfl, by rw [← hlen.out, List.take_length]⟩
  case round =>
    obtain ⟨k, hk, rfl, hv⟩ := hrel
    have HV := Lib.hid hv
    clear hv
    by_cases h0 : 0 < k
    · obtain ⟨a, x, rfl, hxk, hxb, hc⟩ := hx.get (by omega) (i := k - 1) (by omega)
      by_cases hz : x = 0
      · subst hz
        go_wp2_with fail
        go_round
        case rel =>
          refine ⟨k - 1, by omega, by congr 1; omega, ?_⟩
          rw [← HV.out, ← nb_take_zero 65536 ds (k - 1) (by rw [hlen.out]; omega) hxk.out, Nat.sub_add_cancel h0]
        case measure => simp [intOf]; omega
      · have hzb : ((x : Int) == 0) = false := by simp; omega
        go_wp2_with fail
        go_ret
        refine ⟨k, ?_, hk, ?_, rfl⟩
        · have := db_take b16 (k := k) hx.wf (by rw [hlen.out]; exact hk) HV.out (Or.inr (by rw [hxk.out]; exact hz))
          show k = _
          rw [this, List.length_take, hlen.out]; omega
        · rfl
    · go_wp2_with fail
      go_ret
      refine ⟨k, ?_, hk, ?_, rfl⟩
      · have := db_take b16 (k := k) hx.wf (by rw [hlen.out]; exact hk) HV.out (Or.inl (by omega))
        show k = _
        rw [this, List.length_take, hlen.out]; omega
      · rfl

theorem split_step {ds : List Nat} {n x w : Nat} (hl : ds.length = n) (h : nb 65536 ds + 65536 ^ n * w = x) : nb 65536 (ds ++ [w % 65536]) + 65536 ^ (n + 1) * (w / 65536) = x := by
  rw [nb_snoc, hl, Nat.pow_succ, Nat.mul_assoc, Nat.add_assoc, ← Nat.mul_add, Nat.mod_add_div]
  exact h
theorem ref1_Split {w : World} {A : Option Addr} {n cap : Nat} {xs : List Nat} (hx : Rd w A n cap xs) (hl : n ≤ 274877906943) :
    Calls Try.prog 32 #[.slice A n cap] w (RetI w (nv xs)) := by
  have hlx := Lib.hid hx.len
  have hmk := run_make0 (P := Try.prog) Try.underlying56 infoInt rfl (by decide) (4 * (n : Int)) (by omega) (by omega)
  have et : (4 * (n : Int)).toNat = 4 * n := by omega
  rw [et] at hmk
  clear et
  go_enter Try.func32, Try.ntmps32
  go_wp2_with fail
  clear hmk
  obtain ⟨g, hg⟩ : ∃ g, w.heap.size = g := ⟨_, rfl⟩
  rw [hg]
  obtain ⟨wa, hwa⟩ : ∃ wa, w.alloc (.cells (zc (.int .i64 0) (4 * n)) 3) = wa := ⟨_, rfl⟩
  rw [hwa]
  have hoa : Own wa w.heap.size 3 1 (some ⟨g, 0, none⟩) 0 (4 * n) (([] : List Nat).map I6) := by
    rw [← hwa, ← hg]
    exact Own.mk_ (cs := List.replicate (4 * n) (.int .i64 0)) (Nat.le_refl _) (Bk.new' _ _ _) (by omega) (by rw [len_maxLen]; omega) (by simp) (by simp)
  have hea : Ext w wa := by rw [← hwa]; exact (Ext.refl w).alloc _
  clear hg hwa
  go_loopw [4, 3] (fun u v wr => ∃ (i : Nat) (A' : Option Addr) (c' : Nat) (ds : List Nat), i ≤ n ∧ u = .int .i64 (i : Int) ∧ v = .slice A' (4 * i) c' ∧ Own wr w.heap.size 3 1 A' (4 * i) c' (ds.map I6) ∧ Wfb 65536 ds ∧
    Hid (ds.length = 4 * i) ∧ Hid (nb 65536 ds = nv (xs.take i)) ∧ Ext w wr) (fun u v wr => n - (intOf u).toNat)
  case atStart => exact ⟨0, _, _, [], Nat.zero_le _, rfl, rfl, hoa, Wfb_nil _, rfl, rfl, hea⟩
  case round =>
    obtain ⟨i, A', c', ds, hi, rfl, rfl, ho, hw, hdl, hv, hr⟩ := hrel
    clear hoa hea
    by_cases him : i < n
    · obtain ⟨a, x, rfl, hxk, hxb, hcx⟩ := (hx.ext hr).get (i := i) (by omega)
      go_wp2_with fail
      obtain ⟨wo, rfl⟩ : ∃ wo : World, wo = wr := ⟨_, rfl⟩
      go_loopw [6, 3, 5] (fun u v y wr => ∃ (k : Nat) (A' : Option Addr) (c' : Nat) (ds : List Nat) (q : Nat), k ≤ 4 ∧ u = .int .i64 (k : Int) ∧ v = .slice A' (4 * i + k) c' ∧ y = .int .u64 (q : Int) ∧ q ≤ 18446744073709551615 ∧ Own wr w.heap.size 3 1 A' (4 * i + k) c' (ds.map I6) ∧ Wfb 65536 ds ∧
        Hid (ds.length = 4 * i + k) ∧ Hid (nb 65536 ds + 65536 ^ (4 * i + k) * q = nv (xs.take (i + 1))) ∧ Hid (q * 65536 ^ k < WB) ∧ Ext w wr) (fun u v y wr => 4 - (intOf u).toNat)
      case atStart =>
        refine ⟨0, _, _, ds, x, Nat.zero_le _, rfl, rfl, rfl, hxb, ho, hw, hdl, ?_, ?_, hr⟩
        · show _ = _
          rw [hv.out, nv_take_snoc xs i (by rw [hlx.out]; omega), hxk.out, WB_16, ← Nat.pow_mul]; rfl
        · show _ < _
          rw [WB_def]; omega
      case round =>
        obtain ⟨k, A2, c2, es, q, hk, rfl, rfl, rfl, hqb, ho2, hw2, hel, hev, hq, hr2⟩ := hrel
        clear ho hw hdl hv
        by_cases hk4 : k < 4
        · have r1 : (4 * i + k + 1) * 8 ≤ 140737488355328 := by omega
          go_wp2_with ((with_reducible refine at_slot (some 30) ?_); refine wpc_append rfl (.tmp 25) (.tmp 29) 56 rfl rfl rfl Try.underlying56 infoInt rfl (by decide) (ho2.ext ((Ext.refl _).alloc _)) (Rv.one _ _ _) (by simp [Value.oneCell']) r1 (by rw [len_maxLen]; omega) (by have := hr2.size; simp; omega) ?_; intro A3 c3 w3 ho3 hu3 _)
          have he3 : Ext w w3 := hu3.ext (hr2.alloc _) (fun p hp => (ho2.block p hp).1)
          go_roundw
          case rel =>
            refine ⟨k + 1, A3, c3, es ++ [q % 65536], q / 65536, by omega, by go_num, rfl, by go_num, by omega, ?_, Wfb_append hw2 (Wfb_one (by omega)), ?_, split_step hel.out hev.out, ?_, he3⟩
            · have : (es ++ [q % 65536]).map I6 = es.map I6 ++ [.int .i64 ((q : Int) % 65536)] := by simp
              rw [this]; exact ho3
            · show _ = _
              rw [List.length_append, hel.out]; rfl
            · show _ < _
              have h2 : q / 65536 * 65536 ≤ q := Nat.div_mul_le_self q 65536
              calc q / 65536 * 65536 ^ (k + 1) = (q / 65536 * 65536) * 65536 ^ k := by rw [Nat.pow_succ, Nat.mul_comm (65536 ^ k), Nat.mul_assoc]
                _ ≤ q * 65536 ^ k := Nat.mul_le_mul_right _ h2
                _ < WB := hq.out
          case measure => simp [intOf]; omega
        · obtain rfl : k = 4 := by omega
          have hq0 : q = 0 := by
            have h := hq.out
            rw [WB_def] at h
            omega
          go_wp2_with fail
          go_roundw
          case rel =>
            refine ⟨i + 1, A2, c2, es, by omega, by go_num, rfl, ho2, hw2, hel.out, ?_, hr2⟩
            show _ = _
            have h := hev.out
            rw [hq0, Nat.mul_zero, Nat.add_zero] at h
            exact h
          case measure => simp [intOf]; omega
    · obtain rfl : i = n := by omega
      have hri : Ri 65536 wr A' (4 * i) c' ds := ⟨ho.rv, hw⟩
      go_wp2_with fail
      refine (ref1_trim hri (by omega)).mono ?_
      rintro e w' ⟨k, hk, hkn, rfl, rfl⟩
      go_wp2_with fail
      go_ret
      have e : nb 65536 ds = nv xs := by rw [hv.out, ← hlx.out, List.take_length]
      have e2 := db_take_len b16 hw hk.out
      rw [e] at e2
      have hot := ho.take hkn
      rw [Nat.mul_one, ← List.map_take, ← e2] at hot
      refine ⟨A', k, c', rfl, ?_, ⟨hot.rv, Wfb_db b16 _⟩, hot, hr⟩
      show _ = _
      rw [hk.out, e]

theorem ref1_Join {w : World} {A : Option Addr} {n cap : Nat} {ds : List Nat} (hx : Ri 65536 w A n cap ds) (hl : n ≤ 1099511627775) :
    Calls Try.prog 33 #[.slice A n cap] w (RetW w (nb 65536 ds)) := by
  go_enter Try.func33, Try.ntmps33
  go_wp2_with fail
  refine (ref1_trim hx (by omega)).mono ?_
  rintro e w' ⟨k, hk, hkn, rfl, rfl⟩
  obtain ⟨es, hes⟩ : ∃ es, es = db 65536 (nb 65536 ds) := ⟨_, rfl⟩
  have hes2 : es = ds.take k := by rw [hes]; exact db_take_len b16 hx.wf hk.out
  have hlen := Lib.hid hx.len
  have he : Ri 65536 w A k cap es := by
    have h := hx.rv.take (k := k) (m := cap) hkn (by have := hx.rv.le; omega) (Nat.le_refl _)
    rw [Nat.mul_one, ← List.map_take, ← hes2] at h
    exact ⟨h, by rw [hes2]; exact Wfb_take hx.wf _⟩
  have hel := Lib.hid he.len
  have hval : Hid (nb 65536 es = nb 65536 ds) := by show _ = _; rw [hes, nb_db b16]
  have htop : Hid (k = 0 ∨ 65536 ^ (k - 1) ≤ nb 65536 ds) := by
    by_cases h0 : nb 65536 ds = 0
    · left
      have h := hk.out
      rw [h0, db_zero] at h
      exact h
    · right
      have := pow_len_db_le b16 h0
      rwa [← hk.out] at this
  clear hes hes2 hk
  have hmk := run_make0 (P := Try.prog) Try.underlying22 info64 rfl (by decide) ((k : Int) / 4 + 1) (by omega) (by omega)
  have et : ((k : Int) / 4 + 1).toNat = k / 4 + 1 := by omega
  rw [et] at hmk
  clear et
  go_wp2_with fail
  clear hmk
  obtain ⟨g, hg⟩ : ∃ g, w.heap.size = g := ⟨_, rfl⟩
  rw [hg]
  obtain ⟨wa, hwa⟩ : ∃ wa, w.alloc (.cells (zc (.int .u64 0) (k / 4 + 1)) 23) = wa := ⟨_, rfl⟩
  rw [hwa]
  have hoa : Own wa w.heap.size 23 1 (some ⟨g, 0, none⟩) 0 (k / 4 + 1) (([] : List Nat).map W64) := by
    rw [← hwa, ← hg]
    exact Own.mk_ (cs := List.replicate (k / 4 + 1) (.int .u64 0)) (Nat.le_refl _) (Bk.new' _ _ _) (by omega) (by rw [len_maxLen]; omega) (by simp) (by simp)
  have hea : Ext w wa := by rw [← hwa]; exact (Ext.refl w).alloc _
  clear hg hwa
  go_loopw [4, 3] (fun u v wr => ∃ (i : Nat) (A' : Option Addr) (c' : Nat) (ws : List Nat), 4 * i ≤ k + 3 ∧ u = .int .i64 (4 * (i : Int)) ∧ v = .slice A' i c' ∧ Own wr w.heap.size 23 1 A' i c' (ws.map W64) ∧ Wf ws ∧
    Hid (ws.length = i) ∧ Hid (nv ws = nb 65536 (es.take (4 * i))) ∧ Ext w wr) (fun u v wr => k + 4 - (intOf u).toNat)
  case atStart => exact ⟨0, _, _, [], by omega, rfl, rfl, hoa, Wf_nil, rfl, rfl, hea⟩
  case round =>
    obtain ⟨i, A', c', ws, hi, rfl, rfl, ho, hw, hwl, hv, hr⟩ := hrel
    clear hoa hea
    by_cases him : 4 * i < k
    · go_wp2_with fail
      obtain ⟨wo, rfl⟩ : ∃ wo : World, wo = wr := ⟨_, rfl⟩
      go_loop [6, 5] (fun u v => ∃ (j q : Nat), j ≤ 4 ∧ u = .int .i64 ((j : Int) - 1) ∧ v = .int .u64 (q : Int) ∧ Hid (q = nb 65536 ((es.drop (4 * i + j)).take (4 - j)))) (fun u v => (intOf u + 1).toNat)
      case atStart => exact ⟨4, 0, Nat.le_refl _, rfl, rfl, by simp [Hid, nb]⟩
      case round =>
        obtain ⟨j, q, hj, rfl, rfl, hq⟩ := hrel
        have hqlt : q < 65536 ^ (4 - j) := by
          rw [hq.out]
          have h1 := nb_lt (Wfb_take (Wfb_drop he.wf (4 * i + j)) (4 - j))
          have h2 : 65536 ^ (List.take (4 - j) (List.drop (4 * i + j) es)).length ≤ 65536 ^ (4 - j) := Nat.pow_le_pow_right (by omega) (by rw [List.length_take]; omega)
          omega
        by_cases hj0 : 0 < j
        · have hqb : q ≤ 281474976710655 := by
            have : (65536 : Nat) ^ (4 - j) ≤ 65536 ^ 3 := Nat.pow_le_pow_right (by omega) (by omega)
            omega
          clear hqlt
          have hstep : Hid (es.getD (4 * i + (j - 1)) 0 + 65536 * q = nb 65536 ((es.drop (4 * i + (j - 1))).take (4 - (j - 1)))) := by
            show _ = _
            have e2 : 4 - (j - 1) = (4 - j) + 1 := by omega
            have e3 : 4 * i + (j - 1) + 1 = 4 * i + j := by omega
            rw [e2, nb_drop_take, e3, hq.out]
          by_cases hin : 4 * i + (j - 1) < k
          · obtain ⟨a, x, rfl, hxk, hxb, hcx⟩ := (he.ext hr).get (by omega) (i := 4 * i + (j - 1)) (by omega)
            have hin' : 4 * (i : Int) + ((j : Int) - 1) < (k : Int) := by omega
            go_wp2_with fail
            go_round
            case rel => exact ⟨j - 1, x + 65536 * q, by omega, val_int (by omega), val_int (by omega), by show _ = _; rw [← hstep.out, hxk.out]⟩
            case measure => simp [intOf]; omega
          · have hin' : ¬ 4 * (i : Int) + ((j : Int) - 1) < (k : Int) := by omega
            go_wp2_with fail
            go_round
            case rel => exact ⟨j - 1, 65536 * q, by omega, val_int (by omega), val_int (by omega), by show _ = _; rw [← hstep.out, List.getD_eq_getElem?_getD, List.getElem?_eq_none (by rw [hel.out]; omega)]; simp⟩
            case measure => simp [intOf]; omega
        · obtain rfl : j = 0 := by omega
          have hqW : q < WB := by rw [WB_16]; exact hqlt
          clear hqlt
          have r1 : (i + 1) * 8 ≤ 140737488355328 := by omega
          go_wp2_with ((with_reducible refine at_slot (some 44) ?_); refine wpc_append rfl (.tmp 41) (.tmp 43) 22 rfl rfl rfl Try.underlying22 info64 rfl (by decide) (ho.ext ((Ext.refl _).alloc _)) (Rv.one _ _ _) (by simp [Value.oneCell']) r1 (by rw [len_maxLen]; omega) (by have := hr.size; simp; omega) ?_; intro A3 c3 w3 ho3 hu3 _)
          have he3 : Ext w w3 := hu3.ext (hr.alloc _) (fun p hp => (ho.block p hp).1)
          go_roundw
          case rel =>
            refine ⟨i + 1, A3, c3, ws ++ [q], by omega, val_int (by omega), rfl, ?_, Wf_append hw (Wf_one hqW), ?_, ?_, he3⟩
            · have : (ws ++ [q]).map W64 = ws.map W64 ++ [.int .u64 (q : Int)] := by simp
              rw [this]; exact ho3
            · show _ = _
              rw [List.length_append, hwl.out]; rfl
            · show _ = _
              rw [nv_snoc, hwl.out, hv.out, show 4 * (i + 1) = 4 * i + 4 from by omega, nb_take_add 65536 es (4 * i) 4 (by rw [hel.out]; omega), hq.out, WB_16, ← Nat.pow_mul]
              rfl
          case measure => simp [intOf]; omega
    · go_wp2_with fail
      go_ret
      have e1 : nv ws = nb 65536 ds := by rw [hv.out, List.take_of_length_le (by rw [hel.out]; omega), hval.out]
      have e2 : wd (nv ws) = ws := by
        refine wd_of_ge hw ?_
        rw [hwl.out, e1]
        by_cases h0 : i = 0
        · exact Or.inl h0
        · refine Or.inr ?_
          rcases htop.out with h | h
          · omega
          · refine Nat.le_trans ?_ h
            rw [WB_16, ← Nat.pow_mul]
            exact Nat.pow_le_pow_right (by omega) (by omega)
      rw [← e1]
      rw [← e2] at ho
      refine ⟨A', i, c', rfl, ?_, ho.rd (by rw [e2]; exact hw), ho, hr⟩
      show _ = _
      rw [e2, hwl.out]

end Go.Proofs.Ytacdaafnlbeagaa
