/- Parts Keep, Keepw, Law4j, Law4k, joined. -/
import Derived.Test.YtmjdmjflgiicaaaDoorQ4

namespace Go.Proofs.YtmjdmjflgiicaaaDoor
open Go.RowKit
theorem bits_xor_u64 {x y : Nat} (hx : x ≤ 18446744073709551615) (hy : y ≤ 18446744073709551615) : bits BinOp.xor IntKind.u64 (x : Int) (y : Int) = ((x ^^^ y : Nat) : Int) := by
  have e : IntKind.u64.wrap ((BitVec.ofInt 64 (x : Int) ^^^ BitVec.ofInt 64 (y : Int)).toNat : Int) = ((x ^^^ y : Nat) : Int) := by
    rw [BitVec.toNat_xor, ofInt_64 hx, ofInt_64 hy, wrap_u64_nat, Nat.mod_eq_of_lt (Nat.xor_lt_two_pow (n := 64) (by omega) (by omega))]
  exact e
theorem xor_le {x y : Nat} (hx : x ≤ 18446744073709551615) (hy : y ≤ 18446744073709551615) : x ^^^ y ≤ 18446744073709551615 := by
  have := Nat.xor_lt_two_pow (n := 64) (x := x) (y := y) (by omega) (by omega)
  omega
theorem u64_xor {x y : Nat} (hx : x ≤ 18446744073709551615) (hy : y ≤ 18446744073709551615) (P : Program) (t : TypeId) (w : World) : (binOp .xor t (.int .u64 (x : Int)) (.int .u64 (y : Int))).run P w = .ok (.int .u64 ((x ^^^ y : Nat) : Int)) w := by
  have e2 : (binOp .xor t (.int .u64 (x : Int)) (.int .u64 (y : Int))).run P w = .ok (.int .u64 (bits BinOp.xor IntKind.u64 (x : Int) (y : Int))) w := rfl
  rw [e2, bits_xor_u64 hx hy]
/-- the spare room's marks -/
def mkr (i : Nat) : Nat := 6510516211317473280 + i
/-- a list with marked room behind it -/
def room (xs : List Nat) : List Nat := xs ++ (List.range 80).map fun k => mkr (xs.length + k)
theorem room_len (xs : List Nat) : (room xs).length = xs.length + 80 := by unfold room; rw [List.length_append, List.length_map, List.length_range]
theorem room_low {xs : List Nat} {i : Nat} (h : i < xs.length) : (room xs).getD i 0 = xs.getD i 0 := by
  unfold room; rw [List.getD_eq_getElem?_getD, List.getElem?_append_left h, ← List.getD_eq_getElem?_getD]
theorem room_high {xs : List Nat} {i : Nat} (h : xs.length ≤ i) (h2 : i < xs.length + 80) : (room xs).getD i 0 = mkr i := by
  unfold room; rw [List.getD_eq_getElem?_getD, List.getElem?_append_right h, List.getElem?_map, List.getElem?_range (by omega)]
  show mkr _ = _
  congr 1; omega
/-- filled up to i -/
theorem room_step {xs l : List Nat} {i : Nat} (hl : l.length = xs.length + 80) (hi : i < xs.length + 80) (h : l.take i = (room xs).take i) : (l.set i ((room xs).getD i 0)).take (i + 1) = (room xs).take (i + 1) := by
  rw [List.take_add_one, List.take_add_one, List.take_set_of_le (Nat.le_refl _), h, List.getElem?_set_self (by omega), List.getElem?_eq_getElem (by rw [room_len]; exact hi), List.getD_eq_getElem?_getD, List.getElem?_eq_getElem (by rw [room_len]; exact hi)]
  rfl
/-- the words before the place i turned by xor -/
def xorU (c i : Nat) (xs : List Nat) : List Nat := (xs.take i).map (· ^^^ c) ++ xs.drop i
theorem xorU_len (c i : Nat) (xs : List Nat) : (xorU c i xs).length = xs.length := by
  unfold xorU; rw [List.length_append, List.length_map, ← List.length_append, List.take_append_drop]
theorem xorU_zero (c : Nat) (xs : List Nat) : xorU c 0 xs = xs := by unfold xorU; simp
theorem xorU_get {c i : Nat} {xs : List Nat} (h : i < xs.length) : (xorU c i xs).getD i 0 = xs.getD i 0 := by
  unfold xorU
  rw [List.getD_eq_getElem?_getD, List.getElem?_append_right (by rw [List.length_map, List.length_take]; omega), List.length_map, List.length_take, Nat.min_eq_left (by omega), Nat.sub_self, List.getElem?_drop, Nat.add_zero, ← List.getD_eq_getElem?_getD]
theorem xorU_set {c i : Nat} {xs : List Nat} (h : i < xs.length) : (xorU c i xs).set i (xs.getD i 0 ^^^ c) = xorU c (i + 1) xs := by
  unfold xorU
  have e1 : xs.drop i = xs.getD i 0 :: xs.drop (i + 1) := drop_getD h
  rw [List.set_append_right _ _ (by rw [List.length_map, List.length_take]; omega), List.length_map, List.length_take, Nat.min_eq_left (by omega), Nat.sub_self, e1, List.set_cons_zero, take_snoc4 h, List.map_append, List.append_assoc]
  rfl
theorem xorU_wf {c i : Nat} {xs : List Nat} (h : Wf xs) (hc : c ≤ 18446744073709551615) : Wf (xorU c i xs) := by
  intro x hx
  unfold xorU at hx
  rcases List.mem_append.1 hx with hx | hx
  · obtain ⟨y, hy, rfl⟩ := List.mem_map.1 hx
    have h1 := h y (List.mem_of_mem_take hy)
    rw [WB_def] at h1 ⊢
    have := xor_le (x := y) (y := c) (by omega) hc
    omega
  · exact h x (List.mem_of_mem_drop hx)
section
variable {P : Program} {Q : Exit → Act → World → Prop} {n : Nat} {l : Fr} {w : World} {ops : Array Oper} {rest : List Oper} {d : Nat} {ty : TypeId} {pos : String} {af : Array Edge}
/-- copy onto a block that is known whole -/
theorem wl_copy {x y : Operand} {T e t : TypeId} {dp sp : Option Addr} {dLen dCap sLen sCap g : Nat} {vs us : List Value} (hx : evo l x = some (.slice dp dLen dCap)) (hy : evo l y = some (.slice sp sLen sCap)) (hu : P.underlying T = some (.slice e)) (hsz : (P.info? e).map (·.size) = some 1)
    (hg : Bk w g t vs) (hsrc : Rv w 1 sp sLen sCap us) (hpos : 0 < dLen → dp = some ⟨g, 0, none⟩) (hfit : 0 + dLen ≤ vs.length) (h1 : ∀ v ∈ us, v.oneCell' = true) (hn : d < n)
    (k : ∀ w', Bk w' g t (splice vs 0 (us.take dLen)) → Upd g w w' → wl P ops Q n rest ((d, .int .i64 ((min sLen dLen : Nat) : Int)) :: l) w') :
    wl P ops Q n (⟨some d, .call { callee := .builtin .copy, args := #[x, y], argTypes := #[T, T] }, ty, pos, af, none⟩ :: rest) l w := fun _ ha =>
  wpc_copy rfl x y T T rfl (ha.ev hx) (ha.ev hy) hu hsz hg hsrc hpos hfit h1 fun w' h2 h3 => k w' h2 h3 _ (ha.put hn _)
end
/-- what is copied back -/
theorem room_back {xs ys : List Nat} (h : ys.length = xs.length) : splice ((ys ++ (List.range 80).map fun k => mkr (xs.length + k)).map W64) 0 ((xs.map W64).take xs.length) = (room xs).map W64 := by
  unfold splice room
  rw [List.take_zero, List.nil_append, Nat.zero_add, List.take_of_length_le (by rw [List.length_map]; exact Nat.le_refl _), List.length_map, List.map_append, List.drop_append_of_le_length (by rw [List.length_map]; omega), List.drop_of_length_le (by rw [List.length_map]; omega), List.nil_append, List.map_append]
end Go.Proofs.YtmjdmjflgiicaaaDoor
namespace Go.Proofs.YtmjdmjflgiicaaaDoor
open Go.RowKit
/-- the marks behind a list of n words -/
def mk80 (n : Nat) : List Nat := (List.range 80).map fun k => mkr (n + k)
theorem mk80_wf {n : Nat} (h : n ≤ 1099511627776) : Wf (mk80 n) := fun x hx => by
  obtain ⟨k, hk, rfl⟩ := List.mem_map.1 hx
  have := List.mem_range.1 hk
  unfold mkr; rw [WB_def]; omega
theorem mk80_len (n : Nat) : (mk80 n).length = 80 := by unfold mk80; rw [List.length_map, List.length_range]
/-- the first places of a list with marked room -/
theorem room_rd {w : World} {g n : Nat} {ys : List Nat} (h : Bk w g 48 ((ys ++ mk80 n).map W64)) (hl : ys.length = n) (hw : Wf ys) (hn : n ≤ 1099511627776) : Rd w (some ⟨g, 0, none⟩) n (n + 80) ys := by
  have h1 := h.rd (Wf_append hw (mk80_wf hn)) (o := 0) (n := n) (cap := n + 80) (by omega) (by rw [List.length_append, mk80_len]; omega) (by rw [len_maxLen]; omega)
  rwa [List.drop_zero, List.take_left' hl] at h1
theorem room_rdf {w : World} {g n : Nat} {ys : List Nat} (h : Bk w g 48 ((ys ++ mk80 n).map W64)) (hl : ys.length = n) (hw : Wf ys) (hn : n ≤ 1099511627776) : Rd w (some ⟨g, 0, none⟩) (n + 80) (n + 80) (ys ++ mk80 n) := by
  have h1 := h.rd (Wf_append hw (mk80_wf hn)) (o := 0) (n := n + 80) (cap := n + 80) (by omega) (by rw [List.length_append, mk80_len]; omega) (by rw [len_maxLen]; omega)
  rwa [List.drop_zero, List.take_of_length_le (by rw [List.length_append, mk80_len]; omega)] at h1
theorem xor_step {c i : Nat} {xs : List Nat} (h : i < xs.length) : (xorU c i xs ++ mk80 xs.length).set i ((xorU c i xs ++ mk80 xs.length).getD i 0 ^^^ c) = xorU c (i + 1) xs ++ mk80 xs.length := by
  have h1 : i < (xorU c i xs).length := by rw [xorU_len]; exact h
  have e : (xorU c i xs ++ mk80 xs.length).getD i 0 = xs.getD i 0 := by
    rw [List.getD_eq_getElem?_getD, List.getElem?_append_left h1, ← List.getD_eq_getElem?_getD, xorU_get h]
  rw [e, List.set_append_left _ _ h1, xorU_set h]
theorem back_room {xs ys : List Nat} (h : ys.length = xs.length) : splice ((ys ++ mk80 xs.length).map W64) 0 ((xs.map W64).take xs.length) = (xs ++ mk80 xs.length).map W64 := room_back h
theorem al_four {w : World} {lb s0 s1 s2 s3 s4 : Nat} {x1 x2 x3 x4 : Lst} {m1 m2 m3 m4 : List Nat} (o1 : Own w lb 48 1 x1.A x1.n x1.c (m1.map W64)) (o2 : Own w lb 48 1 x2.A x2.n x2.c (m2.map W64)) (o3 : Own w lb 48 1 x3.A x3.n x3.c (m3.map W64)) (o4 : Own w lb 48 1 x4.A x4.n x4.c (m4.map W64))
    (d1 : ∀ p, x1.A = some p → s0 ≤ p.block ∧ p.block < s1) (d2 : ∀ p, x2.A = some p → s1 ≤ p.block ∧ p.block < s2) (d3 : ∀ p, x3.A = some p → s2 ≤ p.block ∧ p.block < s3) (d4 : ∀ p, x4.A = some p → s3 ≤ p.block ∧ p.block < s4) (h12 : s1 ≤ s2) (h23 : s2 ≤ s3) : Al0 w lb [x1, x2, x3, x4] := by
  refine ⟨fun a b ha hb hne p q hp hq => ?_, fun a ha => ?_⟩
  · simp only [List.length_cons, List.length_nil] at ha hb
    have ca : a = 0 ∨ a = 1 ∨ a = 2 ∨ a = 3 := by omega
    have cb : b = 0 ∨ b = 1 ∨ b = 2 ∨ b = 3 := by omega
    rcases ca with rfl | rfl | rfl | rfl <;> rcases cb with rfl | rfl | rfl | rfl <;> (try exact absurd rfl hne) <;> simp only [List.getD_cons_zero, List.getD_cons_succ] at hp hq <;>
      (first | have g1 := d1 p hp | have g1 := d2 p hp | have g1 := d3 p hp | have g1 := d4 p hp) <;> (first | have g2 := d1 q hq | have g2 := d2 q hq | have g2 := d3 q hq | have g2 := d4 q hq) <;> omega
  · simp only [List.length_cons, List.length_nil] at ha
    have ca : a = 0 ∨ a = 1 ∨ a = 2 ∨ a = 3 := by omega
    rcases ca with rfl | rfl | rfl | rfl
    · exact ⟨m1, o1, fun h => absurd h (Nat.not_lt_zero _), fun _ => rfl⟩
    · exact ⟨m2, o2, fun h => absurd h (Nat.not_lt_zero _), fun _ => rfl⟩
    · exact ⟨m3, o3, fun h => absurd h (Nat.not_lt_zero _), fun _ => rfl⟩
    · exact ⟨m4, o4, fun h => absurd h (Nat.not_lt_zero _), fun _ => rfl⟩
theorem four_le {x1 x2 x3 x4 : Lst} {N : Nat} (h1 : x1.n ≤ N) (h2 : x2.n ≤ N) (h3 : x3.n ≤ N) (h4 : x4.n ≤ N) : ∀ a, ([x1, x2, x3, x4].getD a Lst.z).n ≤ N
  | 0 => h1
  | 1 => h2
  | 2 => h3
  | 3 => h4
  | _ + 4 => Nat.zero_le _
theorem Own.of_bk {w : World} {g : Nat} {T : TypeId} {vs : List Value} (h : Bk w g T vs) (hl : vs.length ≤ 9223372036854775807) : Own w 0 T 1 (some ⟨g, 0, none⟩) vs.length vs.length vs :=
  Own.mk_ (Nat.zero_le _) h (Nat.le_refl _) (by rw [len_maxLen]; exact hl) (Nat.mul_one _).symm (by rw [Nat.mul_one, List.take_length])
open Classical in
/-- the number that layer 4's call of this kind reads, 0 where it refuses -/
noncomputable def ans4 (k : Int) (bs : List Nat) (b : Int) : Nat :=
  if k = 6 then (if Good 10 bs then vald 10 (bs.map dv) else 0) else if k = 7 then (match grp false bs with | some pl => vald 10 (pl.map dv) | none => 0) else if b < 2 ∨ 36 < b then 0 else if Good b.toNat bs then vald b.toNat (bs.map dv) else 0
theorem ans4_len {k : Int} {bs : List Nat} {b : Int} : (wd (ans4 k bs b)).length ≤ bs.length := by
  unfold ans4
  split
  · split
    · rename_i h; exact len_wd_dv (by decide) (by decide) h.2
    · exact Nat.zero_le _
  · split
    · split
      · rename_i h; exact grp_len h
      · exact Nat.zero_le _
    · split
      · exact Nat.zero_le _
      · split
        · rename_i h1 h; exact len_wd_dv (by omega) (by omega) h.2
        · exact Nat.zero_le _
theorem wr_nil {b : Nat} {w : World} : WR b 0 (.slice none 0 0) w := ⟨none, 0, 0, rfl, rfl, Own.nil _ _ _ _⟩
end Go.Proofs.YtmjdmjflgiicaaaDoor
namespace Go.Proofs.YtmjdmjflgiicaaaDoor
open Go.RowKit
theorem Al1.updT {w w' : World} {lb i j g : Nat} {ls : List Lst} {T : TypeId} {us : List Value} (h : Al1 w lb ls i j) (hb : Bk w g T us) (hT : 48 ≠ T) (u : Upd g w w') : Al1 w' lb ls i j := ⟨h.dis, fun a ha => by
  obtain ⟨xs, h1, h2⟩ := h.own a ha
  exact ⟨xs, h1.updT hb hT u, h2⟩⟩
theorem Al0.ext {w w' : World} {lb : Nat} {ls : List Lst} (h : Al0 w lb ls) (e : Ext w w') : Al0 w' lb ls := Al1.ext h e
theorem Al0.updT {w w' : World} {lb g : Nat} {ls : List Lst} {T : TypeId} {us : List Value} (h : Al0 w lb ls) (hb : Bk w g T us) (hT : 48 ≠ T) (u : Upd g w w') : Al0 w' lb ls := Al1.updT h hb hT u
theorem xlen (xs : List Nat) (c i : Nat) : (xorU c i xs ++ mk80 xs.length).length = xs.length + 80 := by rw [List.length_append, xorU_len, mk80_len]
end Go.Proofs.YtmjdmjflgiicaaaDoor

namespace Go.Proofs.YtmjdmjflgiicaaaDoor
open Go.RowKit
/-- a list with marked room, of the call's own -/
def RM (b : Nat) (xs : List Nat) (v : Value) (w : World) : Prop := ∃ g, v = .slice (some ⟨g, 0, none⟩) (xs.length + 80) (xs.length + 80) ∧ b ≤ g ∧ Bk w g 48 ((xs ++ mk80 xs.length).map W64)
theorem one_W64 {xs : List Nat} : ∀ v ∈ xs.map W64, v.oneCell' = true := fun v hv => by
  obtain ⟨x, _, rfl⟩ := List.mem_map.1 hv
  rfl
set_option maxHeartbeats 4000000 in
theorem g_Roomy {w : World} {A : Option Addr} {ac : Nat} {xs : List Nat} (hx : Rd w A xs.length ac xs) (hal : xs.length ≤ 1099511627000) :
    Calls Tryd.prog 49 #[.slice A xs.length ac] w (Gv w (RM w.heap.size xs)) := by
  refine sx_enter Tryd.func49 rfl (n := 33) rfl (Nat.le_of_ble_eq_true rfl) (args := [.slice A xs.length ac]) ?_
  refine cw_keep [(0, .slice A xs.length ac)] ⟨rfl, trivial⟩ ?_
  refine cw_seq ?_
  refine cw_region ?_
  refine wl_assign rfl rfl (by decide) ?_
  refine wl_nil ?_
  refine eo_then ?_
  refine cw_seq ?_
  refine cw_region ?_
  refine wl_move rfl rfl (by decide) ?_
  refine wl_pure rfl rfl (v := .int .i64 ((xs.length : Nat) : Int)) (by decide) (by kernel_rfl) ?_
  refine wl_ar rfl rfl rfl ((xs.length + 80 : Nat) : Int) (ai_add (a := xs.length) (b := 80) rfl rfl (by omega)) (by decide) ?_
  refine wl_make rfl (k := xs.length + 80) rfl rfl rfl un_u64 info64 rfl (by decide) (by omega) (by decide) fun g1 v2 hg3 hb4 e5 => ?_
  rw [replicate_W64] at hb4
  have ge6 : w.heap.size ≤ g1 := by rw [← hg3]; exact (Ext.refl w).size
  have ne8 : 0 < ac → ∀ a, A = some a → a.block ≠ g1 := fun hc a ha => by have := (hx).rv.blk a ha hc; omega
  clear hg3
  have hw1 : Ext w v2 := (Ext.refl w).trans e5
  refine wl_assign rfl rfl (by decide) ?_
  refine wl_nil ?_
  refine eo_then ?_
  refine cw_seq ?_
  refine cw_seq ?_
  refine cw_region ?_
  refine wl_assign rfl rfl (by decide) ?_
  refine wl_nil ?_
  refine eo_then ?_
  refine cw_block ?_
  refine cw_loop (T := World × Nat × List Nat)
    (fun ⟨wr, i, l⟩ => [(0, .slice A xs.length ac), (3, .slice (some ⟨g1, 0, none⟩) (xs.length + 80) (xs.length + 80)), (4, .int .i64 ((i : Nat) : Int))])
    (fun ⟨wr, i, l⟩ => wr)
    (fun ⟨wr, i, l⟩ => (Ext w wr) ∧ (Bk wr g1 48 (l.map W64)) ∧ (l.length = xs.length + 80) ∧ (i ≤ xs.length + 80) ∧ (l.take i = (room xs).take i) ∧ (Rd wr A xs.length ac xs))
    (fun ⟨wr, i, l⟩ => xs.length + 80 - i)
    (⟨v2, 0, _⟩ : World × Nat × List Nat) ⟨hw1, hb4, (List.length_replicate (n := xs.length + 80) (a := 0)), (Nat.zero_le _), (by rw [List.take_zero, List.take_zero]), (hx.ext e5)⟩ rfl ⟨rfl, rfl, rfl, trivial⟩ ?_
  rintro ⟨wr, i, l⟩ ⟨hw1, hb, hl, hi, hv, rl0⟩
  refine cw_re [(0, .slice A xs.length ac), (3, .slice (some ⟨g1, 0, none⟩) (xs.length + 80) (xs.length + 80)), (4, .int .i64 ((i : Nat) : Int))] wr rfl ⟨rfl, rfl, rfl, trivial⟩ ?_
  refine cw_seq ?_
  refine cw_seq ?_
  by_cases hi80 : i < xs.length + 80
  ·
    refine cw_region ?_
    refine wl_move rfl rfl (by decide) ?_
    refine wl_move rfl rfl (by decide) ?_
    refine wl_pure rfl rfl (v := .int .i64 (((xs.length + 80) : Nat) : Int)) (by decide) (by kernel_rfl) ?_
    refine wl_cmp rfl rfl rfl true (cb_lt_t (a := i) (b := xs.length + 80) rfl rfl (by omega)) (by decide) ?_
    refine wl_nil ?_
    refine eo_then ?_
    refine cw_true rfl ?_
    refine cw_skip ?_
    refine eo_then ?_
    refine cw_seq ?_
    refine cw_block ?_
    refine cw_seq ?_
    by_cases hilt : i < xs.length
    ·
      refine cw_region ?_
      refine wl_move rfl rfl (by decide) ?_
      refine wl_move rfl rfl (by decide) ?_
      refine wl_pure rfl rfl (v := .int .i64 ((xs.length : Nat) : Int)) (by decide) (by kernel_rfl) ?_
      refine wl_cmp rfl rfl rfl true (cb_lt_t (a := i) (b := xs.length) rfl rfl (by omega)) (by decide) ?_
      refine wl_nil ?_
      refine eo_then ?_
      refine cw_true rfl ?_
      have hx64 : xs.getD i 0 ≤ 18446744073709551615 := by have := Wf_getD hx.wf i; rw [WB_def] at this; omega
      refine cw_region ?_
      refine wl_move rfl rfl (by decide) ?_
      refine wl_move rfl rfl (by decide) ?_
      refine wl_move rfl rfl (by decide) ?_
      refine wl_move rfl rfl (by decide) ?_
      obtain ⟨p9, hp9, hc9, hv9⟩ := (rl0).at (i := i) (by omega)
      refine wl_idx rfl rfl rfl un_u64 sz_u64 i rfl (by omega) p9 hp9 (by decide) ?_
      refine wl_load rfl rfl (load_cell1 ag_u64 hc9) (by decide) ?_
      refine wl_idx rfl rfl rfl un_u64 sz_u64 i rfl (by omega) ⟨g1, i, none⟩ (arr_at _ _) (by decide) ?_
      have hb11 := hb
      refine wl_stored1 rfl rfl rfl sz_u64 rfl hb11 (len_map (by rw [hl]; omega)) rfl ((l.set i (xs.getD i 0)).map W64) (map_W64_set _ _ _) fun v10 hb12 u13 hs14 => ?_
      have hw2 : Ext w v10 := u13.ext hw1 ge6
      refine wl_nil ?_
      refine eo_block_normal ?_
      refine eo_then ?_
      refine cw_region ?_
      refine wl_move rfl rfl (by decide) ?_
      refine wl_ar rfl rfl rfl ((i + 1 : Nat) : Int) (ai_add (a := i) (b := 1) rfl rfl (by omega)) (by decide) ?_
      refine wl_assign rfl rfl (by decide) ?_
      refine wl_nil ?_
      refine eo_round (⟨v10, i + 1, l.set i (xs.getD i 0)⟩ : World × Nat × List Nat) ⟨hw2, hb12, (by rw [List.length_set]; exact hl), (by omega), (by have h := room_step hl hi80 hv; rw [room_low hilt] at h; exact h), (Rd.updL rl0 u13 ne8)⟩ (show xs.length + 80 - (i + 1) < xs.length + 80 - i by omega) rfl ⟨rfl, rfl, rfl, trivial⟩
    ·
      refine cw_region ?_
      refine wl_move rfl rfl (by decide) ?_
      refine wl_move rfl rfl (by decide) ?_
      refine wl_pure rfl rfl (v := .int .i64 ((xs.length : Nat) : Int)) (by decide) (by kernel_rfl) ?_
      refine wl_cmp rfl rfl rfl false (cb_lt_f (a := i) (b := xs.length) rfl rfl (by omega)) (by decide) ?_
      refine wl_nil ?_
      refine eo_then ?_
      refine cw_false rfl ?_
      refine cw_region ?_
      refine wl_move rfl rfl (by decide) ?_
      refine wl_move rfl rfl (by decide) ?_
      refine wl_move rfl rfl (by decide) ?_
      refine wl_pureE rfl rfl (v := .int .u64 (IntKind.u64.wrap ((i : Nat) : Int))) (v' := .int .u64 ((i : Nat) : Int)) (by decide) (by kernel_rfl) (cv_u64 (by first | omega | exact hle64)) ?_
      refine wl_ar rfl rfl rfl ((6510516211317473280 + i : Nat) : Int) (au_add (a := 6510516211317473280) (b := i) rfl rfl (by omega)) (by decide) ?_
      refine wl_idx rfl rfl rfl un_u64 sz_u64 i rfl (by omega) ⟨g1, i, none⟩ (arr_at _ _) (by decide) ?_
      have hb16 := hb
      refine wl_stored1 rfl rfl rfl sz_u64 rfl hb16 (len_map (by rw [hl]; omega)) rfl ((l.set i (6510516211317473280 + i)).map W64) (map_W64_set _ _ _) fun v15 hb17 u18 hs19 => ?_
      have hw2 : Ext w v15 := u18.ext hw1 ge6
      refine wl_nil ?_
      refine eo_block_normal ?_
      refine eo_then ?_
      refine cw_region ?_
      refine wl_move rfl rfl (by decide) ?_
      refine wl_ar rfl rfl rfl ((i + 1 : Nat) : Int) (ai_add (a := i) (b := 1) rfl rfl (by omega)) (by decide) ?_
      refine wl_assign rfl rfl (by decide) ?_
      refine wl_nil ?_
      refine eo_round (⟨v15, i + 1, l.set i (6510516211317473280 + i)⟩ : World × Nat × List Nat) ⟨hw2, hb17, (by rw [List.length_set]; exact hl), (by omega), (by have h := room_step hl hi80 hv; rw [room_high (by omega) hi80] at h; exact h), (Rd.updL rl0 u18 ne8)⟩ (show xs.length + 80 - (i + 1) < xs.length + 80 - i by omega) rfl ⟨rfl, rfl, rfl, trivial⟩
  ·
    have hie : i = xs.length + 80 := by omega
    have hlr : l = room xs := by rw [hie, List.take_of_length_le (by omega), List.take_of_length_le (by rw [room_len]; exact Nat.le_refl _)] at hv; exact hv
    refine cw_region ?_
    refine wl_move rfl rfl (by decide) ?_
    refine wl_move rfl rfl (by decide) ?_
    refine wl_pure rfl rfl (v := .int .i64 (((xs.length + 80) : Nat) : Int)) (by decide) (by kernel_rfl) ?_
    refine wl_cmp rfl rfl rfl false (cb_lt_f (a := i) (b := xs.length + 80) rfl rfl (by omega)) (by decide) ?_
    refine wl_nil ?_
    refine eo_then ?_
    refine cw_false rfl ?_
    refine cw_exit ?_
    refine eo_thenX ?_
    refine eo_loopX ?_
    refine eo_block_here ?_
    refine eo_then ?_
    refine cw_seq ?_
    refine cw_region ?_
    refine wl_move rfl rfl (by decide) ?_
    refine wl_assign rfl rfl (by decide) ?_
    refine wl_nil ?_
    refine eo_then ?_
    refine cw_ret ?_
    refine eo_ret [.slice (some ⟨g1, 0, none⟩) (xs.length + 80) (xs.length + 80)] rfl ⟨rfl, trivial⟩ ?_
    refine ⟨_, rfl, ⟨g1, rfl, ge6, ?_⟩, hw1⟩
    have h := hb
    rw [hlr] at h
    exact h
set_option maxHeartbeats 4000000 in
theorem g_Kept {w : World} {L A : Option Addr} {lc ac : Nat} {xs : List Nat} (hr : Rd w L (xs.length + 80) lc (room xs)) (hx : Rd w A xs.length ac xs) (hal : xs.length ≤ 1099511627000) :
    Calls Tryd.prog 51 #[.slice L (xs.length + 80) lc, .slice A xs.length ac] w (Gv w (Is (.bool true))) := by
  refine sx_enter Tryd.func51 rfl (n := 47) rfl (Nat.le_of_ble_eq_true rfl) (args := [.slice L (xs.length + 80) lc, .slice A xs.length ac]) ?_
  refine cw_keep [(0, .slice L (xs.length + 80) lc), (1, .slice A xs.length ac)] ⟨rfl, rfl, trivial⟩ ?_
  refine cw_seq ?_
  refine cw_region ?_
  refine wl_assign rfl rfl (by decide) ?_
  refine wl_nil ?_
  refine eo_then ?_
  refine cw_seq ?_
  refine cw_seq ?_
  refine cw_region ?_
  refine wl_move rfl rfl (by decide) ?_
  refine wl_pure rfl rfl (v := .int .i64 (((xs.length + 80) : Nat) : Int)) (by decide) (by kernel_rfl) ?_
  refine wl_move rfl rfl (by decide) ?_
  refine wl_pure rfl rfl (v := .int .i64 ((xs.length : Nat) : Int)) (by decide) (by kernel_rfl) ?_
  refine wl_ar rfl rfl rfl ((xs.length + 80 : Nat) : Int) (ai_add (a := xs.length) (b := 80) rfl rfl (by omega)) (by decide) ?_
  refine wl_cmp rfl rfl rfl false (cb_ne_f (a := xs.length + 80) (b := xs.length + 80) rfl rfl (by omega)) (by decide) ?_
  refine wl_nil ?_
  refine eo_then ?_
  refine cw_false rfl ?_
  refine cw_skip ?_
  refine eo_then ?_
  refine cw_seq ?_
  refine cw_seq ?_
  refine cw_region ?_
  refine wl_assign rfl rfl (by decide) ?_
  refine wl_nil ?_
  refine eo_then ?_
  refine cw_block ?_
  refine cw_loop (T := World × Nat)
    (fun ⟨wr, i⟩ => [(0, .slice L (xs.length + 80) lc), (1, .slice A xs.length ac), (5, .int .i64 ((i : Nat) : Int))])
    (fun ⟨wr, i⟩ => wr)
    (fun ⟨wr, i⟩ => (Ext w wr) ∧ (i ≤ xs.length + 80) ∧ (Rd wr L (xs.length + 80) lc (room xs)) ∧ (Rd wr A xs.length ac xs))
    (fun ⟨wr, i⟩ => xs.length + 80 - i)
    (⟨w, 0⟩ : World × Nat) ⟨(Ext.refl w), (Nat.zero_le _), hr, hx⟩ rfl ⟨rfl, rfl, rfl, trivial⟩ ?_
  rintro ⟨wr, i⟩ ⟨hw1, hi, rl0, rl1⟩
  refine cw_re [(0, .slice L (xs.length + 80) lc), (1, .slice A xs.length ac), (5, .int .i64 ((i : Nat) : Int))] wr rfl ⟨rfl, rfl, rfl, trivial⟩ ?_
  refine cw_seq ?_
  refine cw_seq ?_
  by_cases hi80 : i < xs.length + 80
  ·
    refine cw_region ?_
    refine wl_move rfl rfl (by decide) ?_
    refine wl_move rfl rfl (by decide) ?_
    refine wl_pure rfl rfl (v := .int .i64 (((xs.length + 80) : Nat) : Int)) (by decide) (by kernel_rfl) ?_
    refine wl_cmp rfl rfl rfl true (cb_lt_t (a := i) (b := xs.length + 80) rfl rfl (by omega)) (by decide) ?_
    refine wl_nil ?_
    refine eo_then ?_
    refine cw_true rfl ?_
    refine cw_skip ?_
    refine eo_then ?_
    refine cw_seq ?_
    refine cw_block ?_
    refine cw_seq ?_
    refine cw_seq ?_
    by_cases hilt : i < xs.length
    ·
      have hro := room_low hilt
      obtain ⟨p1, hp1, hc1, hv1⟩ := (rl0).at (i := i) (by omega)
      obtain ⟨p2, hp2, hc2, hv2⟩ := (rl1).at (i := i) (by omega)
      refine cw_draw mix 15 [] [Is (.int .i64 ((i : Nat) : Int)), Is (.slice A xs.length ac), Is (.int .i64 ((xs.length : Nat) : Int)), Is (.bool true), Is (.bool true), Is (.slice L (xs.length + 80) lc), Is (.int .i64 ((i : Nat) : Int)), Is (.pointer (some p1)), Is (.int .u64 (((room xs).getD i 0 : Nat) : Int)), Is (.slice A xs.length ac), Is (.int .i64 ((i : Nat) : Int)), Is (.pointer (some p2)), Is (.int .u64 ((xs.getD i 0 : Nat) : Int)), Is (.bool false), Is (.bool false)] [[], [], [1], [0, 2], [3], [4], [4], [4, 5, 6], [4, 7], [4], [4], [4, 9, 10], [4, 11], [4, 8, 12], [4, 13]] [[], [], [1], [0, 1, 2], [0, 1, 2, 3], [0, 1, 2, 3, 4], [0, 1, 2, 3, 4], [0, 1, 2, 3, 4, 5, 6], [0, 1, 2, 3, 4, 5, 6, 7], [0, 1, 2, 3, 4], [0, 1, 2, 3, 4], [0, 1, 2, 3, 4, 9, 10], [0, 1, 2, 3, 4, 9, 10, 11], [0, 1, 2, 3, 4, 5, 6, 7, 8, 9, 10, 11, 12], [0, 1, 2, 3, 4, 5, 6, 7, 8, 9, 10, 11, 12, 13]] rfl
        (obs_cons rfl rfl (hob rfl rfl ?_) (obs_cons rfl rfl (hob rfl rfl ?_) (obs_cons rfl rfl (hob rfl rfl ?_) (obs_cons rfl rfl (hob rfl rfl ?_) (obs_cons rfl rfl (hob rfl rfl ?_) (obs_cons rfl rfl (hob rfl rfl ?_) (obs_cons rfl rfl (hob rfl rfl ?_) (obs_cons rfl rfl (hob rfl rfl ?_) (obs_cons rfl rfl (hob rfl rfl ?_) (obs_cons rfl rfl (hob rfl rfl ?_) (obs_cons rfl rfl (hob rfl rfl ?_) (obs_cons rfl rfl (hob rfl rfl ?_) (obs_cons rfl rfl (hob rfl rfl ?_) (obs_cons rfl rfl (hob rfl rfl ?_) (obs_cons rfl rfl (hob rfl rfl ?_) obs_nil))))))))))))))) ?_
      · -- 0
        intro v3 e4
        have hw2 : Ext w v3 := hw1.trans e4
        refine deps_nil ?_
        refine wl_move rfl rfl (by decide) ?_
        exact pi_done rfl (Ext.refl _) rfl
      · -- 1
        intro v5 e6
        have hw2 : Ext w v5 := hw1.trans e6
        refine deps_nil ?_
        refine wl_move rfl rfl (by decide) ?_
        exact pi_done rfl (Ext.refl _) rfl
      · -- 2
        intro v7 e8
        have hw2 : Ext w v7 := hw1.trans e8
        refine deps_cons rfl rfl fun x9 y10 h11 e12 f13 => ?_
        obtain rfl := h11
        refine deps_nil ?_
        refine wl_pure rfl rfl (v := .int .i64 ((xs.length : Nat) : Int)) (by decide) (by kernel_rfl) ?_
        exact pi_done rfl (Ext.refl _) rfl
      · -- 3
        intro v14 e15
        have hw2 : Ext w v14 := hw1.trans e15
        refine deps_cons rfl rfl fun x16 y17 h18 e19 f20 => ?_
        obtain rfl := h18
        refine deps_cons rfl rfl fun x21 y22 h23 e24 f25 => ?_
        obtain rfl := h23
        refine deps_nil ?_
        refine wl_cmp rfl rfl rfl true (cb_lt_t (a := i) (b := xs.length) rfl rfl (by omega)) (by decide) ?_
        exact pi_done rfl (Ext.refl _) rfl
      · -- 4
        intro v26 e27
        have hw2 : Ext w v26 := hw1.trans e27
        refine deps_cons rfl rfl fun x28 y29 h30 e31 f32 => ?_
        obtain rfl := h30
        refine deps_nil ?_
        refine wl_move rfl rfl (by decide) ?_
        exact pi_done rfl (Ext.refl _) rfl
      · -- 5
        intro v33 e34
        have hw2 : Ext w v33 := hw1.trans e34
        refine deps_cons rfl rfl fun x35 y36 h37 e38 f39 => ?_
        obtain rfl := h37
        refine deps_nil ?_
        refine wl_move rfl rfl (by decide) ?_
        exact pi_done rfl (Ext.refl _) rfl
      · -- 6
        intro v40 e41
        have hw2 : Ext w v40 := hw1.trans e41
        refine deps_cons rfl rfl fun x42 y43 h44 e45 f46 => ?_
        obtain rfl := h44
        refine deps_nil ?_
        refine wl_move rfl rfl (by decide) ?_
        exact pi_done rfl (Ext.refl _) rfl
      · -- 7
        intro v47 e48
        have hw2 : Ext w v47 := hw1.trans e48
        refine deps_cons rfl rfl fun x49 y50 h51 e52 f53 => ?_
        obtain rfl := h51
        refine deps_cons rfl rfl fun x54 y55 h56 e57 f58 => ?_
        obtain rfl := h56
        refine deps_cons rfl rfl fun x59 y60 h61 e62 f63 => ?_
        obtain rfl := h61
        refine deps_nil ?_
        refine wl_idx rfl rfl rfl un_u64 sz_u64 i rfl (by omega) p1 hp1 (by decide) ?_
        exact pi_done rfl (Ext.refl _) rfl
      · -- 8
        intro v64 e65
        have hw2 : Ext w v64 := hw1.trans e65
        refine deps_cons rfl rfl fun x66 y67 h68 e69 f70 => ?_
        obtain rfl := h68
        refine deps_cons rfl rfl fun x71 y72 h73 e74 f75 => ?_
        obtain rfl := h73
        refine deps_nil ?_
        refine wl_load rfl rfl (load_cell1 ag_u64 (e65.cell hc1)) (by decide) ?_
        exact pi_done rfl (Ext.refl _) rfl
      · -- 9
        intro v76 e77
        have hw2 : Ext w v76 := hw1.trans e77
        refine deps_cons rfl rfl fun x78 y79 h80 e81 f82 => ?_
        obtain rfl := h80
        refine deps_nil ?_
        refine wl_move rfl rfl (by decide) ?_
        exact pi_done rfl (Ext.refl _) rfl
      · -- 10
        intro v83 e84
        have hw2 : Ext w v83 := hw1.trans e84
        refine deps_cons rfl rfl fun x85 y86 h87 e88 f89 => ?_
        obtain rfl := h87
        refine deps_nil ?_
        refine wl_move rfl rfl (by decide) ?_
        exact pi_done rfl (Ext.refl _) rfl
      · -- 11
        intro v90 e91
        have hw2 : Ext w v90 := hw1.trans e91
        refine deps_cons rfl rfl fun x92 y93 h94 e95 f96 => ?_
        obtain rfl := h94
        refine deps_cons rfl rfl fun x97 y98 h99 e100 f101 => ?_
        obtain rfl := h99
        refine deps_cons rfl rfl fun x102 y103 h104 e105 f106 => ?_
        obtain rfl := h104
        refine deps_nil ?_
        refine wl_idx rfl rfl rfl un_u64 sz_u64 i rfl (by omega) p2 hp2 (by decide) ?_
        exact pi_done rfl (Ext.refl _) rfl
      · -- 12
        intro v107 e108
        have hw2 : Ext w v107 := hw1.trans e108
        refine deps_cons rfl rfl fun x109 y110 h111 e112 f113 => ?_
        obtain rfl := h111
        refine deps_cons rfl rfl fun x114 y115 h116 e117 f118 => ?_
        obtain rfl := h116
        refine deps_nil ?_
        refine wl_load rfl rfl (load_cell1 ag_u64 (e108.cell hc2)) (by decide) ?_
        exact pi_done rfl (Ext.refl _) rfl
      · -- 13
        intro v119 e120
        have hw2 : Ext w v119 := hw1.trans e120
        refine deps_cons rfl rfl fun x121 y122 h123 e124 f125 => ?_
        obtain rfl := h123
        refine deps_cons rfl rfl fun x126 y127 h128 e129 f130 => ?_
        obtain rfl := h128
        refine deps_cons rfl rfl fun x131 y132 h133 e134 f135 => ?_
        obtain rfl := h133
        refine deps_nil ?_
        refine wl_cmp rfl rfl rfl false (cb_ne_f (a := (room xs).getD i 0) (b := xs.getD i 0) rfl rfl (by omega)) (by decide) ?_
        exact pi_done rfl (Ext.refl _) rfl
      · -- 14
        intro v136 e137
        have hw2 : Ext w v136 := hw1.trans e137
        refine deps_cons rfl rfl fun x138 y139 h140 e141 f142 => ?_
        obtain rfl := h140
        refine deps_cons rfl rfl fun x143 y144 h145 e146 f147 => ?_
        obtain rfl := h145
        refine deps_nil ?_
        refine wl_pure rfl rfl (v := .bool false) (by decide) (by kernel_rfl) ?_
        exact pi_done rfl (Ext.refl _) rfl
      · -- all
        intro v148 e149
        have hw2 : Ext w v148 := hw1.trans e149
        refine deps_cons rfl rfl fun x150 y151 h152 e153 f154 => ?_
        obtain rfl := h152
        refine deps_cons rfl rfl fun x155 y156 h157 e158 f159 => ?_
        obtain rfl := h157
        refine deps_cons rfl rfl fun x160 y161 h162 e163 f164 => ?_
        obtain rfl := h162
        refine deps_cons rfl rfl fun x165 y166 h167 e168 f169 => ?_
        obtain rfl := h167
        refine deps_cons rfl rfl fun x170 y171 h172 e173 f174 => ?_
        obtain rfl := h172
        refine deps_cons rfl rfl fun x175 y176 h177 e178 f179 => ?_
        obtain rfl := h177
        refine deps_cons rfl rfl fun x180 y181 h182 e183 f184 => ?_
        obtain rfl := h182
        refine deps_cons rfl rfl fun x185 y186 h187 e188 f189 => ?_
        obtain rfl := h187
        refine deps_cons rfl rfl fun x190 y191 h192 e193 f194 => ?_
        obtain rfl := h192
        refine deps_cons rfl rfl fun x195 y196 h197 e198 f199 => ?_
        obtain rfl := h197
        refine deps_cons rfl rfl fun x200 y201 h202 e203 f204 => ?_
        obtain rfl := h202
        refine deps_cons rfl rfl fun x205 y206 h207 e208 f209 => ?_
        obtain rfl := h207
        refine deps_cons rfl rfl fun x210 y211 h212 e213 f214 => ?_
        obtain rfl := h212
        refine deps_cons rfl rfl fun x215 y216 h217 e218 f219 => ?_
        obtain rfl := h217
        refine deps_cons rfl rfl fun x220 y221 h222 e223 f224 => ?_
        obtain rfl := h222
        refine deps_nil ?_
        refine wl_nil ?_
        refine eo_np ?_
        refine eo_then ?_
        refine cw_false rfl ?_
        refine cw_skip ?_
        refine eo_then ?_
        refine cw_seq ?_
        refine cw_region ?_
        refine wl_move rfl rfl (by decide) ?_
        refine wl_move rfl rfl (by decide) ?_
        refine wl_pure rfl rfl (v := .int .i64 ((xs.length : Nat) : Int)) (by decide) (by kernel_rfl) ?_
        refine wl_cmp rfl rfl rfl false (cb_ge_f (a := i) (b := xs.length) rfl rfl (by omega)) (by decide) ?_
        refine wl_move rfl rfl (by decide) ?_
        refine wl_off rfl (by decide) ?_
        refine wl_off rfl (by decide) ?_
        refine wl_off rfl (by decide) ?_
        refine wl_off rfl (by decide) ?_
        refine wl_off rfl (by decide) ?_
        refine wl_off rfl (by decide) ?_
        refine wl_off rfl (by decide) ?_
        refine wl_off rfl (by decide) ?_
        refine wl_pure rfl rfl (v := .bool false) (by decide) (by kernel_rfl) ?_
        refine wl_nil ?_
        refine eo_then ?_
        refine cw_false rfl ?_
        refine cw_skip ?_
        refine eo_block_normal ?_
        refine eo_then ?_
        refine cw_region ?_
        refine wl_move rfl rfl (by decide) ?_
        refine wl_ar rfl rfl rfl ((i + 1 : Nat) : Int) (ai_add (a := i) (b := 1) rfl rfl (by omega)) (by decide) ?_
        refine wl_assign rfl rfl (by decide) ?_
        refine wl_nil ?_
        refine eo_round (⟨v148, i + 1⟩ : World × Nat) ⟨hw2, (by omega), (rl0.ext e149), (rl1.ext e149)⟩ (show xs.length + 80 - (i + 1) < xs.length + 80 - i by omega) rfl ⟨rfl, rfl, rfl, trivial⟩
    ·
      have hro : (room xs).getD i 0 = 6510516211317473280 + i := room_high (by omega) hi80
      refine cw_draw mix 15 [] [Is (.int .i64 ((i : Nat) : Int)), Is (.slice A xs.length ac), Is (.int .i64 ((xs.length : Nat) : Int)), Is (.bool false), Is (.bool false), Is (undef), Is (undef), Is (undef), Is (undef), Is (undef), Is (undef), Is (undef), Is (undef), Is (undef), Is (.bool false)] [[], [], [1], [0, 2], [3], [4], [4], [4, 5, 6], [4, 7], [4], [4], [4, 9, 10], [4, 11], [4, 8, 12], [4, 13]] [[], [], [1], [0, 1, 2], [0, 1, 2, 3], [0, 1, 2, 3, 4], [0, 1, 2, 3, 4], [0, 1, 2, 3, 4, 5, 6], [0, 1, 2, 3, 4, 5, 6, 7], [0, 1, 2, 3, 4], [0, 1, 2, 3, 4], [0, 1, 2, 3, 4, 9, 10], [0, 1, 2, 3, 4, 9, 10, 11], [0, 1, 2, 3, 4, 5, 6, 7, 8, 9, 10, 11, 12], [0, 1, 2, 3, 4, 5, 6, 7, 8, 9, 10, 11, 12, 13]] rfl
        (obs_cons rfl rfl (hob rfl rfl ?_) (obs_cons rfl rfl (hob rfl rfl ?_) (obs_cons rfl rfl (hob rfl rfl ?_) (obs_cons rfl rfl (hob rfl rfl ?_) (obs_cons rfl rfl (hob rfl rfl ?_) (obs_cons rfl rfl (hob rfl rfl ?_) (obs_cons rfl rfl (hob rfl rfl ?_) (obs_cons rfl rfl (hob rfl rfl ?_) (obs_cons rfl rfl (hob rfl rfl ?_) (obs_cons rfl rfl (hob rfl rfl ?_) (obs_cons rfl rfl (hob rfl rfl ?_) (obs_cons rfl rfl (hob rfl rfl ?_) (obs_cons rfl rfl (hob rfl rfl ?_) (obs_cons rfl rfl (hob rfl rfl ?_) (obs_cons rfl rfl (hob rfl rfl ?_) obs_nil))))))))))))))) ?_
      · -- 0
        intro v225 e226
        have hw2 : Ext w v225 := hw1.trans e226
        refine deps_nil ?_
        refine wl_move rfl rfl (by decide) ?_
        exact pi_done rfl (Ext.refl _) rfl
      · -- 1
        intro v227 e228
        have hw2 : Ext w v227 := hw1.trans e228
        refine deps_nil ?_
        refine wl_move rfl rfl (by decide) ?_
        exact pi_done rfl (Ext.refl _) rfl
      · -- 2
        intro v229 e230
        have hw2 : Ext w v229 := hw1.trans e230
        refine deps_cons rfl rfl fun x231 y232 h233 e234 f235 => ?_
        obtain rfl := h233
        refine deps_nil ?_
        refine wl_pure rfl rfl (v := .int .i64 ((xs.length : Nat) : Int)) (by decide) (by kernel_rfl) ?_
        exact pi_done rfl (Ext.refl _) rfl
      · -- 3
        intro v236 e237
        have hw2 : Ext w v236 := hw1.trans e237
        refine deps_cons rfl rfl fun x238 y239 h240 e241 f242 => ?_
        obtain rfl := h240
        refine deps_cons rfl rfl fun x243 y244 h245 e246 f247 => ?_
        obtain rfl := h245
        refine deps_nil ?_
        refine wl_cmp rfl rfl rfl false (cb_lt_f (a := i) (b := xs.length) rfl rfl (by omega)) (by decide) ?_
        exact pi_done rfl (Ext.refl _) rfl
      · -- 4
        intro v248 e249
        have hw2 : Ext w v248 := hw1.trans e249
        refine deps_cons rfl rfl fun x250 y251 h252 e253 f254 => ?_
        obtain rfl := h252
        refine deps_nil ?_
        refine wl_move rfl rfl (by decide) ?_
        exact pi_done rfl (Ext.refl _) rfl
      · -- 5
        intro v255 e256
        have hw2 : Ext w v255 := hw1.trans e256
        refine deps_cons rfl rfl fun x257 y258 h259 e260 f261 => ?_
        obtain rfl := h259
        refine deps_nil ?_
        refine wl_off rfl (by decide) ?_
        exact pi_done rfl (Ext.refl _) rfl
      · -- 6
        intro v262 e263
        have hw2 : Ext w v262 := hw1.trans e263
        refine deps_cons rfl rfl fun x264 y265 h266 e267 f268 => ?_
        obtain rfl := h266
        refine deps_nil ?_
        refine wl_off rfl (by decide) ?_
        exact pi_done rfl (Ext.refl _) rfl
      · -- 7
        intro v269 e270
        have hw2 : Ext w v269 := hw1.trans e270
        refine deps_cons rfl rfl fun x271 y272 h273 e274 f275 => ?_
        obtain rfl := h273
        refine deps_cons rfl rfl fun x276 y277 h278 e279 f280 => ?_
        obtain rfl := h278
        refine deps_cons rfl rfl fun x281 y282 h283 e284 f285 => ?_
        obtain rfl := h283
        refine deps_nil ?_
        refine wl_off rfl (by decide) ?_
        exact pi_done rfl (Ext.refl _) rfl
      · -- 8
        intro v286 e287
        have hw2 : Ext w v286 := hw1.trans e287
        refine deps_cons rfl rfl fun x288 y289 h290 e291 f292 => ?_
        obtain rfl := h290
        refine deps_cons rfl rfl fun x293 y294 h295 e296 f297 => ?_
        obtain rfl := h295
        refine deps_nil ?_
        refine wl_off rfl (by decide) ?_
        exact pi_done rfl (Ext.refl _) rfl
      · -- 9
        intro v298 e299
        have hw2 : Ext w v298 := hw1.trans e299
        refine deps_cons rfl rfl fun x300 y301 h302 e303 f304 => ?_
        obtain rfl := h302
        refine deps_nil ?_
        refine wl_off rfl (by decide) ?_
        exact pi_done rfl (Ext.refl _) rfl
      · -- 10
        intro v305 e306
        have hw2 : Ext w v305 := hw1.trans e306
        refine deps_cons rfl rfl fun x307 y308 h309 e310 f311 => ?_
        obtain rfl := h309
        refine deps_nil ?_
        refine wl_off rfl (by decide) ?_
        exact pi_done rfl (Ext.refl _) rfl
      · -- 11
        intro v312 e313
        have hw2 : Ext w v312 := hw1.trans e313
        refine deps_cons rfl rfl fun x314 y315 h316 e317 f318 => ?_
        obtain rfl := h316
        refine deps_cons rfl rfl fun x319 y320 h321 e322 f323 => ?_
        obtain rfl := h321
        refine deps_cons rfl rfl fun x324 y325 h326 e327 f328 => ?_
        obtain rfl := h326
        refine deps_nil ?_
        refine wl_off rfl (by decide) ?_
        exact pi_done rfl (Ext.refl _) rfl
      · -- 12
        intro v329 e330
        have hw2 : Ext w v329 := hw1.trans e330
        refine deps_cons rfl rfl fun x331 y332 h333 e334 f335 => ?_
        obtain rfl := h333
        refine deps_cons rfl rfl fun x336 y337 h338 e339 f340 => ?_
        obtain rfl := h338
        refine deps_nil ?_
        refine wl_off rfl (by decide) ?_
        exact pi_done rfl (Ext.refl _) rfl
      · -- 13
        intro v341 e342
        have hw2 : Ext w v341 := hw1.trans e342
        refine deps_cons rfl rfl fun x343 y344 h345 e346 f347 => ?_
        obtain rfl := h345
        refine deps_cons rfl rfl fun x348 y349 h350 e351 f352 => ?_
        obtain rfl := h350
        refine deps_cons rfl rfl fun x353 y354 h355 e356 f357 => ?_
        obtain rfl := h355
        refine deps_nil ?_
        refine wl_off rfl (by decide) ?_
        exact pi_done rfl (Ext.refl _) rfl
      · -- 14
        intro v358 e359
        have hw2 : Ext w v358 := hw1.trans e359
        refine deps_cons rfl rfl fun x360 y361 h362 e363 f364 => ?_
        obtain rfl := h362
        refine deps_cons rfl rfl fun x365 y366 h367 e368 f369 => ?_
        obtain rfl := h367
        refine deps_nil ?_
        refine wl_pure rfl rfl (v := .bool false) (by decide) (by kernel_rfl) ?_
        exact pi_done rfl (Ext.refl _) rfl
      · -- all
        intro v370 e371
        have hw2 : Ext w v370 := hw1.trans e371
        refine deps_cons rfl rfl fun x372 y373 h374 e375 f376 => ?_
        obtain rfl := h374
        refine deps_cons rfl rfl fun x377 y378 h379 e380 f381 => ?_
        obtain rfl := h379
        refine deps_cons rfl rfl fun x382 y383 h384 e385 f386 => ?_
        obtain rfl := h384
        refine deps_cons rfl rfl fun x387 y388 h389 e390 f391 => ?_
        obtain rfl := h389
        refine deps_cons rfl rfl fun x392 y393 h394 e395 f396 => ?_
        obtain rfl := h394
        refine deps_cons rfl rfl fun x397 y398 h399 e400 f401 => ?_
        obtain rfl := h399
        refine deps_cons rfl rfl fun x402 y403 h404 e405 f406 => ?_
        obtain rfl := h404
        refine deps_cons rfl rfl fun x407 y408 h409 e410 f411 => ?_
        obtain rfl := h409
        refine deps_cons rfl rfl fun x412 y413 h414 e415 f416 => ?_
        obtain rfl := h414
        refine deps_cons rfl rfl fun x417 y418 h419 e420 f421 => ?_
        obtain rfl := h419
        refine deps_cons rfl rfl fun x422 y423 h424 e425 f426 => ?_
        obtain rfl := h424
        refine deps_cons rfl rfl fun x427 y428 h429 e430 f431 => ?_
        obtain rfl := h429
        refine deps_cons rfl rfl fun x432 y433 h434 e435 f436 => ?_
        obtain rfl := h434
        refine deps_cons rfl rfl fun x437 y438 h439 e440 f441 => ?_
        obtain rfl := h439
        refine deps_cons rfl rfl fun x442 y443 h444 e445 f446 => ?_
        obtain rfl := h444
        refine deps_nil ?_
        refine wl_nil ?_
        refine eo_np ?_
        refine eo_then ?_
        refine cw_false rfl ?_
        refine cw_skip ?_
        refine eo_then ?_
        refine cw_seq ?_
        refine cw_region ?_
        refine wl_move rfl rfl (by decide) ?_
        refine wl_move rfl rfl (by decide) ?_
        refine wl_pure rfl rfl (v := .int .i64 ((xs.length : Nat) : Int)) (by decide) (by kernel_rfl) ?_
        refine wl_cmp rfl rfl rfl true (cb_ge_t (a := i) (b := xs.length) rfl rfl (by omega)) (by decide) ?_
        refine wl_move rfl rfl (by decide) ?_
        refine wl_move rfl rfl (by decide) ?_
        refine wl_move rfl rfl (by decide) ?_
        obtain ⟨p447, hp447, hc447, hv447⟩ := ((rl0.ext e371)).at (i := i) (by omega)
        refine wl_idx rfl rfl rfl un_u64 sz_u64 i rfl (by omega) p447 hp447 (by decide) ?_
        refine wl_load rfl rfl (load_cell1 ag_u64 hc447) (by decide) ?_
        refine wl_move rfl rfl (by decide) ?_
        refine wl_pureE rfl rfl (v := .int .u64 (IntKind.u64.wrap ((i : Nat) : Int))) (v' := .int .u64 ((i : Nat) : Int)) (by decide) (by kernel_rfl) (cv_u64 (by first | omega | exact hle64)) ?_
        refine wl_ar rfl rfl rfl ((6510516211317473280 + i : Nat) : Int) (au_add (a := 6510516211317473280) (b := i) rfl rfl (by omega)) (by decide) ?_
        refine wl_cmp rfl rfl rfl false (cb_ne_f (a := (room xs).getD i 0) (b := 6510516211317473280 + i) rfl rfl (by omega)) (by decide) ?_
        refine wl_pure rfl rfl (v := .bool false) (by decide) (by kernel_rfl) ?_
        refine wl_nil ?_
        refine eo_then ?_
        refine cw_false rfl ?_
        refine cw_skip ?_
        refine eo_block_normal ?_
        refine eo_then ?_
        refine cw_region ?_
        refine wl_move rfl rfl (by decide) ?_
        refine wl_ar rfl rfl rfl ((i + 1 : Nat) : Int) (ai_add (a := i) (b := 1) rfl rfl (by omega)) (by decide) ?_
        refine wl_assign rfl rfl (by decide) ?_
        refine wl_nil ?_
        refine eo_round (⟨v370, i + 1⟩ : World × Nat) ⟨hw2, (by omega), (rl0.ext e371), (rl1.ext e371)⟩ (show xs.length + 80 - (i + 1) < xs.length + 80 - i by omega) rfl ⟨rfl, rfl, rfl, trivial⟩
  ·
    refine cw_region ?_
    refine wl_move rfl rfl (by decide) ?_
    refine wl_move rfl rfl (by decide) ?_
    refine wl_pure rfl rfl (v := .int .i64 (((xs.length + 80) : Nat) : Int)) (by decide) (by kernel_rfl) ?_
    refine wl_cmp rfl rfl rfl false (cb_lt_f (a := i) (b := xs.length + 80) rfl rfl (by omega)) (by decide) ?_
    refine wl_nil ?_
    refine eo_then ?_
    refine cw_false rfl ?_
    refine cw_exit ?_
    refine eo_thenX ?_
    refine eo_loopX ?_
    refine eo_block_here ?_
    refine eo_then ?_
    refine cw_seq ?_
    refine cw_region ?_
    refine wl_assign rfl rfl (by decide) ?_
    refine wl_nil ?_
    refine eo_then ?_
    refine cw_ret ?_
    refine eo_ret [.bool true] rfl ⟨rfl, trivial⟩ ?_
    exact ⟨_, rfl, rfl, hw1⟩
end Go.Proofs.YtmjdmjflgiicaaaDoor

namespace Go.Proofs.YtmjdmjflgiicaaaDoor
open Go.RowKit
set_option maxHeartbeats 4000000 in
theorem g_wanted4_good {w : World} {k : Int} {bs : List Nat} (hbs : ∀ b, b ∈ bs → b < 256) (hlen : bs.length ≤ 1048576) {base : Nat} (hbl : 2 ≤ base) (hbu : base ≤ 36) :
    Calls Tryd.prog 46 #[.int .i64 k, .string (strB bs), .int .i64 ((base : Nat) : Int)] w (Gv w (WR w.heap.size (ans4 k bs ((base : Nat) : Int)))) := by
  refine sx_enter Tryd.func46 rfl (n := 31) rfl (Nat.le_of_ble_eq_true rfl) (args := [.int .i64 k, .string (strB bs), .int .i64 ((base : Nat) : Int)]) ?_
  refine cw_keep [(0, .int .i64 k), (1, .string (strB bs)), (2, .int .i64 ((base : Nat) : Int))] ⟨rfl, rfl, rfl, trivial⟩ ?_
  refine cw_seq ?_
  refine cw_region ?_
  refine wl_assign rfl rfl (by decide) ?_
  refine wl_nil ?_
  refine eo_then ?_
  refine cw_seq ?_
  by_cases hg : Good base bs
  ·
    by_cases hk6 : k = 6
    ·
      by_cases hg10 : Good 10 bs
      ·
        have hans : ans4 k bs ((base : Nat) : Int) = vald 10 (bs.map dv) := by unfold ans4; rw [if_pos hk6, if_pos hg10]
        refine cw_region ?_
        refine wl_move rfl rfl (by decide) ?_
        refine wl_move rfl rfl (by decide) ?_
        refine wl_call rfl rfl (vs := [.string (strB bs), .int .i64 ((base : Nat) : Int)]) (by kernel_rfl) (by decide) ((ref4_Read_good hbs (by omega) hbl hbu hg).mono (Gv.imp (T2.imp (WR.imp (Ext.refl w).size) Is.imp))) ?_
        rintro _ v1 ⟨xr3, rfl, r3, e2⟩
        refine ret_intro ?_
        have hw1 : Ext w v1 := (Ext.refl w).trans e2
        obtain ⟨a4_0, a4_1, rfl, r4_0, r4_1⟩ := r3
        obtain ⟨A5, n5, c5, rfl, j5, o5⟩ := r4_0
        obtain rfl := r4_1
        refine wl_move rfl rfl (by decide) ?_
        refine wl_pure rfl rfl (v := .slice A5 n5 c5) (by decide) (by kernel_rfl) ?_
        refine wl_pure rfl rfl (v := .int .i64 0) (by decide) (by kernel_rfl) ?_
        refine wl_assign rfl rfl (by decide) ?_
        refine wl_assign rfl rfl (by decide) ?_
        refine wl_nil ?_
        refine eo_then ?_
        refine cw_seq ?_
        refine cw_seq ?_
        refine cw_region ?_
        refine wl_move rfl rfl (by decide) ?_
        refine wl_nil ?_
        refine eo_then ?_
        refine cw_block ?_
        refine cw_seq ?_
        refine cw_region ?_
        refine wl_cmp rfl rfl rfl true (eq_t hk6) (by decide) ?_
        refine wl_assign rfl rfl (by decide) ?_
        refine wl_nil ?_
        refine eo_then ?_
        refine cw_true rfl ?_
        refine cw_region ?_
        refine wl_move rfl rfl (by decide) ?_
        refine wl_call rfl rfl (vs := [.string (strB bs)]) (by kernel_rfl) (by decide) ((ref4_ReadDec_good hbs (by omega) hg10).mono (Gv.imp (T2.imp (WR.imp hw1.size) Is.imp))) ?_
        rintro _ v6 ⟨xr8, rfl, r8, e7⟩
        refine ret_intro ?_
        have hw2 : Ext w v6 := hw1.trans e7
        obtain ⟨a9_0, a9_1, rfl, r9_0, r9_1⟩ := r8
        obtain ⟨A10, n10, c10, rfl, j10, o10⟩ := r9_0
        obtain rfl := r9_1
        refine wl_move rfl rfl (by decide) ?_
        refine wl_pure rfl rfl (v := .slice A10 n10 c10) (by decide) (by kernel_rfl) ?_
        refine wl_pure rfl rfl (v := .int .i64 0) (by decide) (by kernel_rfl) ?_
        refine wl_assign rfl rfl (by decide) ?_
        refine wl_nil ?_
        refine eo_block_normal ?_
        refine eo_then ?_
        refine cw_seq ?_
        refine cw_region ?_
        refine wl_move rfl rfl (by decide) ?_
        refine wl_assign rfl rfl (by decide) ?_
        refine wl_nil ?_
        refine eo_then ?_
        refine cw_ret ?_
        refine eo_ret [.slice A10 n10 c10] rfl ⟨rfl, trivial⟩ ?_
        exact ⟨_, rfl, (by rw [hans]; exact ⟨_, _, _, rfl, j10, o10⟩), hw2⟩
      ·
        have hans : ans4 k bs ((base : Nat) : Int) = 0 := by unfold ans4; rw [if_pos hk6, if_neg hg10]
        refine cw_region ?_
        refine wl_move rfl rfl (by decide) ?_
        refine wl_move rfl rfl (by decide) ?_
        refine wl_call rfl rfl (vs := [.string (strB bs), .int .i64 ((base : Nat) : Int)]) (by kernel_rfl) (by decide) ((ref4_Read_good hbs (by omega) hbl hbu hg).mono (Gv.imp (T2.imp (WR.imp (Ext.refl w).size) Is.imp))) ?_
        rintro _ v11 ⟨xr13, rfl, r13, e12⟩
        refine ret_intro ?_
        have hw1 : Ext w v11 := (Ext.refl w).trans e12
        obtain ⟨a14_0, a14_1, rfl, r14_0, r14_1⟩ := r13
        obtain ⟨A15, n15, c15, rfl, j15, o15⟩ := r14_0
        obtain rfl := r14_1
        refine wl_move rfl rfl (by decide) ?_
        refine wl_pure rfl rfl (v := .slice A15 n15 c15) (by decide) (by kernel_rfl) ?_
        refine wl_pure rfl rfl (v := .int .i64 0) (by decide) (by kernel_rfl) ?_
        refine wl_assign rfl rfl (by decide) ?_
        refine wl_assign rfl rfl (by decide) ?_
        refine wl_nil ?_
        refine eo_then ?_
        refine cw_seq ?_
        refine cw_seq ?_
        refine cw_region ?_
        refine wl_move rfl rfl (by decide) ?_
        refine wl_nil ?_
        refine eo_then ?_
        refine cw_block ?_
        refine cw_seq ?_
        refine cw_region ?_
        refine wl_cmp rfl rfl rfl true (eq_t hk6) (by decide) ?_
        refine wl_assign rfl rfl (by decide) ?_
        refine wl_nil ?_
        refine eo_then ?_
        refine cw_true rfl ?_
        refine cw_region ?_
        refine wl_move rfl rfl (by decide) ?_
        refine wl_call rfl rfl (vs := [.string (strB bs)]) (by kernel_rfl) (by decide) (ref4_ReadDec_bad hbs (by omega) hg10) ?_
        rintro _ v16 ⟨xr18, rfl, r18, e17⟩
        refine ret_intro ?_
        have hw2 : Ext w v16 := hw1.trans e17
        obtain ⟨a19_0, a19_1, rfl, r19_0, r19_1⟩ := r18
        obtain rfl := r19_0
        obtain rfl := r19_1
        refine wl_move rfl rfl (by decide) ?_
        refine wl_pure rfl rfl (v := .slice none 0 0) (by decide) (by kernel_rfl) ?_
        refine wl_pure rfl rfl (v := .int .i64 7) (by decide) (by kernel_rfl) ?_
        refine wl_assign rfl rfl (by decide) ?_
        refine wl_nil ?_
        refine eo_block_normal ?_
        refine eo_then ?_
        refine cw_seq ?_
        refine cw_region ?_
        refine wl_move rfl rfl (by decide) ?_
        refine wl_assign rfl rfl (by decide) ?_
        refine wl_nil ?_
        refine eo_then ?_
        refine cw_ret ?_
        refine eo_ret [.slice none 0 0] rfl ⟨rfl, trivial⟩ ?_
        exact ⟨_, rfl, (by rw [hans]; exact wr_nil), hw2⟩
    ·
      by_cases hk7 : k = 7
      ·
        rcases hgp : grp false bs with _ | pl
        ·
          have hans : ans4 k bs ((base : Nat) : Int) = 0 := by unfold ans4; rw [if_neg hk6, if_pos hk7, hgp]
          refine cw_region ?_
          refine wl_move rfl rfl (by decide) ?_
          refine wl_move rfl rfl (by decide) ?_
          refine wl_call rfl rfl (vs := [.string (strB bs), .int .i64 ((base : Nat) : Int)]) (by kernel_rfl) (by decide) ((ref4_Read_good hbs (by omega) hbl hbu hg).mono (Gv.imp (T2.imp (WR.imp (Ext.refl w).size) Is.imp))) ?_
          rintro _ v20 ⟨xr22, rfl, r22, e21⟩
          refine ret_intro ?_
          have hw1 : Ext w v20 := (Ext.refl w).trans e21
          obtain ⟨a23_0, a23_1, rfl, r23_0, r23_1⟩ := r22
          obtain ⟨A24, n24, c24, rfl, j24, o24⟩ := r23_0
          obtain rfl := r23_1
          refine wl_move rfl rfl (by decide) ?_
          refine wl_pure rfl rfl (v := .slice A24 n24 c24) (by decide) (by kernel_rfl) ?_
          refine wl_pure rfl rfl (v := .int .i64 0) (by decide) (by kernel_rfl) ?_
          refine wl_assign rfl rfl (by decide) ?_
          refine wl_assign rfl rfl (by decide) ?_
          refine wl_nil ?_
          refine eo_then ?_
          refine cw_seq ?_
          refine cw_seq ?_
          refine cw_region ?_
          refine wl_move rfl rfl (by decide) ?_
          refine wl_nil ?_
          refine eo_then ?_
          refine cw_block ?_
          refine cw_seq ?_
          refine cw_region ?_
          refine wl_cmp rfl rfl rfl false (eq_f hk6) (by decide) ?_
          refine wl_assign rfl rfl (by decide) ?_
          refine wl_nil ?_
          refine eo_then ?_
          refine cw_false rfl ?_
          refine cw_seq ?_
          refine cw_region ?_
          refine wl_cmp rfl rfl rfl true (eq_t hk7) (by decide) ?_
          refine wl_assign rfl rfl (by decide) ?_
          refine wl_nil ?_
          refine eo_then ?_
          refine cw_true rfl ?_
          refine cw_region ?_
          refine wl_move rfl rfl (by decide) ?_
          refine wl_call rfl rfl (vs := [.string (strB bs)]) (by kernel_rfl) (by decide) ((ref4_ReadGrouped_all hbs (by omega)).mono fun e w' h => h.2 hgp) ?_
          rintro _ v25 ⟨xr27, rfl, r27, e26⟩
          refine ret_intro ?_
          have hw2 : Ext w v25 := hw1.trans e26
          obtain ⟨a28_0, a28_1, rfl, r28_0, r28_1⟩ := r27
          obtain rfl := r28_0
          obtain rfl := r28_1
          refine wl_move rfl rfl (by decide) ?_
          refine wl_pure rfl rfl (v := .slice none 0 0) (by decide) (by kernel_rfl) ?_
          refine wl_pure rfl rfl (v := .int .i64 7) (by decide) (by kernel_rfl) ?_
          refine wl_assign rfl rfl (by decide) ?_
          refine wl_nil ?_
          refine eo_block_normal ?_
          refine eo_then ?_
          refine cw_seq ?_
          refine cw_region ?_
          refine wl_move rfl rfl (by decide) ?_
          refine wl_assign rfl rfl (by decide) ?_
          refine wl_nil ?_
          refine eo_then ?_
          refine cw_ret ?_
          refine eo_ret [.slice none 0 0] rfl ⟨rfl, trivial⟩ ?_
          exact ⟨_, rfl, (by rw [hans]; exact wr_nil), hw2⟩
        ·
          have hans : ans4 k bs ((base : Nat) : Int) = vald 10 (pl.map dv) := by unfold ans4; rw [if_neg hk6, if_pos hk7, hgp]
          refine cw_region ?_
          refine wl_move rfl rfl (by decide) ?_
          refine wl_move rfl rfl (by decide) ?_
          refine wl_call rfl rfl (vs := [.string (strB bs), .int .i64 ((base : Nat) : Int)]) (by kernel_rfl) (by decide) ((ref4_Read_good hbs (by omega) hbl hbu hg).mono (Gv.imp (T2.imp (WR.imp (Ext.refl w).size) Is.imp))) ?_
          rintro _ v29 ⟨xr31, rfl, r31, e30⟩
          refine ret_intro ?_
          have hw1 : Ext w v29 := (Ext.refl w).trans e30
          obtain ⟨a32_0, a32_1, rfl, r32_0, r32_1⟩ := r31
          obtain ⟨A33, n33, c33, rfl, j33, o33⟩ := r32_0
          obtain rfl := r32_1
          refine wl_move rfl rfl (by decide) ?_
          refine wl_pure rfl rfl (v := .slice A33 n33 c33) (by decide) (by kernel_rfl) ?_
          refine wl_pure rfl rfl (v := .int .i64 0) (by decide) (by kernel_rfl) ?_
          refine wl_assign rfl rfl (by decide) ?_
          refine wl_assign rfl rfl (by decide) ?_
          refine wl_nil ?_
          refine eo_then ?_
          refine cw_seq ?_
          refine cw_seq ?_
          refine cw_region ?_
          refine wl_move rfl rfl (by decide) ?_
          refine wl_nil ?_
          refine eo_then ?_
          refine cw_block ?_
          refine cw_seq ?_
          refine cw_region ?_
          refine wl_cmp rfl rfl rfl false (eq_f hk6) (by decide) ?_
          refine wl_assign rfl rfl (by decide) ?_
          refine wl_nil ?_
          refine eo_then ?_
          refine cw_false rfl ?_
          refine cw_seq ?_
          refine cw_region ?_
          refine wl_cmp rfl rfl rfl true (eq_t hk7) (by decide) ?_
          refine wl_assign rfl rfl (by decide) ?_
          refine wl_nil ?_
          refine eo_then ?_
          refine cw_true rfl ?_
          refine cw_region ?_
          refine wl_move rfl rfl (by decide) ?_
          refine wl_call rfl rfl (vs := [.string (strB bs)]) (by kernel_rfl) (by decide) ((ref4_ReadGrouped_all hbs (by omega)).mono fun e w' h => Gv.imp (T2.imp (WR.imp hw1.size) Is.imp) _ _ (h.1 _ hgp)) ?_
          rintro _ v34 ⟨xr36, rfl, r36, e35⟩
          refine ret_intro ?_
          have hw2 : Ext w v34 := hw1.trans e35
          obtain ⟨a37_0, a37_1, rfl, r37_0, r37_1⟩ := r36
          obtain ⟨A38, n38, c38, rfl, j38, o38⟩ := r37_0
          obtain rfl := r37_1
          refine wl_move rfl rfl (by decide) ?_
          refine wl_pure rfl rfl (v := .slice A38 n38 c38) (by decide) (by kernel_rfl) ?_
          refine wl_pure rfl rfl (v := .int .i64 0) (by decide) (by kernel_rfl) ?_
          refine wl_assign rfl rfl (by decide) ?_
          refine wl_nil ?_
          refine eo_block_normal ?_
          refine eo_then ?_
          refine cw_seq ?_
          refine cw_region ?_
          refine wl_move rfl rfl (by decide) ?_
          refine wl_assign rfl rfl (by decide) ?_
          refine wl_nil ?_
          refine eo_then ?_
          refine cw_ret ?_
          refine eo_ret [.slice A38 n38 c38] rfl ⟨rfl, trivial⟩ ?_
          exact ⟨_, rfl, (by rw [hans]; exact ⟨_, _, _, rfl, j38, o38⟩), hw2⟩
      ·
        have hans : ans4 k bs ((base : Nat) : Int) = vald base (bs.map dv) := by unfold ans4; rw [if_neg hk6, if_neg hk7, if_neg (by omega), Int.toNat_natCast, if_pos hg]
        refine cw_region ?_
        refine wl_move rfl rfl (by decide) ?_
        refine wl_move rfl rfl (by decide) ?_
        refine wl_call rfl rfl (vs := [.string (strB bs), .int .i64 ((base : Nat) : Int)]) (by kernel_rfl) (by decide) ((ref4_Read_good hbs (by omega) hbl hbu hg).mono (Gv.imp (T2.imp (WR.imp (Ext.refl w).size) Is.imp))) ?_
        rintro _ v39 ⟨xr41, rfl, r41, e40⟩
        refine ret_intro ?_
        have hw1 : Ext w v39 := (Ext.refl w).trans e40
        obtain ⟨a42_0, a42_1, rfl, r42_0, r42_1⟩ := r41
        obtain ⟨A43, n43, c43, rfl, j43, o43⟩ := r42_0
        obtain rfl := r42_1
        refine wl_move rfl rfl (by decide) ?_
        refine wl_pure rfl rfl (v := .slice A43 n43 c43) (by decide) (by kernel_rfl) ?_
        refine wl_pure rfl rfl (v := .int .i64 0) (by decide) (by kernel_rfl) ?_
        refine wl_assign rfl rfl (by decide) ?_
        refine wl_assign rfl rfl (by decide) ?_
        refine wl_nil ?_
        refine eo_then ?_
        refine cw_seq ?_
        refine cw_seq ?_
        refine cw_region ?_
        refine wl_move rfl rfl (by decide) ?_
        refine wl_nil ?_
        refine eo_then ?_
        refine cw_block ?_
        refine cw_seq ?_
        refine cw_region ?_
        refine wl_cmp rfl rfl rfl false (eq_f hk6) (by decide) ?_
        refine wl_assign rfl rfl (by decide) ?_
        refine wl_nil ?_
        refine eo_then ?_
        refine cw_false rfl ?_
        refine cw_seq ?_
        refine cw_region ?_
        refine wl_cmp rfl rfl rfl false (eq_f hk7) (by decide) ?_
        refine wl_assign rfl rfl (by decide) ?_
        refine wl_nil ?_
        refine eo_then ?_
        refine cw_false rfl ?_
        refine cw_skip ?_
        refine eo_block_normal ?_
        refine eo_then ?_
        refine cw_seq ?_
        refine cw_region ?_
        refine wl_move rfl rfl (by decide) ?_
        refine wl_assign rfl rfl (by decide) ?_
        refine wl_nil ?_
        refine eo_then ?_
        refine cw_ret ?_
        refine eo_ret [.slice A43 n43 c43] rfl ⟨rfl, trivial⟩ ?_
        exact ⟨_, rfl, (by rw [hans]; exact ⟨_, _, _, rfl, j43, o43⟩), hw1⟩
  ·
    by_cases hk6 : k = 6
    ·
      by_cases hg10 : Good 10 bs
      ·
        have hans : ans4 k bs ((base : Nat) : Int) = vald 10 (bs.map dv) := by unfold ans4; rw [if_pos hk6, if_pos hg10]
        refine cw_region ?_
        refine wl_move rfl rfl (by decide) ?_
        refine wl_move rfl rfl (by decide) ?_
        refine wl_call rfl rfl (vs := [.string (strB bs), .int .i64 ((base : Nat) : Int)]) (by kernel_rfl) (by decide) (ref4_Read_bad hbs (by omega) hbl hbu hg) ?_
        rintro _ v44 ⟨xr46, rfl, r46, e45⟩
        refine ret_intro ?_
        have hw1 : Ext w v44 := (Ext.refl w).trans e45
        obtain ⟨a47_0, a47_1, rfl, r47_0, r47_1⟩ := r46
        obtain rfl := r47_0
        obtain rfl := r47_1
        refine wl_move rfl rfl (by decide) ?_
        refine wl_pure rfl rfl (v := .slice none 0 0) (by decide) (by kernel_rfl) ?_
        refine wl_pure rfl rfl (v := .int .i64 7) (by decide) (by kernel_rfl) ?_
        refine wl_assign rfl rfl (by decide) ?_
        refine wl_assign rfl rfl (by decide) ?_
        refine wl_nil ?_
        refine eo_then ?_
        refine cw_seq ?_
        refine cw_seq ?_
        refine cw_region ?_
        refine wl_move rfl rfl (by decide) ?_
        refine wl_nil ?_
        refine eo_then ?_
        refine cw_block ?_
        refine cw_seq ?_
        refine cw_region ?_
        refine wl_cmp rfl rfl rfl true (eq_t hk6) (by decide) ?_
        refine wl_assign rfl rfl (by decide) ?_
        refine wl_nil ?_
        refine eo_then ?_
        refine cw_true rfl ?_
        refine cw_region ?_
        refine wl_move rfl rfl (by decide) ?_
        refine wl_call rfl rfl (vs := [.string (strB bs)]) (by kernel_rfl) (by decide) ((ref4_ReadDec_good hbs (by omega) hg10).mono (Gv.imp (T2.imp (WR.imp hw1.size) Is.imp))) ?_
        rintro _ v48 ⟨xr50, rfl, r50, e49⟩
        refine ret_intro ?_
        have hw2 : Ext w v48 := hw1.trans e49
        obtain ⟨a51_0, a51_1, rfl, r51_0, r51_1⟩ := r50
        obtain ⟨A52, n52, c52, rfl, j52, o52⟩ := r51_0
        obtain rfl := r51_1
        refine wl_move rfl rfl (by decide) ?_
        refine wl_pure rfl rfl (v := .slice A52 n52 c52) (by decide) (by kernel_rfl) ?_
        refine wl_pure rfl rfl (v := .int .i64 0) (by decide) (by kernel_rfl) ?_
        refine wl_assign rfl rfl (by decide) ?_
        refine wl_nil ?_
        refine eo_block_normal ?_
        refine eo_then ?_
        refine cw_seq ?_
        refine cw_region ?_
        refine wl_move rfl rfl (by decide) ?_
        refine wl_assign rfl rfl (by decide) ?_
        refine wl_nil ?_
        refine eo_then ?_
        refine cw_ret ?_
        refine eo_ret [.slice A52 n52 c52] rfl ⟨rfl, trivial⟩ ?_
        exact ⟨_, rfl, (by rw [hans]; exact ⟨_, _, _, rfl, j52, o52⟩), hw2⟩
      ·
        have hans : ans4 k bs ((base : Nat) : Int) = 0 := by unfold ans4; rw [if_pos hk6, if_neg hg10]
        refine cw_region ?_
        refine wl_move rfl rfl (by decide) ?_
        refine wl_move rfl rfl (by decide) ?_
        refine wl_call rfl rfl (vs := [.string (strB bs), .int .i64 ((base : Nat) : Int)]) (by kernel_rfl) (by decide) (ref4_Read_bad hbs (by omega) hbl hbu hg) ?_
        rintro _ v53 ⟨xr55, rfl, r55, e54⟩
        refine ret_intro ?_
        have hw1 : Ext w v53 := (Ext.refl w).trans e54
        obtain ⟨a56_0, a56_1, rfl, r56_0, r56_1⟩ := r55
        obtain rfl := r56_0
        obtain rfl := r56_1
        refine wl_move rfl rfl (by decide) ?_
        refine wl_pure rfl rfl (v := .slice none 0 0) (by decide) (by kernel_rfl) ?_
        refine wl_pure rfl rfl (v := .int .i64 7) (by decide) (by kernel_rfl) ?_
        refine wl_assign rfl rfl (by decide) ?_
        refine wl_assign rfl rfl (by decide) ?_
        refine wl_nil ?_
        refine eo_then ?_
        refine cw_seq ?_
        refine cw_seq ?_
        refine cw_region ?_
        refine wl_move rfl rfl (by decide) ?_
        refine wl_nil ?_
        refine eo_then ?_
        refine cw_block ?_
        refine cw_seq ?_
        refine cw_region ?_
        refine wl_cmp rfl rfl rfl true (eq_t hk6) (by decide) ?_
        refine wl_assign rfl rfl (by decide) ?_
        refine wl_nil ?_
        refine eo_then ?_
        refine cw_true rfl ?_
        refine cw_region ?_
        refine wl_move rfl rfl (by decide) ?_
        refine wl_call rfl rfl (vs := [.string (strB bs)]) (by kernel_rfl) (by decide) (ref4_ReadDec_bad hbs (by omega) hg10) ?_
        rintro _ v57 ⟨xr59, rfl, r59, e58⟩
        refine ret_intro ?_
        have hw2 : Ext w v57 := hw1.trans e58
        obtain ⟨a60_0, a60_1, rfl, r60_0, r60_1⟩ := r59
        obtain rfl := r60_0
        obtain rfl := r60_1
        refine wl_move rfl rfl (by decide) ?_
        refine wl_pure rfl rfl (v := .slice none 0 0) (by decide) (by kernel_rfl) ?_
        refine wl_pure rfl rfl (v := .int .i64 7) (by decide) (by kernel_rfl) ?_
        refine wl_assign rfl rfl (by decide) ?_
        refine wl_nil ?_
        refine eo_block_normal ?_
        refine eo_then ?_
        refine cw_seq ?_
        refine cw_region ?_
        refine wl_move rfl rfl (by decide) ?_
        refine wl_assign rfl rfl (by decide) ?_
        refine wl_nil ?_
        refine eo_then ?_
        refine cw_ret ?_
        refine eo_ret [.slice none 0 0] rfl ⟨rfl, trivial⟩ ?_
        exact ⟨_, rfl, (by rw [hans]; exact wr_nil), hw2⟩
    ·
      by_cases hk7 : k = 7
      ·
        rcases hgp : grp false bs with _ | pl
        ·
          have hans : ans4 k bs ((base : Nat) : Int) = 0 := by unfold ans4; rw [if_neg hk6, if_pos hk7, hgp]
          refine cw_region ?_
          refine wl_move rfl rfl (by decide) ?_
          refine wl_move rfl rfl (by decide) ?_
          refine wl_call rfl rfl (vs := [.string (strB bs), .int .i64 ((base : Nat) : Int)]) (by kernel_rfl) (by decide) (ref4_Read_bad hbs (by omega) hbl hbu hg) ?_
          rintro _ v61 ⟨xr63, rfl, r63, e62⟩
          refine ret_intro ?_
          have hw1 : Ext w v61 := (Ext.refl w).trans e62
          obtain ⟨a64_0, a64_1, rfl, r64_0, r64_1⟩ := r63
          obtain rfl := r64_0
          obtain rfl := r64_1
          refine wl_move rfl rfl (by decide) ?_
          refine wl_pure rfl rfl (v := .slice none 0 0) (by decide) (by kernel_rfl) ?_
          refine wl_pure rfl rfl (v := .int .i64 7) (by decide) (by kernel_rfl) ?_
          refine wl_assign rfl rfl (by decide) ?_
          refine wl_assign rfl rfl (by decide) ?_
          refine wl_nil ?_
          refine eo_then ?_
          refine cw_seq ?_
          refine cw_seq ?_
          refine cw_region ?_
          refine wl_move rfl rfl (by decide) ?_
          refine wl_nil ?_
          refine eo_then ?_
          refine cw_block ?_
          refine cw_seq ?_
          refine cw_region ?_
          refine wl_cmp rfl rfl rfl false (eq_f hk6) (by decide) ?_
          refine wl_assign rfl rfl (by decide) ?_
          refine wl_nil ?_
          refine eo_then ?_
          refine cw_false rfl ?_
          refine cw_seq ?_
          refine cw_region ?_
          refine wl_cmp rfl rfl rfl true (eq_t hk7) (by decide) ?_
          refine wl_assign rfl rfl (by decide) ?_
          refine wl_nil ?_
          refine eo_then ?_
          refine cw_true rfl ?_
          refine cw_region ?_
          refine wl_move rfl rfl (by decide) ?_
          refine wl_call rfl rfl (vs := [.string (strB bs)]) (by kernel_rfl) (by decide) ((ref4_ReadGrouped_all hbs (by omega)).mono fun e w' h => h.2 hgp) ?_
          rintro _ v65 ⟨xr67, rfl, r67, e66⟩
          refine ret_intro ?_
          have hw2 : Ext w v65 := hw1.trans e66
          obtain ⟨a68_0, a68_1, rfl, r68_0, r68_1⟩ := r67
          obtain rfl := r68_0
          obtain rfl := r68_1
          refine wl_move rfl rfl (by decide) ?_
          refine wl_pure rfl rfl (v := .slice none 0 0) (by decide) (by kernel_rfl) ?_
          refine wl_pure rfl rfl (v := .int .i64 7) (by decide) (by kernel_rfl) ?_
          refine wl_assign rfl rfl (by decide) ?_
          refine wl_nil ?_
          refine eo_block_normal ?_
          refine eo_then ?_
          refine cw_seq ?_
          refine cw_region ?_
          refine wl_move rfl rfl (by decide) ?_
          refine wl_assign rfl rfl (by decide) ?_
          refine wl_nil ?_
          refine eo_then ?_
          refine cw_ret ?_
          refine eo_ret [.slice none 0 0] rfl ⟨rfl, trivial⟩ ?_
          exact ⟨_, rfl, (by rw [hans]; exact wr_nil), hw2⟩
        ·
          have hans : ans4 k bs ((base : Nat) : Int) = vald 10 (pl.map dv) := by unfold ans4; rw [if_neg hk6, if_pos hk7, hgp]
          refine cw_region ?_
          refine wl_move rfl rfl (by decide) ?_
          refine wl_move rfl rfl (by decide) ?_
          refine wl_call rfl rfl (vs := [.string (strB bs), .int .i64 ((base : Nat) : Int)]) (by kernel_rfl) (by decide) (ref4_Read_bad hbs (by omega) hbl hbu hg) ?_
          rintro _ v69 ⟨xr71, rfl, r71, e70⟩
          refine ret_intro ?_
          have hw1 : Ext w v69 := (Ext.refl w).trans e70
          obtain ⟨a72_0, a72_1, rfl, r72_0, r72_1⟩ := r71
          obtain rfl := r72_0
          obtain rfl := r72_1
          refine wl_move rfl rfl (by decide) ?_
          refine wl_pure rfl rfl (v := .slice none 0 0) (by decide) (by kernel_rfl) ?_
          refine wl_pure rfl rfl (v := .int .i64 7) (by decide) (by kernel_rfl) ?_
          refine wl_assign rfl rfl (by decide) ?_
          refine wl_assign rfl rfl (by decide) ?_
          refine wl_nil ?_
          refine eo_then ?_
          refine cw_seq ?_
          refine cw_seq ?_
          refine cw_region ?_
          refine wl_move rfl rfl (by decide) ?_
          refine wl_nil ?_
          refine eo_then ?_
          refine cw_block ?_
          refine cw_seq ?_
          refine cw_region ?_
          refine wl_cmp rfl rfl rfl false (eq_f hk6) (by decide) ?_
          refine wl_assign rfl rfl (by decide) ?_
          refine wl_nil ?_
          refine eo_then ?_
          refine cw_false rfl ?_
          refine cw_seq ?_
          refine cw_region ?_
          refine wl_cmp rfl rfl rfl true (eq_t hk7) (by decide) ?_
          refine wl_assign rfl rfl (by decide) ?_
          refine wl_nil ?_
          refine eo_then ?_
          refine cw_true rfl ?_
          refine cw_region ?_
          refine wl_move rfl rfl (by decide) ?_
          refine wl_call rfl rfl (vs := [.string (strB bs)]) (by kernel_rfl) (by decide) ((ref4_ReadGrouped_all hbs (by omega)).mono fun e w' h => Gv.imp (T2.imp (WR.imp hw1.size) Is.imp) _ _ (h.1 _ hgp)) ?_
          rintro _ v73 ⟨xr75, rfl, r75, e74⟩
          refine ret_intro ?_
          have hw2 : Ext w v73 := hw1.trans e74
          obtain ⟨a76_0, a76_1, rfl, r76_0, r76_1⟩ := r75
          obtain ⟨A77, n77, c77, rfl, j77, o77⟩ := r76_0
          obtain rfl := r76_1
          refine wl_move rfl rfl (by decide) ?_
          refine wl_pure rfl rfl (v := .slice A77 n77 c77) (by decide) (by kernel_rfl) ?_
          refine wl_pure rfl rfl (v := .int .i64 0) (by decide) (by kernel_rfl) ?_
          refine wl_assign rfl rfl (by decide) ?_
          refine wl_nil ?_
          refine eo_block_normal ?_
          refine eo_then ?_
          refine cw_seq ?_
          refine cw_region ?_
          refine wl_move rfl rfl (by decide) ?_
          refine wl_assign rfl rfl (by decide) ?_
          refine wl_nil ?_
          refine eo_then ?_
          refine cw_ret ?_
          refine eo_ret [.slice A77 n77 c77] rfl ⟨rfl, trivial⟩ ?_
          exact ⟨_, rfl, (by rw [hans]; exact ⟨_, _, _, rfl, j77, o77⟩), hw2⟩
      ·
        have hans : ans4 k bs ((base : Nat) : Int) = 0 := by unfold ans4; rw [if_neg hk6, if_neg hk7, if_neg (by omega), Int.toNat_natCast, if_neg hg]
        refine cw_region ?_
        refine wl_move rfl rfl (by decide) ?_
        refine wl_move rfl rfl (by decide) ?_
        refine wl_call rfl rfl (vs := [.string (strB bs), .int .i64 ((base : Nat) : Int)]) (by kernel_rfl) (by decide) (ref4_Read_bad hbs (by omega) hbl hbu hg) ?_
        rintro _ v78 ⟨xr80, rfl, r80, e79⟩
        refine ret_intro ?_
        have hw1 : Ext w v78 := (Ext.refl w).trans e79
        obtain ⟨a81_0, a81_1, rfl, r81_0, r81_1⟩ := r80
        obtain rfl := r81_0
        obtain rfl := r81_1
        refine wl_move rfl rfl (by decide) ?_
        refine wl_pure rfl rfl (v := .slice none 0 0) (by decide) (by kernel_rfl) ?_
        refine wl_pure rfl rfl (v := .int .i64 7) (by decide) (by kernel_rfl) ?_
        refine wl_assign rfl rfl (by decide) ?_
        refine wl_assign rfl rfl (by decide) ?_
        refine wl_nil ?_
        refine eo_then ?_
        refine cw_seq ?_
        refine cw_seq ?_
        refine cw_region ?_
        refine wl_move rfl rfl (by decide) ?_
        refine wl_nil ?_
        refine eo_then ?_
        refine cw_block ?_
        refine cw_seq ?_
        refine cw_region ?_
        refine wl_cmp rfl rfl rfl false (eq_f hk6) (by decide) ?_
        refine wl_assign rfl rfl (by decide) ?_
        refine wl_nil ?_
        refine eo_then ?_
        refine cw_false rfl ?_
        refine cw_seq ?_
        refine cw_region ?_
        refine wl_cmp rfl rfl rfl false (eq_f hk7) (by decide) ?_
        refine wl_assign rfl rfl (by decide) ?_
        refine wl_nil ?_
        refine eo_then ?_
        refine cw_false rfl ?_
        refine cw_skip ?_
        refine eo_block_normal ?_
        refine eo_then ?_
        refine cw_seq ?_
        refine cw_region ?_
        refine wl_move rfl rfl (by decide) ?_
        refine wl_assign rfl rfl (by decide) ?_
        refine wl_nil ?_
        refine eo_then ?_
        refine cw_ret ?_
        refine eo_ret [.slice none 0 0] rfl ⟨rfl, trivial⟩ ?_
        exact ⟨_, rfl, (by rw [hans]; exact wr_nil), hw1⟩
set_option maxHeartbeats 4000000 in
theorem g_wanted4_bad {w : World} {k : Int} {bs : List Nat} (hbs : ∀ b, b ∈ bs → b < 256) (hlen : bs.length ≤ 1048576) {b : Int} (hbad : b < 2 ∨ 36 < b) :
    Calls Tryd.prog 46 #[.int .i64 k, .string (strB bs), .int .i64 b] w (Gv w (WR w.heap.size (ans4 k bs b))) := by
  refine sx_enter Tryd.func46 rfl (n := 31) rfl (Nat.le_of_ble_eq_true rfl) (args := [.int .i64 k, .string (strB bs), .int .i64 b]) ?_
  refine cw_keep [(0, .int .i64 k), (1, .string (strB bs)), (2, .int .i64 b)] ⟨rfl, rfl, rfl, trivial⟩ ?_
  refine cw_seq ?_
  refine cw_region ?_
  refine wl_assign rfl rfl (by decide) ?_
  refine wl_nil ?_
  refine eo_then ?_
  refine cw_seq ?_
  by_cases hk6 : k = 6
  ·
    by_cases hg10 : Good 10 bs
    ·
      have hans : ans4 k bs b = vald 10 (bs.map dv) := by unfold ans4; rw [if_pos hk6, if_pos hg10]
      refine cw_region ?_
      refine wl_move rfl rfl (by decide) ?_
      refine wl_move rfl rfl (by decide) ?_
      refine wl_call rfl rfl (vs := [.string (strB bs), .int .i64 b]) (by kernel_rfl) (by decide) (ref4_Read_badb hbad) ?_
      rintro _ v1 ⟨xr3, rfl, r3, e2⟩
      refine ret_intro ?_
      have hw1 : Ext w v1 := (Ext.refl w).trans e2
      obtain ⟨a4_0, a4_1, rfl, r4_0, r4_1⟩ := r3
      obtain rfl := r4_0
      obtain rfl := r4_1
      refine wl_move rfl rfl (by decide) ?_
      refine wl_pure rfl rfl (v := .slice none 0 0) (by decide) (by kernel_rfl) ?_
      refine wl_pure rfl rfl (v := .int .i64 3) (by decide) (by kernel_rfl) ?_
      refine wl_assign rfl rfl (by decide) ?_
      refine wl_assign rfl rfl (by decide) ?_
      refine wl_nil ?_
      refine eo_then ?_
      refine cw_seq ?_
      refine cw_seq ?_
      refine cw_region ?_
      refine wl_move rfl rfl (by decide) ?_
      refine wl_nil ?_
      refine eo_then ?_
      refine cw_block ?_
      refine cw_seq ?_
      refine cw_region ?_
      refine wl_cmp rfl rfl rfl true (eq_t hk6) (by decide) ?_
      refine wl_assign rfl rfl (by decide) ?_
      refine wl_nil ?_
      refine eo_then ?_
      refine cw_true rfl ?_
      refine cw_region ?_
      refine wl_move rfl rfl (by decide) ?_
      refine wl_call rfl rfl (vs := [.string (strB bs)]) (by kernel_rfl) (by decide) ((ref4_ReadDec_good hbs (by omega) hg10).mono (Gv.imp (T2.imp (WR.imp hw1.size) Is.imp))) ?_
      rintro _ v5 ⟨xr7, rfl, r7, e6⟩
      refine ret_intro ?_
      have hw2 : Ext w v5 := hw1.trans e6
      obtain ⟨a8_0, a8_1, rfl, r8_0, r8_1⟩ := r7
      obtain ⟨A9, n9, c9, rfl, j9, o9⟩ := r8_0
      obtain rfl := r8_1
      refine wl_move rfl rfl (by decide) ?_
      refine wl_pure rfl rfl (v := .slice A9 n9 c9) (by decide) (by kernel_rfl) ?_
      refine wl_pure rfl rfl (v := .int .i64 0) (by decide) (by kernel_rfl) ?_
      refine wl_assign rfl rfl (by decide) ?_
      refine wl_nil ?_
      refine eo_block_normal ?_
      refine eo_then ?_
      refine cw_seq ?_
      refine cw_region ?_
      refine wl_move rfl rfl (by decide) ?_
      refine wl_assign rfl rfl (by decide) ?_
      refine wl_nil ?_
      refine eo_then ?_
      refine cw_ret ?_
      refine eo_ret [.slice A9 n9 c9] rfl ⟨rfl, trivial⟩ ?_
      exact ⟨_, rfl, (by rw [hans]; exact ⟨_, _, _, rfl, j9, o9⟩), hw2⟩
    ·
      have hans : ans4 k bs b = 0 := by unfold ans4; rw [if_pos hk6, if_neg hg10]
      refine cw_region ?_
      refine wl_move rfl rfl (by decide) ?_
      refine wl_move rfl rfl (by decide) ?_
      refine wl_call rfl rfl (vs := [.string (strB bs), .int .i64 b]) (by kernel_rfl) (by decide) (ref4_Read_badb hbad) ?_
      rintro _ v10 ⟨xr12, rfl, r12, e11⟩
      refine ret_intro ?_
      have hw1 : Ext w v10 := (Ext.refl w).trans e11
      obtain ⟨a13_0, a13_1, rfl, r13_0, r13_1⟩ := r12
      obtain rfl := r13_0
      obtain rfl := r13_1
      refine wl_move rfl rfl (by decide) ?_
      refine wl_pure rfl rfl (v := .slice none 0 0) (by decide) (by kernel_rfl) ?_
      refine wl_pure rfl rfl (v := .int .i64 3) (by decide) (by kernel_rfl) ?_
      refine wl_assign rfl rfl (by decide) ?_
      refine wl_assign rfl rfl (by decide) ?_
      refine wl_nil ?_
      refine eo_then ?_
      refine cw_seq ?_
      refine cw_seq ?_
      refine cw_region ?_
      refine wl_move rfl rfl (by decide) ?_
      refine wl_nil ?_
      refine eo_then ?_
      refine cw_block ?_
      refine cw_seq ?_
      refine cw_region ?_
      refine wl_cmp rfl rfl rfl true (eq_t hk6) (by decide) ?_
      refine wl_assign rfl rfl (by decide) ?_
      refine wl_nil ?_
      refine eo_then ?_
      refine cw_true rfl ?_
      refine cw_region ?_
      refine wl_move rfl rfl (by decide) ?_
      refine wl_call rfl rfl (vs := [.string (strB bs)]) (by kernel_rfl) (by decide) (ref4_ReadDec_bad hbs (by omega) hg10) ?_
      rintro _ v14 ⟨xr16, rfl, r16, e15⟩
      refine ret_intro ?_
      have hw2 : Ext w v14 := hw1.trans e15
      obtain ⟨a17_0, a17_1, rfl, r17_0, r17_1⟩ := r16
      obtain rfl := r17_0
      obtain rfl := r17_1
      refine wl_move rfl rfl (by decide) ?_
      refine wl_pure rfl rfl (v := .slice none 0 0) (by decide) (by kernel_rfl) ?_
      refine wl_pure rfl rfl (v := .int .i64 7) (by decide) (by kernel_rfl) ?_
      refine wl_assign rfl rfl (by decide) ?_
      refine wl_nil ?_
      refine eo_block_normal ?_
      refine eo_then ?_
      refine cw_seq ?_
      refine cw_region ?_
      refine wl_move rfl rfl (by decide) ?_
      refine wl_assign rfl rfl (by decide) ?_
      refine wl_nil ?_
      refine eo_then ?_
      refine cw_ret ?_
      refine eo_ret [.slice none 0 0] rfl ⟨rfl, trivial⟩ ?_
      exact ⟨_, rfl, (by rw [hans]; exact wr_nil), hw2⟩
  ·
    by_cases hk7 : k = 7
    ·
      rcases hgp : grp false bs with _ | pl
      ·
        have hans : ans4 k bs b = 0 := by unfold ans4; rw [if_neg hk6, if_pos hk7, hgp]
        refine cw_region ?_
        refine wl_move rfl rfl (by decide) ?_
        refine wl_move rfl rfl (by decide) ?_
        refine wl_call rfl rfl (vs := [.string (strB bs), .int .i64 b]) (by kernel_rfl) (by decide) (ref4_Read_badb hbad) ?_
        rintro _ v18 ⟨xr20, rfl, r20, e19⟩
        refine ret_intro ?_
        have hw1 : Ext w v18 := (Ext.refl w).trans e19
        obtain ⟨a21_0, a21_1, rfl, r21_0, r21_1⟩ := r20
        obtain rfl := r21_0
        obtain rfl := r21_1
        refine wl_move rfl rfl (by decide) ?_
        refine wl_pure rfl rfl (v := .slice none 0 0) (by decide) (by kernel_rfl) ?_
        refine wl_pure rfl rfl (v := .int .i64 3) (by decide) (by kernel_rfl) ?_
        refine wl_assign rfl rfl (by decide) ?_
        refine wl_assign rfl rfl (by decide) ?_
        refine wl_nil ?_
        refine eo_then ?_
        refine cw_seq ?_
        refine cw_seq ?_
        refine cw_region ?_
        refine wl_move rfl rfl (by decide) ?_
        refine wl_nil ?_
        refine eo_then ?_
        refine cw_block ?_
        refine cw_seq ?_
        refine cw_region ?_
        refine wl_cmp rfl rfl rfl false (eq_f hk6) (by decide) ?_
        refine wl_assign rfl rfl (by decide) ?_
        refine wl_nil ?_
        refine eo_then ?_
        refine cw_false rfl ?_
        refine cw_seq ?_
        refine cw_region ?_
        refine wl_cmp rfl rfl rfl true (eq_t hk7) (by decide) ?_
        refine wl_assign rfl rfl (by decide) ?_
        refine wl_nil ?_
        refine eo_then ?_
        refine cw_true rfl ?_
        refine cw_region ?_
        refine wl_move rfl rfl (by decide) ?_
        refine wl_call rfl rfl (vs := [.string (strB bs)]) (by kernel_rfl) (by decide) ((ref4_ReadGrouped_all hbs (by omega)).mono fun e w' h => h.2 hgp) ?_
        rintro _ v22 ⟨xr24, rfl, r24, e23⟩
        refine ret_intro ?_
        have hw2 : Ext w v22 := hw1.trans e23
        obtain ⟨a25_0, a25_1, rfl, r25_0, r25_1⟩ := r24
        obtain rfl := r25_0
        obtain rfl := r25_1
        refine wl_move rfl rfl (by decide) ?_
        refine wl_pure rfl rfl (v := .slice none 0 0) (by decide) (by kernel_rfl) ?_
        refine wl_pure rfl rfl (v := .int .i64 7) (by decide) (by kernel_rfl) ?_
        refine wl_assign rfl rfl (by decide) ?_
        refine wl_nil ?_
        refine eo_block_normal ?_
        refine eo_then ?_
        refine cw_seq ?_
        refine cw_region ?_
        refine wl_move rfl rfl (by decide) ?_
        refine wl_assign rfl rfl (by decide) ?_
        refine wl_nil ?_
        refine eo_then ?_
        refine cw_ret ?_
        refine eo_ret [.slice none 0 0] rfl ⟨rfl, trivial⟩ ?_
        exact ⟨_, rfl, (by rw [hans]; exact wr_nil), hw2⟩
      ·
        have hans : ans4 k bs b = vald 10 (pl.map dv) := by unfold ans4; rw [if_neg hk6, if_pos hk7, hgp]
        refine cw_region ?_
        refine wl_move rfl rfl (by decide) ?_
        refine wl_move rfl rfl (by decide) ?_
        refine wl_call rfl rfl (vs := [.string (strB bs), .int .i64 b]) (by kernel_rfl) (by decide) (ref4_Read_badb hbad) ?_
        rintro _ v26 ⟨xr28, rfl, r28, e27⟩
        refine ret_intro ?_
        have hw1 : Ext w v26 := (Ext.refl w).trans e27
        obtain ⟨a29_0, a29_1, rfl, r29_0, r29_1⟩ := r28
        obtain rfl := r29_0
        obtain rfl := r29_1
        refine wl_move rfl rfl (by decide) ?_
        refine wl_pure rfl rfl (v := .slice none 0 0) (by decide) (by kernel_rfl) ?_
        refine wl_pure rfl rfl (v := .int .i64 3) (by decide) (by kernel_rfl) ?_
        refine wl_assign rfl rfl (by decide) ?_
        refine wl_assign rfl rfl (by decide) ?_
        refine wl_nil ?_
        refine eo_then ?_
        refine cw_seq ?_
        refine cw_seq ?_
        refine cw_region ?_
        refine wl_move rfl rfl (by decide) ?_
        refine wl_nil ?_
        refine eo_then ?_
        refine cw_block ?_
        refine cw_seq ?_
        refine cw_region ?_
        refine wl_cmp rfl rfl rfl false (eq_f hk6) (by decide) ?_
        refine wl_assign rfl rfl (by decide) ?_
        refine wl_nil ?_
        refine eo_then ?_
        refine cw_false rfl ?_
        refine cw_seq ?_
        refine cw_region ?_
        refine wl_cmp rfl rfl rfl true (eq_t hk7) (by decide) ?_
        refine wl_assign rfl rfl (by decide) ?_
        refine wl_nil ?_
        refine eo_then ?_
        refine cw_true rfl ?_
        refine cw_region ?_
        refine wl_move rfl rfl (by decide) ?_
        refine wl_call rfl rfl (vs := [.string (strB bs)]) (by kernel_rfl) (by decide) ((ref4_ReadGrouped_all hbs (by omega)).mono fun e w' h => Gv.imp (T2.imp (WR.imp hw1.size) Is.imp) _ _ (h.1 _ hgp)) ?_
        rintro _ v30 ⟨xr32, rfl, r32, e31⟩
        refine ret_intro ?_
        have hw2 : Ext w v30 := hw1.trans e31
        obtain ⟨a33_0, a33_1, rfl, r33_0, r33_1⟩ := r32
        obtain ⟨A34, n34, c34, rfl, j34, o34⟩ := r33_0
        obtain rfl := r33_1
        refine wl_move rfl rfl (by decide) ?_
        refine wl_pure rfl rfl (v := .slice A34 n34 c34) (by decide) (by kernel_rfl) ?_
        refine wl_pure rfl rfl (v := .int .i64 0) (by decide) (by kernel_rfl) ?_
        refine wl_assign rfl rfl (by decide) ?_
        refine wl_nil ?_
        refine eo_block_normal ?_
        refine eo_then ?_
        refine cw_seq ?_
        refine cw_region ?_
        refine wl_move rfl rfl (by decide) ?_
        refine wl_assign rfl rfl (by decide) ?_
        refine wl_nil ?_
        refine eo_then ?_
        refine cw_ret ?_
        refine eo_ret [.slice A34 n34 c34] rfl ⟨rfl, trivial⟩ ?_
        exact ⟨_, rfl, (by rw [hans]; exact ⟨_, _, _, rfl, j34, o34⟩), hw2⟩
    ·
      have hans : ans4 k bs b = 0 := by unfold ans4; rw [if_neg hk6, if_neg hk7, if_pos hbad]
      refine cw_region ?_
      refine wl_move rfl rfl (by decide) ?_
      refine wl_move rfl rfl (by decide) ?_
      refine wl_call rfl rfl (vs := [.string (strB bs), .int .i64 b]) (by kernel_rfl) (by decide) (ref4_Read_badb hbad) ?_
      rintro _ v35 ⟨xr37, rfl, r37, e36⟩
      refine ret_intro ?_
      have hw1 : Ext w v35 := (Ext.refl w).trans e36
      obtain ⟨a38_0, a38_1, rfl, r38_0, r38_1⟩ := r37
      obtain rfl := r38_0
      obtain rfl := r38_1
      refine wl_move rfl rfl (by decide) ?_
      refine wl_pure rfl rfl (v := .slice none 0 0) (by decide) (by kernel_rfl) ?_
      refine wl_pure rfl rfl (v := .int .i64 3) (by decide) (by kernel_rfl) ?_
      refine wl_assign rfl rfl (by decide) ?_
      refine wl_assign rfl rfl (by decide) ?_
      refine wl_nil ?_
      refine eo_then ?_
      refine cw_seq ?_
      refine cw_seq ?_
      refine cw_region ?_
      refine wl_move rfl rfl (by decide) ?_
      refine wl_nil ?_
      refine eo_then ?_
      refine cw_block ?_
      refine cw_seq ?_
      refine cw_region ?_
      refine wl_cmp rfl rfl rfl false (eq_f hk6) (by decide) ?_
      refine wl_assign rfl rfl (by decide) ?_
      refine wl_nil ?_
      refine eo_then ?_
      refine cw_false rfl ?_
      refine cw_seq ?_
      refine cw_region ?_
      refine wl_cmp rfl rfl rfl false (eq_f hk7) (by decide) ?_
      refine wl_assign rfl rfl (by decide) ?_
      refine wl_nil ?_
      refine eo_then ?_
      refine cw_false rfl ?_
      refine cw_skip ?_
      refine eo_block_normal ?_
      refine eo_then ?_
      refine cw_seq ?_
      refine cw_region ?_
      refine wl_move rfl rfl (by decide) ?_
      refine wl_assign rfl rfl (by decide) ?_
      refine wl_nil ?_
      refine eo_then ?_
      refine cw_ret ?_
      refine eo_ret [.slice none 0 0] rfl ⟨rfl, trivial⟩ ?_
      exact ⟨_, rfl, (by rw [hans]; exact wr_nil), hw1⟩
set_option maxHeartbeats 4000000 in
theorem g_read4_good {w : World} {k : Int} {bs : List Nat} (hbs : ∀ b, b ∈ bs → b < 256) (hlen : bs.length ≤ 1048576) {base : Nat} (hbl : 2 ≤ base) (hbu : base ≤ 36) :
    Calls Tryd.prog 47 #[.int .i64 k, .string (strB bs), .int .i64 ((base : Nat) : Int)] w (fun e w' => ∃ er : Int, True ∧ Gv w (T2 (WR w.heap.size (ans4 k bs ((base : Nat) : Int))) (Is (.int .i64 er))) e w') := by
  refine sx_enter Tryd.func47 rfl (n := 26) rfl (Nat.le_of_ble_eq_true rfl) (args := [.int .i64 k, .string (strB bs), .int .i64 ((base : Nat) : Int)]) ?_
  refine cw_keep [(0, .int .i64 k), (1, .string (strB bs)), (2, .int .i64 ((base : Nat) : Int))] ⟨rfl, rfl, rfl, trivial⟩ ?_
  refine cw_seq ?_
  refine cw_region ?_
  refine wl_assign rfl rfl (by decide) ?_
  refine wl_assign rfl rfl (by decide) ?_
  refine wl_nil ?_
  refine eo_then ?_
  refine cw_seq ?_
  refine cw_seq ?_
  by_cases hg : Good base bs
  ·
    by_cases hk6 : k = 6
    ·
      by_cases hg10 : Good 10 bs
      ·
        have hans : ans4 k bs ((base : Nat) : Int) = vald 10 (bs.map dv) := by unfold ans4; rw [if_pos hk6, if_pos hg10]
        refine cw_region ?_
        refine wl_move rfl rfl (by decide) ?_
        refine wl_nil ?_
        refine eo_then ?_
        refine cw_block ?_
        refine cw_seq ?_
        refine cw_region ?_
        refine wl_cmp rfl rfl rfl true (eq_t hk6) (by decide) ?_
        refine wl_assign rfl rfl (by decide) ?_
        refine wl_nil ?_
        refine eo_then ?_
        refine cw_true rfl ?_
        refine cw_seq ?_
        refine cw_region ?_
        refine wl_move rfl rfl (by decide) ?_
        refine wl_call rfl rfl (vs := [.string (strB bs)]) (by kernel_rfl) (by decide) ((rx_ReadDec_good hbs (by omega) hg10).mono (Gv.imp (T2.imp (WR.imp (Ext.refl w).size) Is.imp))) ?_
        rintro _ v1 ⟨xr3, rfl, r3, e2⟩
        refine ret_intro ?_
        have hw1 : Ext w v1 := (Ext.refl w).trans e2
        obtain ⟨a4_0, a4_1, rfl, r4_0, r4_1⟩ := r3
        obtain ⟨A5, n5, c5, rfl, j5, o5⟩ := r4_0
        obtain rfl := r4_1
        refine wl_pure rfl rfl (v := .slice A5 n5 c5) (by decide) (by kernel_rfl) ?_
        refine wl_pure rfl rfl (v := .int .i64 0) (by decide) (by kernel_rfl) ?_
        refine wl_assign rfl rfl (by decide) ?_
        refine wl_assign rfl rfl (by decide) ?_
        refine wl_nil ?_
        refine eo_then ?_
        refine cw_ret ?_
        refine eo_block_ret ?_
        refine eo_thenR ?_
        refine eo_ret [.slice A5 n5 c5, .int .i64 0] rfl ⟨rfl, rfl, trivial⟩ ?_
        exact ⟨0, trivial, _, rfl, ⟨_, _, rfl, (by rw [hans]; exact ⟨_, _, _, rfl, j5, o5⟩), rfl⟩, hw1⟩
      ·
        have hans : ans4 k bs ((base : Nat) : Int) = 0 := by unfold ans4; rw [if_pos hk6, if_neg hg10]
        refine cw_region ?_
        refine wl_move rfl rfl (by decide) ?_
        refine wl_nil ?_
        refine eo_then ?_
        refine cw_block ?_
        refine cw_seq ?_
        refine cw_region ?_
        refine wl_cmp rfl rfl rfl true (eq_t hk6) (by decide) ?_
        refine wl_assign rfl rfl (by decide) ?_
        refine wl_nil ?_
        refine eo_then ?_
        refine cw_true rfl ?_
        refine cw_seq ?_
        refine cw_region ?_
        refine wl_move rfl rfl (by decide) ?_
        refine wl_call rfl rfl (vs := [.string (strB bs)]) (by kernel_rfl) (by decide) (rx_ReadDec_bad hbs (by omega) hg10) ?_
        rintro _ v6 ⟨xr8, rfl, r8, e7⟩
        refine ret_intro ?_
        have hw1 : Ext w v6 := (Ext.refl w).trans e7
        obtain ⟨a9_0, a9_1, rfl, r9_0, r9_1⟩ := r8
        obtain rfl := r9_0
        obtain rfl := r9_1
        refine wl_pure rfl rfl (v := .slice none 0 0) (by decide) (by kernel_rfl) ?_
        refine wl_pure rfl rfl (v := .int .i64 7) (by decide) (by kernel_rfl) ?_
        refine wl_assign rfl rfl (by decide) ?_
        refine wl_assign rfl rfl (by decide) ?_
        refine wl_nil ?_
        refine eo_then ?_
        refine cw_ret ?_
        refine eo_block_ret ?_
        refine eo_thenR ?_
        refine eo_ret [.slice none 0 0, .int .i64 7] rfl ⟨rfl, rfl, trivial⟩ ?_
        exact ⟨7, trivial, _, rfl, ⟨_, _, rfl, (by rw [hans]; exact wr_nil), rfl⟩, hw1⟩
    ·
      by_cases hk7 : k = 7
      ·
        rcases hgp : grp false bs with _ | pl
        ·
          have hans : ans4 k bs ((base : Nat) : Int) = 0 := by unfold ans4; rw [if_neg hk6, if_pos hk7, hgp]
          refine cw_region ?_
          refine wl_move rfl rfl (by decide) ?_
          refine wl_nil ?_
          refine eo_then ?_
          refine cw_block ?_
          refine cw_seq ?_
          refine cw_region ?_
          refine wl_cmp rfl rfl rfl false (eq_f hk6) (by decide) ?_
          refine wl_assign rfl rfl (by decide) ?_
          refine wl_nil ?_
          refine eo_then ?_
          refine cw_false rfl ?_
          refine cw_seq ?_
          refine cw_region ?_
          refine wl_cmp rfl rfl rfl true (eq_t hk7) (by decide) ?_
          refine wl_assign rfl rfl (by decide) ?_
          refine wl_nil ?_
          refine eo_then ?_
          refine cw_true rfl ?_
          refine cw_seq ?_
          refine cw_region ?_
          refine wl_move rfl rfl (by decide) ?_
          refine wl_call rfl rfl (vs := [.string (strB bs)]) (by kernel_rfl) (by decide) ((rx_ReadGrouped_all hbs (by omega)).mono fun e w' h => h.2 hgp) ?_
          rintro _ v10 ⟨xr12, rfl, r12, e11⟩
          refine ret_intro ?_
          have hw1 : Ext w v10 := (Ext.refl w).trans e11
          obtain ⟨a13_0, a13_1, rfl, r13_0, r13_1⟩ := r12
          obtain rfl := r13_0
          obtain rfl := r13_1
          refine wl_pure rfl rfl (v := .slice none 0 0) (by decide) (by kernel_rfl) ?_
          refine wl_pure rfl rfl (v := .int .i64 7) (by decide) (by kernel_rfl) ?_
          refine wl_assign rfl rfl (by decide) ?_
          refine wl_assign rfl rfl (by decide) ?_
          refine wl_nil ?_
          refine eo_then ?_
          refine cw_ret ?_
          refine eo_block_ret ?_
          refine eo_thenR ?_
          refine eo_ret [.slice none 0 0, .int .i64 7] rfl ⟨rfl, rfl, trivial⟩ ?_
          exact ⟨7, trivial, _, rfl, ⟨_, _, rfl, (by rw [hans]; exact wr_nil), rfl⟩, hw1⟩
        ·
          have hans : ans4 k bs ((base : Nat) : Int) = vald 10 (pl.map dv) := by unfold ans4; rw [if_neg hk6, if_pos hk7, hgp]
          refine cw_region ?_
          refine wl_move rfl rfl (by decide) ?_
          refine wl_nil ?_
          refine eo_then ?_
          refine cw_block ?_
          refine cw_seq ?_
          refine cw_region ?_
          refine wl_cmp rfl rfl rfl false (eq_f hk6) (by decide) ?_
          refine wl_assign rfl rfl (by decide) ?_
          refine wl_nil ?_
          refine eo_then ?_
          refine cw_false rfl ?_
          refine cw_seq ?_
          refine cw_region ?_
          refine wl_cmp rfl rfl rfl true (eq_t hk7) (by decide) ?_
          refine wl_assign rfl rfl (by decide) ?_
          refine wl_nil ?_
          refine eo_then ?_
          refine cw_true rfl ?_
          refine cw_seq ?_
          refine cw_region ?_
          refine wl_move rfl rfl (by decide) ?_
          refine wl_call rfl rfl (vs := [.string (strB bs)]) (by kernel_rfl) (by decide) ((rx_ReadGrouped_all hbs (by omega)).mono fun e w' h => Gv.imp (T2.imp (WR.imp (Ext.refl w).size) Is.imp) _ _ (h.1 _ hgp)) ?_
          rintro _ v14 ⟨xr16, rfl, r16, e15⟩
          refine ret_intro ?_
          have hw1 : Ext w v14 := (Ext.refl w).trans e15
          obtain ⟨a17_0, a17_1, rfl, r17_0, r17_1⟩ := r16
          obtain ⟨A18, n18, c18, rfl, j18, o18⟩ := r17_0
          obtain rfl := r17_1
          refine wl_pure rfl rfl (v := .slice A18 n18 c18) (by decide) (by kernel_rfl) ?_
          refine wl_pure rfl rfl (v := .int .i64 0) (by decide) (by kernel_rfl) ?_
          refine wl_assign rfl rfl (by decide) ?_
          refine wl_assign rfl rfl (by decide) ?_
          refine wl_nil ?_
          refine eo_then ?_
          refine cw_ret ?_
          refine eo_block_ret ?_
          refine eo_thenR ?_
          refine eo_ret [.slice A18 n18 c18, .int .i64 0] rfl ⟨rfl, rfl, trivial⟩ ?_
          exact ⟨0, trivial, _, rfl, ⟨_, _, rfl, (by rw [hans]; exact ⟨_, _, _, rfl, j18, o18⟩), rfl⟩, hw1⟩
      ·
        have hans : ans4 k bs ((base : Nat) : Int) = vald base (bs.map dv) := by unfold ans4; rw [if_neg hk6, if_neg hk7, if_neg (by omega), Int.toNat_natCast, if_pos hg]
        refine cw_region ?_
        refine wl_move rfl rfl (by decide) ?_
        refine wl_nil ?_
        refine eo_then ?_
        refine cw_block ?_
        refine cw_seq ?_
        refine cw_region ?_
        refine wl_cmp rfl rfl rfl false (eq_f hk6) (by decide) ?_
        refine wl_assign rfl rfl (by decide) ?_
        refine wl_nil ?_
        refine eo_then ?_
        refine cw_false rfl ?_
        refine cw_seq ?_
        refine cw_region ?_
        refine wl_cmp rfl rfl rfl false (eq_f hk7) (by decide) ?_
        refine wl_assign rfl rfl (by decide) ?_
        refine wl_nil ?_
        refine eo_then ?_
        refine cw_false rfl ?_
        refine cw_skip ?_
        refine eo_block_normal ?_
        refine eo_then ?_
        refine cw_seq ?_
        refine cw_region ?_
        refine wl_move rfl rfl (by decide) ?_
        refine wl_move rfl rfl (by decide) ?_
        refine wl_call rfl rfl (vs := [.string (strB bs), .int .i64 ((base : Nat) : Int)]) (by kernel_rfl) (by decide) (rx_Read_good (Ext.refl w).size hbl hbu hbs (by omega) hg) ?_
        rintro _ v19 ⟨xr21, rfl, r21, e20⟩
        refine ret_intro ?_
        have hw1 : Ext w v19 := (Ext.refl w).trans e20
        obtain ⟨a22_0, a22_1, rfl, r22_0, r22_1⟩ := r21
        obtain ⟨A23, n23, c23, rfl, j23, o23⟩ := r22_0
        obtain rfl := r22_1
        refine wl_pure rfl rfl (v := .slice A23 n23 c23) (by decide) (by kernel_rfl) ?_
        refine wl_pure rfl rfl (v := .int .i64 0) (by decide) (by kernel_rfl) ?_
        refine wl_assign rfl rfl (by decide) ?_
        refine wl_assign rfl rfl (by decide) ?_
        refine wl_nil ?_
        refine eo_then ?_
        refine cw_ret ?_
        refine eo_ret [.slice A23 n23 c23, .int .i64 0] rfl ⟨rfl, rfl, trivial⟩ ?_
        exact ⟨0, trivial, _, rfl, ⟨_, _, rfl, (by rw [hans]; exact ⟨_, _, _, rfl, j23, o23⟩), rfl⟩, hw1⟩
  ·
    by_cases hk6 : k = 6
    ·
      by_cases hg10 : Good 10 bs
      ·
        have hans : ans4 k bs ((base : Nat) : Int) = vald 10 (bs.map dv) := by unfold ans4; rw [if_pos hk6, if_pos hg10]
        refine cw_region ?_
        refine wl_move rfl rfl (by decide) ?_
        refine wl_nil ?_
        refine eo_then ?_
        refine cw_block ?_
        refine cw_seq ?_
        refine cw_region ?_
        refine wl_cmp rfl rfl rfl true (eq_t hk6) (by decide) ?_
        refine wl_assign rfl rfl (by decide) ?_
        refine wl_nil ?_
        refine eo_then ?_
        refine cw_true rfl ?_
        refine cw_seq ?_
        refine cw_region ?_
        refine wl_move rfl rfl (by decide) ?_
        refine wl_call rfl rfl (vs := [.string (strB bs)]) (by kernel_rfl) (by decide) ((rx_ReadDec_good hbs (by omega) hg10).mono (Gv.imp (T2.imp (WR.imp (Ext.refl w).size) Is.imp))) ?_
        rintro _ v24 ⟨xr26, rfl, r26, e25⟩
        refine ret_intro ?_
        have hw1 : Ext w v24 := (Ext.refl w).trans e25
        obtain ⟨a27_0, a27_1, rfl, r27_0, r27_1⟩ := r26
        obtain ⟨A28, n28, c28, rfl, j28, o28⟩ := r27_0
        obtain rfl := r27_1
        refine wl_pure rfl rfl (v := .slice A28 n28 c28) (by decide) (by kernel_rfl) ?_
        refine wl_pure rfl rfl (v := .int .i64 0) (by decide) (by kernel_rfl) ?_
        refine wl_assign rfl rfl (by decide) ?_
        refine wl_assign rfl rfl (by decide) ?_
        refine wl_nil ?_
        refine eo_then ?_
        refine cw_ret ?_
        refine eo_block_ret ?_
        refine eo_thenR ?_
        refine eo_ret [.slice A28 n28 c28, .int .i64 0] rfl ⟨rfl, rfl, trivial⟩ ?_
        exact ⟨0, trivial, _, rfl, ⟨_, _, rfl, (by rw [hans]; exact ⟨_, _, _, rfl, j28, o28⟩), rfl⟩, hw1⟩
      ·
        have hans : ans4 k bs ((base : Nat) : Int) = 0 := by unfold ans4; rw [if_pos hk6, if_neg hg10]
        refine cw_region ?_
        refine wl_move rfl rfl (by decide) ?_
        refine wl_nil ?_
        refine eo_then ?_
        refine cw_block ?_
        refine cw_seq ?_
        refine cw_region ?_
        refine wl_cmp rfl rfl rfl true (eq_t hk6) (by decide) ?_
        refine wl_assign rfl rfl (by decide) ?_
        refine wl_nil ?_
        refine eo_then ?_
        refine cw_true rfl ?_
        refine cw_seq ?_
        refine cw_region ?_
        refine wl_move rfl rfl (by decide) ?_
        refine wl_call rfl rfl (vs := [.string (strB bs)]) (by kernel_rfl) (by decide) (rx_ReadDec_bad hbs (by omega) hg10) ?_
        rintro _ v29 ⟨xr31, rfl, r31, e30⟩
        refine ret_intro ?_
        have hw1 : Ext w v29 := (Ext.refl w).trans e30
        obtain ⟨a32_0, a32_1, rfl, r32_0, r32_1⟩ := r31
        obtain rfl := r32_0
        obtain rfl := r32_1
        refine wl_pure rfl rfl (v := .slice none 0 0) (by decide) (by kernel_rfl) ?_
        refine wl_pure rfl rfl (v := .int .i64 7) (by decide) (by kernel_rfl) ?_
        refine wl_assign rfl rfl (by decide) ?_
        refine wl_assign rfl rfl (by decide) ?_
        refine wl_nil ?_
        refine eo_then ?_
        refine cw_ret ?_
        refine eo_block_ret ?_
        refine eo_thenR ?_
        refine eo_ret [.slice none 0 0, .int .i64 7] rfl ⟨rfl, rfl, trivial⟩ ?_
        exact ⟨7, trivial, _, rfl, ⟨_, _, rfl, (by rw [hans]; exact wr_nil), rfl⟩, hw1⟩
    ·
      by_cases hk7 : k = 7
      ·
        rcases hgp : grp false bs with _ | pl
        ·
          have hans : ans4 k bs ((base : Nat) : Int) = 0 := by unfold ans4; rw [if_neg hk6, if_pos hk7, hgp]
          refine cw_region ?_
          refine wl_move rfl rfl (by decide) ?_
          refine wl_nil ?_
          refine eo_then ?_
          refine cw_block ?_
          refine cw_seq ?_
          refine cw_region ?_
          refine wl_cmp rfl rfl rfl false (eq_f hk6) (by decide) ?_
          refine wl_assign rfl rfl (by decide) ?_
          refine wl_nil ?_
          refine eo_then ?_
          refine cw_false rfl ?_
          refine cw_seq ?_
          refine cw_region ?_
          refine wl_cmp rfl rfl rfl true (eq_t hk7) (by decide) ?_
          refine wl_assign rfl rfl (by decide) ?_
          refine wl_nil ?_
          refine eo_then ?_
          refine cw_true rfl ?_
          refine cw_seq ?_
          refine cw_region ?_
          refine wl_move rfl rfl (by decide) ?_
          refine wl_call rfl rfl (vs := [.string (strB bs)]) (by kernel_rfl) (by decide) ((rx_ReadGrouped_all hbs (by omega)).mono fun e w' h => h.2 hgp) ?_
          rintro _ v33 ⟨xr35, rfl, r35, e34⟩
          refine ret_intro ?_
          have hw1 : Ext w v33 := (Ext.refl w).trans e34
          obtain ⟨a36_0, a36_1, rfl, r36_0, r36_1⟩ := r35
          obtain rfl := r36_0
          obtain rfl := r36_1
          refine wl_pure rfl rfl (v := .slice none 0 0) (by decide) (by kernel_rfl) ?_
          refine wl_pure rfl rfl (v := .int .i64 7) (by decide) (by kernel_rfl) ?_
          refine wl_assign rfl rfl (by decide) ?_
          refine wl_assign rfl rfl (by decide) ?_
          refine wl_nil ?_
          refine eo_then ?_
          refine cw_ret ?_
          refine eo_block_ret ?_
          refine eo_thenR ?_
          refine eo_ret [.slice none 0 0, .int .i64 7] rfl ⟨rfl, rfl, trivial⟩ ?_
          exact ⟨7, trivial, _, rfl, ⟨_, _, rfl, (by rw [hans]; exact wr_nil), rfl⟩, hw1⟩
        ·
          have hans : ans4 k bs ((base : Nat) : Int) = vald 10 (pl.map dv) := by unfold ans4; rw [if_neg hk6, if_pos hk7, hgp]
          refine cw_region ?_
          refine wl_move rfl rfl (by decide) ?_
          refine wl_nil ?_
          refine eo_then ?_
          refine cw_block ?_
          refine cw_seq ?_
          refine cw_region ?_
          refine wl_cmp rfl rfl rfl false (eq_f hk6) (by decide) ?_
          refine wl_assign rfl rfl (by decide) ?_
          refine wl_nil ?_
          refine eo_then ?_
          refine cw_false rfl ?_
          refine cw_seq ?_
          refine cw_region ?_
          refine wl_cmp rfl rfl rfl true (eq_t hk7) (by decide) ?_
          refine wl_assign rfl rfl (by decide) ?_
          refine wl_nil ?_
          refine eo_then ?_
          refine cw_true rfl ?_
          refine cw_seq ?_
          refine cw_region ?_
          refine wl_move rfl rfl (by decide) ?_
          refine wl_call rfl rfl (vs := [.string (strB bs)]) (by kernel_rfl) (by decide) ((rx_ReadGrouped_all hbs (by omega)).mono fun e w' h => Gv.imp (T2.imp (WR.imp (Ext.refl w).size) Is.imp) _ _ (h.1 _ hgp)) ?_
          rintro _ v37 ⟨xr39, rfl, r39, e38⟩
          refine ret_intro ?_
          have hw1 : Ext w v37 := (Ext.refl w).trans e38
          obtain ⟨a40_0, a40_1, rfl, r40_0, r40_1⟩ := r39
          obtain ⟨A41, n41, c41, rfl, j41, o41⟩ := r40_0
          obtain rfl := r40_1
          refine wl_pure rfl rfl (v := .slice A41 n41 c41) (by decide) (by kernel_rfl) ?_
          refine wl_pure rfl rfl (v := .int .i64 0) (by decide) (by kernel_rfl) ?_
          refine wl_assign rfl rfl (by decide) ?_
          refine wl_assign rfl rfl (by decide) ?_
          refine wl_nil ?_
          refine eo_then ?_
          refine cw_ret ?_
          refine eo_block_ret ?_
          refine eo_thenR ?_
          refine eo_ret [.slice A41 n41 c41, .int .i64 0] rfl ⟨rfl, rfl, trivial⟩ ?_
          exact ⟨0, trivial, _, rfl, ⟨_, _, rfl, (by rw [hans]; exact ⟨_, _, _, rfl, j41, o41⟩), rfl⟩, hw1⟩
      ·
        have hans : ans4 k bs ((base : Nat) : Int) = 0 := by unfold ans4; rw [if_neg hk6, if_neg hk7, if_neg (by omega), Int.toNat_natCast, if_neg hg]
        refine cw_region ?_
        refine wl_move rfl rfl (by decide) ?_
        refine wl_nil ?_
        refine eo_then ?_
        refine cw_block ?_
        refine cw_seq ?_
        refine cw_region ?_
        refine wl_cmp rfl rfl rfl false (eq_f hk6) (by decide) ?_
        refine wl_assign rfl rfl (by decide) ?_
        refine wl_nil ?_
        refine eo_then ?_
        refine cw_false rfl ?_
        refine cw_seq ?_
        refine cw_region ?_
        refine wl_cmp rfl rfl rfl false (eq_f hk7) (by decide) ?_
        refine wl_assign rfl rfl (by decide) ?_
        refine wl_nil ?_
        refine eo_then ?_
        refine cw_false rfl ?_
        refine cw_skip ?_
        refine eo_block_normal ?_
        refine eo_then ?_
        refine cw_seq ?_
        refine cw_region ?_
        refine wl_move rfl rfl (by decide) ?_
        refine wl_move rfl rfl (by decide) ?_
        refine wl_call rfl rfl (vs := [.string (strB bs), .int .i64 ((base : Nat) : Int)]) (by kernel_rfl) (by decide) (rx_Read_bad hbl hbu hbs (by omega) hg) ?_
        rintro _ v42 ⟨xr44, rfl, r44, e43⟩
        refine ret_intro ?_
        have hw1 : Ext w v42 := (Ext.refl w).trans e43
        obtain ⟨a45_0, a45_1, rfl, r45_0, r45_1⟩ := r44
        obtain rfl := r45_0
        obtain rfl := r45_1
        refine wl_pure rfl rfl (v := .slice none 0 0) (by decide) (by kernel_rfl) ?_
        refine wl_pure rfl rfl (v := .int .i64 7) (by decide) (by kernel_rfl) ?_
        refine wl_assign rfl rfl (by decide) ?_
        refine wl_assign rfl rfl (by decide) ?_
        refine wl_nil ?_
        refine eo_then ?_
        refine cw_ret ?_
        refine eo_ret [.slice none 0 0, .int .i64 7] rfl ⟨rfl, rfl, trivial⟩ ?_
        exact ⟨7, trivial, _, rfl, ⟨_, _, rfl, (by rw [hans]; exact wr_nil), rfl⟩, hw1⟩
set_option maxHeartbeats 4000000 in
theorem g_read4_bad {w : World} {k : Int} {bs : List Nat} (hbs : ∀ b, b ∈ bs → b < 256) (hlen : bs.length ≤ 1048576) {b : Int} (hbad : b < 2 ∨ 36 < b) :
    Calls Tryd.prog 47 #[.int .i64 k, .string (strB bs), .int .i64 b] w (fun e w' => ∃ er : Int, True ∧ Gv w (T2 (WR w.heap.size (ans4 k bs b)) (Is (.int .i64 er))) e w') := by
  refine sx_enter Tryd.func47 rfl (n := 26) rfl (Nat.le_of_ble_eq_true rfl) (args := [.int .i64 k, .string (strB bs), .int .i64 b]) ?_
  refine cw_keep [(0, .int .i64 k), (1, .string (strB bs)), (2, .int .i64 b)] ⟨rfl, rfl, rfl, trivial⟩ ?_
  refine cw_seq ?_
  refine cw_region ?_
  refine wl_assign rfl rfl (by decide) ?_
  refine wl_assign rfl rfl (by decide) ?_
  refine wl_nil ?_
  refine eo_then ?_
  refine cw_seq ?_
  refine cw_seq ?_
  by_cases hk6 : k = 6
  ·
    by_cases hg10 : Good 10 bs
    ·
      have hans : ans4 k bs b = vald 10 (bs.map dv) := by unfold ans4; rw [if_pos hk6, if_pos hg10]
      refine cw_region ?_
      refine wl_move rfl rfl (by decide) ?_
      refine wl_nil ?_
      refine eo_then ?_
      refine cw_block ?_
      refine cw_seq ?_
      refine cw_region ?_
      refine wl_cmp rfl rfl rfl true (eq_t hk6) (by decide) ?_
      refine wl_assign rfl rfl (by decide) ?_
      refine wl_nil ?_
      refine eo_then ?_
      refine cw_true rfl ?_
      refine cw_seq ?_
      refine cw_region ?_
      refine wl_move rfl rfl (by decide) ?_
      refine wl_call rfl rfl (vs := [.string (strB bs)]) (by kernel_rfl) (by decide) ((rx_ReadDec_good hbs (by omega) hg10).mono (Gv.imp (T2.imp (WR.imp (Ext.refl w).size) Is.imp))) ?_
      rintro _ v1 ⟨xr3, rfl, r3, e2⟩
      refine ret_intro ?_
      have hw1 : Ext w v1 := (Ext.refl w).trans e2
      obtain ⟨a4_0, a4_1, rfl, r4_0, r4_1⟩ := r3
      obtain ⟨A5, n5, c5, rfl, j5, o5⟩ := r4_0
      obtain rfl := r4_1
      refine wl_pure rfl rfl (v := .slice A5 n5 c5) (by decide) (by kernel_rfl) ?_
      refine wl_pure rfl rfl (v := .int .i64 0) (by decide) (by kernel_rfl) ?_
      refine wl_assign rfl rfl (by decide) ?_
      refine wl_assign rfl rfl (by decide) ?_
      refine wl_nil ?_
      refine eo_then ?_
      refine cw_ret ?_
      refine eo_block_ret ?_
      refine eo_thenR ?_
      refine eo_ret [.slice A5 n5 c5, .int .i64 0] rfl ⟨rfl, rfl, trivial⟩ ?_
      exact ⟨0, trivial, _, rfl, ⟨_, _, rfl, (by rw [hans]; exact ⟨_, _, _, rfl, j5, o5⟩), rfl⟩, hw1⟩
    ·
      have hans : ans4 k bs b = 0 := by unfold ans4; rw [if_pos hk6, if_neg hg10]
      refine cw_region ?_
      refine wl_move rfl rfl (by decide) ?_
      refine wl_nil ?_
      refine eo_then ?_
      refine cw_block ?_
      refine cw_seq ?_
      refine cw_region ?_
      refine wl_cmp rfl rfl rfl true (eq_t hk6) (by decide) ?_
      refine wl_assign rfl rfl (by decide) ?_
      refine wl_nil ?_
      refine eo_then ?_
      refine cw_true rfl ?_
      refine cw_seq ?_
      refine cw_region ?_
      refine wl_move rfl rfl (by decide) ?_
      refine wl_call rfl rfl (vs := [.string (strB bs)]) (by kernel_rfl) (by decide) (rx_ReadDec_bad hbs (by omega) hg10) ?_
      rintro _ v6 ⟨xr8, rfl, r8, e7⟩
      refine ret_intro ?_
      have hw1 : Ext w v6 := (Ext.refl w).trans e7
      obtain ⟨a9_0, a9_1, rfl, r9_0, r9_1⟩ := r8
      obtain rfl := r9_0
      obtain rfl := r9_1
      refine wl_pure rfl rfl (v := .slice none 0 0) (by decide) (by kernel_rfl) ?_
      refine wl_pure rfl rfl (v := .int .i64 7) (by decide) (by kernel_rfl) ?_
      refine wl_assign rfl rfl (by decide) ?_
      refine wl_assign rfl rfl (by decide) ?_
      refine wl_nil ?_
      refine eo_then ?_
      refine cw_ret ?_
      refine eo_block_ret ?_
      refine eo_thenR ?_
      refine eo_ret [.slice none 0 0, .int .i64 7] rfl ⟨rfl, rfl, trivial⟩ ?_
      exact ⟨7, trivial, _, rfl, ⟨_, _, rfl, (by rw [hans]; exact wr_nil), rfl⟩, hw1⟩
  ·
    by_cases hk7 : k = 7
    ·
      rcases hgp : grp false bs with _ | pl
      ·
        have hans : ans4 k bs b = 0 := by unfold ans4; rw [if_neg hk6, if_pos hk7, hgp]
        refine cw_region ?_
        refine wl_move rfl rfl (by decide) ?_
        refine wl_nil ?_
        refine eo_then ?_
        refine cw_block ?_
        refine cw_seq ?_
        refine cw_region ?_
        refine wl_cmp rfl rfl rfl false (eq_f hk6) (by decide) ?_
        refine wl_assign rfl rfl (by decide) ?_
        refine wl_nil ?_
        refine eo_then ?_
        refine cw_false rfl ?_
        refine cw_seq ?_
        refine cw_region ?_
        refine wl_cmp rfl rfl rfl true (eq_t hk7) (by decide) ?_
        refine wl_assign rfl rfl (by decide) ?_
        refine wl_nil ?_
        refine eo_then ?_
        refine cw_true rfl ?_
        refine cw_seq ?_
        refine cw_region ?_
        refine wl_move rfl rfl (by decide) ?_
        refine wl_call rfl rfl (vs := [.string (strB bs)]) (by kernel_rfl) (by decide) ((rx_ReadGrouped_all hbs (by omega)).mono fun e w' h => h.2 hgp) ?_
        rintro _ v10 ⟨xr12, rfl, r12, e11⟩
        refine ret_intro ?_
        have hw1 : Ext w v10 := (Ext.refl w).trans e11
        obtain ⟨a13_0, a13_1, rfl, r13_0, r13_1⟩ := r12
        obtain rfl := r13_0
        obtain rfl := r13_1
        refine wl_pure rfl rfl (v := .slice none 0 0) (by decide) (by kernel_rfl) ?_
        refine wl_pure rfl rfl (v := .int .i64 7) (by decide) (by kernel_rfl) ?_
        refine wl_assign rfl rfl (by decide) ?_
        refine wl_assign rfl rfl (by decide) ?_
        refine wl_nil ?_
        refine eo_then ?_
        refine cw_ret ?_
        refine eo_block_ret ?_
        refine eo_thenR ?_
        refine eo_ret [.slice none 0 0, .int .i64 7] rfl ⟨rfl, rfl, trivial⟩ ?_
        exact ⟨7, trivial, _, rfl, ⟨_, _, rfl, (by rw [hans]; exact wr_nil), rfl⟩, hw1⟩
      ·
        have hans : ans4 k bs b = vald 10 (pl.map dv) := by unfold ans4; rw [if_neg hk6, if_pos hk7, hgp]
        refine cw_region ?_
        refine wl_move rfl rfl (by decide) ?_
        refine wl_nil ?_
        refine eo_then ?_
        refine cw_block ?_
        refine cw_seq ?_
        refine cw_region ?_
        refine wl_cmp rfl rfl rfl false (eq_f hk6) (by decide) ?_
        refine wl_assign rfl rfl (by decide) ?_
        refine wl_nil ?_
        refine eo_then ?_
        refine cw_false rfl ?_
        refine cw_seq ?_
        refine cw_region ?_
        refine wl_cmp rfl rfl rfl true (eq_t hk7) (by decide) ?_
        refine wl_assign rfl rfl (by decide) ?_
        refine wl_nil ?_
        refine eo_then ?_
        refine cw_true rfl ?_
        refine cw_seq ?_
        refine cw_region ?_
        refine wl_move rfl rfl (by decide) ?_
        refine wl_call rfl rfl (vs := [.string (strB bs)]) (by kernel_rfl) (by decide) ((rx_ReadGrouped_all hbs (by omega)).mono fun e w' h => Gv.imp (T2.imp (WR.imp (Ext.refl w).size) Is.imp) _ _ (h.1 _ hgp)) ?_
        rintro _ v14 ⟨xr16, rfl, r16, e15⟩
        refine ret_intro ?_
        have hw1 : Ext w v14 := (Ext.refl w).trans e15
        obtain ⟨a17_0, a17_1, rfl, r17_0, r17_1⟩ := r16
        obtain ⟨A18, n18, c18, rfl, j18, o18⟩ := r17_0
        obtain rfl := r17_1
        refine wl_pure rfl rfl (v := .slice A18 n18 c18) (by decide) (by kernel_rfl) ?_
        refine wl_pure rfl rfl (v := .int .i64 0) (by decide) (by kernel_rfl) ?_
        refine wl_assign rfl rfl (by decide) ?_
        refine wl_assign rfl rfl (by decide) ?_
        refine wl_nil ?_
        refine eo_then ?_
        refine cw_ret ?_
        refine eo_block_ret ?_
        refine eo_thenR ?_
        refine eo_ret [.slice A18 n18 c18, .int .i64 0] rfl ⟨rfl, rfl, trivial⟩ ?_
        exact ⟨0, trivial, _, rfl, ⟨_, _, rfl, (by rw [hans]; exact ⟨_, _, _, rfl, j18, o18⟩), rfl⟩, hw1⟩
    ·
      have hans : ans4 k bs b = 0 := by unfold ans4; rw [if_neg hk6, if_neg hk7, if_pos hbad]
      refine cw_region ?_
      refine wl_move rfl rfl (by decide) ?_
      refine wl_nil ?_
      refine eo_then ?_
      refine cw_block ?_
      refine cw_seq ?_
      refine cw_region ?_
      refine wl_cmp rfl rfl rfl false (eq_f hk6) (by decide) ?_
      refine wl_assign rfl rfl (by decide) ?_
      refine wl_nil ?_
      refine eo_then ?_
      refine cw_false rfl ?_
      refine cw_seq ?_
      refine cw_region ?_
      refine wl_cmp rfl rfl rfl false (eq_f hk7) (by decide) ?_
      refine wl_assign rfl rfl (by decide) ?_
      refine wl_nil ?_
      refine eo_then ?_
      refine cw_false rfl ?_
      refine cw_skip ?_
      refine eo_block_normal ?_
      refine eo_then ?_
      refine cw_seq ?_
      refine cw_region ?_
      refine wl_move rfl rfl (by decide) ?_
      refine wl_move rfl rfl (by decide) ?_
      refine wl_call rfl rfl (vs := [.string (strB bs), .int .i64 b]) (by kernel_rfl) (by decide) (rx_Read_badb hbad) ?_
      rintro _ v19 ⟨xr21, rfl, r21, e20⟩
      refine ret_intro ?_
      have hw1 : Ext w v19 := (Ext.refl w).trans e20
      obtain ⟨a22_0, a22_1, rfl, r22_0, r22_1⟩ := r21
      obtain rfl := r22_0
      obtain rfl := r22_1
      refine wl_pure rfl rfl (v := .slice none 0 0) (by decide) (by kernel_rfl) ?_
      refine wl_pure rfl rfl (v := .int .i64 3) (by decide) (by kernel_rfl) ?_
      refine wl_assign rfl rfl (by decide) ?_
      refine wl_assign rfl rfl (by decide) ?_
      refine wl_nil ?_
      refine eo_then ?_
      refine cw_ret ?_
      refine eo_ret [.slice none 0 0, .int .i64 3] rfl ⟨rfl, rfl, trivial⟩ ?_
      exact ⟨3, trivial, _, rfl, ⟨_, _, rfl, (by rw [hans]; exact wr_nil), rfl⟩, hw1⟩
theorem g_wanted4 {w : World} {c : Nat} (hc : c ≤ w.heap.size) {k : Int} {bs : List Nat} (hbs : ∀ b, b ∈ bs → b < 256) (hlen : bs.length ≤ 1048576) {b : Int} : Calls Tryd.prog 46 #[.int .i64 k, .string (strB bs), .int .i64 b] w (Gv w (WR c (ans4 k bs b))) := by
  by_cases hbad : b < 2 ∨ 36 < b
  · exact (g_wanted4_bad hbs hlen hbad).mono (Gv.imp (WR.imp hc))
  · obtain ⟨base, rfl⟩ := Int.eq_ofNat_of_zero_le (show 0 ≤ b by omega)
    exact (g_wanted4_good hbs hlen (by omega) (by omega)).mono (Gv.imp (WR.imp hc))
theorem g_read4 {w : World} {c : Nat} (hc : c ≤ w.heap.size) {k : Int} {bs : List Nat} (hbs : ∀ b, b ∈ bs → b < 256) (hlen : bs.length ≤ 1048576) {b : Int} : Calls Tryd.prog 47 #[.int .i64 k, .string (strB bs), .int .i64 b] w (fun e w' => ∃ er : Int, True ∧ Gv w (T2 (WR c (ans4 k bs b)) (Is (.int .i64 er))) e w') := by
  by_cases hbad : b < 2 ∨ 36 < b
  · refine (g_read4_bad hbs hlen hbad).mono fun e w' h => ?_
    obtain ⟨er, h1, h2⟩ := h
    exact ⟨er, h1, Gv.imp (T2.imp (WR.imp hc) Is.imp) _ _ h2⟩
  · obtain ⟨base, rfl⟩ := Int.eq_ofNat_of_zero_le (show 0 ≤ b by omega)
    refine (g_read4_good hbs hlen (by omega) (by omega)).mono fun e w' h => ?_
    obtain ⟨er, h1, h2⟩ := h
    exact ⟨er, h1, Gv.imp (T2.imp (WR.imp hc) Is.imp) _ _ h2⟩
end Go.Proofs.YtmjdmjflgiicaaaDoor

namespace Go.Proofs.YtmjdmjflgiicaaaDoor
open Go.RowKit
set_option maxHeartbeats 8000000 in
set_option maxRecDepth 20000 in
theorem law_RadixKeepsP {w : World} {A A2 : Option Addr} {ac an2 ac2 : Nat} {k k2 b b2 : Int} {xs xs2 bs bs2 : List Nat} (hx : Rd w A xs.length ac xs) (hal : xs.length ≤ 1048576) (hbs : ∀ b, b ∈ bs → b < 256) (hlen : bs.length ≤ 1048576) (hbs2 : ∀ b, b ∈ bs2 → b < 256) (hlen2 : bs2.length ≤ 1048576) (hS : Signs w) :
    Calls Tryd.prog 12 #[.agg #[.int .i64 k, .slice A xs.length ac, .string (strB bs), .int .i64 b], .agg #[.int .i64 k2, .slice A2 an2 ac2, .string (strB bs2), .int .i64 b2]] w (Gv w (Is (.bool true))) := by
  refine sx_enter Tryd.func12 rfl (n := 177) rfl (Nat.le_of_ble_eq_true rfl) (args := [.agg #[.int .i64 k, .slice A xs.length ac, .string (strB bs), .int .i64 b], .agg #[.int .i64 k2, .slice A2 an2 ac2, .string (strB bs2), .int .i64 b2]]) ?_
  refine cw_keep [(0, .agg #[.int .i64 k, .slice A xs.length ac, .string (strB bs), .int .i64 b]), (1, .agg #[.int .i64 k2, .slice A2 an2 ac2, .string (strB bs2), .int .i64 b2])] ⟨rfl, rfl, trivial⟩ ?_
  refine cw_seq ?_
  refine cw_region ?_
  refine wl_box rfl rfl (vs := [.int .i64 k, .slice A xs.length ac, .string (strB bs), .int .i64 b]) rfl (by decide) fun g1 v2 nb => ?_
  have hb4 := nb.bk
  have ge5 : w.heap.size ≤ g1 := by rw [← nb.at_]; exact (Ext.refl w).size
  have e3 := nb.ext
  clear nb
  have hw1 : Ext w v2 := (Ext.refl w).trans e3
  refine wl_box rfl rfl (vs := [.int .i64 k2, .slice A2 an2 ac2, .string (strB bs2), .int .i64 b2]) rfl (by decide) fun g6 v7 nb => ?_
  have hb9 := nb.bk
  have ge10 : w.heap.size ≤ g6 := by rw [← nb.at_]; exact hw1.size
  have q11 : g1 < g6 := by rw [← nb.at_]; exact hb4.lt
  have e8 := nb.ext
  clear nb
  have hw2 : Ext w v7 := hw1.trans e8
  refine wl_assign rfl rfl (by decide) ?_
  refine wl_nil ?_
  refine eo_then ?_
  refine cw_seq ?_
  refine cw_seq ?_
  refine cw_region ?_
  refine wl_call rfl rfl (vs := []) (by kernel_rfl) (by decide) (g_law4_awake (hS.ext hw2)) ?_
  rintro _ v12 ⟨xr14, rfl, r14, e13⟩
  refine ret_intro ?_
  have hw3 : Ext w v12 := hw2.trans e13
  obtain rfl := r14
  refine wl_pure rfl rfl (v := .bool false) (by decide) (by kernel_rfl) ?_
  refine wl_nil ?_
  refine eo_then ?_
  refine cw_false rfl ?_
  refine cw_skip ?_
  refine eo_then ?_
  refine cw_seq ?_
  refine cw_region ?_
  refine wl_pure rfl rfl (v := .pointer (some ⟨g1, 0, none⟩)) (by decide) (by kernel_rfl) ?_
  refine wl_load rfl rfl (load_cell (fun _ => by kernel_rfl) (hb4.ext (e8.trans e13)) rfl) (by decide) ?_
  refine wl_pure rfl rfl (v := .pointer (some ⟨g1, 2, none⟩)) (by decide) (by kernel_rfl) ?_
  refine wl_load rfl rfl (load_cell (fun _ => by kernel_rfl) (hb4.ext (e8.trans e13)) rfl) (by decide) ?_
  refine wl_pure rfl rfl (v := .pointer (some ⟨g1, 3, none⟩)) (by decide) (by kernel_rfl) ?_
  refine wl_load rfl rfl (load_cell (fun _ => by kernel_rfl) (hb4.ext (e8.trans e13)) rfl) (by decide) ?_
  refine wl_call rfl rfl (vs := [.int .i64 k, .string (strB bs), .int .i64 b]) (by kernel_rfl) (by decide) (g_wanted4 hw3.size hbs hlen) ?_
  rintro _ v15 ⟨xr17, rfl, r17, e16⟩
  refine ret_intro ?_
  have hw4 : Ext w v15 := hw3.trans e16
  obtain ⟨A18, n18, c18, rfl, j18, o18⟩ := r17
  refine wl_assign rfl rfl (by decide) ?_
  refine wl_nil ?_
  refine eo_then ?_
  refine cw_seq ?_
  refine cw_region ?_
  refine wl_pure rfl rfl (v := .pointer (some ⟨g6, 0, none⟩)) (by decide) (by kernel_rfl) ?_
  refine wl_load rfl rfl (load_cell (fun _ => by kernel_rfl) (hb9.ext (e13.trans e16)) rfl) (by decide) ?_
  refine wl_pure rfl rfl (v := .pointer (some ⟨g6, 2, none⟩)) (by decide) (by kernel_rfl) ?_
  refine wl_load rfl rfl (load_cell (fun _ => by kernel_rfl) (hb9.ext (e13.trans e16)) rfl) (by decide) ?_
  refine wl_pure rfl rfl (v := .pointer (some ⟨g6, 3, none⟩)) (by decide) (by kernel_rfl) ?_
  refine wl_load rfl rfl (load_cell (fun _ => by kernel_rfl) (hb9.ext (e13.trans e16)) rfl) (by decide) ?_
  refine wl_call rfl rfl (vs := [.int .i64 k2, .string (strB bs2), .int .i64 b2]) (by kernel_rfl) (by decide) (g_wanted4 hw4.size hbs2 hlen2) ?_
  rintro _ v19 ⟨xr21, rfl, r21, e20⟩
  refine ret_intro ?_
  have hw5 : Ext w v19 := hw4.trans e20
  obtain ⟨A22, n22, c22, rfl, j22, o22⟩ := r21
  refine wl_assign rfl rfl (by decide) ?_
  refine wl_nil ?_
  refine eo_then ?_
  refine cw_seq ?_
  have hans1 : (wd (ans4 k bs b)).length ≤ bs.length := ans4_len
  have hans2 : (wd (ans4 k2 bs2 b2)).length ≤ bs2.length := ans4_len
  refine cw_region ?_
  refine wl_pure rfl rfl (v := .pointer (some ⟨g1, 0, none⟩)) (by decide) (by kernel_rfl) ?_
  refine wl_load rfl rfl (load_cell (fun _ => by kernel_rfl) (hb4.ext (e8.trans (e13.trans (e16.trans e20)))) rfl) (by decide) ?_
  refine wl_pure rfl rfl (v := .pointer (some ⟨g1, 2, none⟩)) (by decide) (by kernel_rfl) ?_
  refine wl_load rfl rfl (load_cell (fun _ => by kernel_rfl) (hb4.ext (e8.trans (e13.trans (e16.trans e20)))) rfl) (by decide) ?_
  refine wl_pure rfl rfl (v := .pointer (some ⟨g1, 3, none⟩)) (by decide) (by kernel_rfl) ?_
  refine wl_load rfl rfl (load_cell (fun _ => by kernel_rfl) (hb4.ext (e8.trans (e13.trans (e16.trans e20)))) rfl) (by decide) ?_
  refine wl_call rfl rfl (vs := [.int .i64 k, .string (strB bs), .int .i64 b]) (by kernel_rfl) (by decide) (g_read4 (Nat.le_refl v19.heap.size) hbs hlen) ?_
  rintro _ v23 ⟨er26, p27, xr25, rfl, r25, e24⟩
  refine ret_intro ?_
  have hw6 : Ext w v23 := hw5.trans e24
  obtain ⟨a28_0, a28_1, rfl, r28_0, r28_1⟩ := r25
  obtain ⟨A29, n29, c29, rfl, j29, o29⟩ := r28_0
  obtain rfl := r28_1
  refine wl_move rfl rfl (by decide) ?_
  refine wl_pure rfl rfl (v := .slice A29 n29 c29) (by decide) (by kernel_rfl) ?_
  refine wl_pure rfl rfl (v := .int .i64 er26) (by decide) (by kernel_rfl) ?_
  refine wl_assign rfl rfl (by decide) ?_
  refine wl_assign rfl rfl (by decide) ?_
  refine wl_nil ?_
  refine eo_then ?_
  refine cw_seq ?_
  have bl30 := o29.block
  refine cw_region ?_
  refine wl_pure rfl rfl (v := .pointer (some ⟨g1, 0, none⟩)) (by decide) (by kernel_rfl) ?_
  refine wl_load rfl rfl (load_cell (fun _ => by kernel_rfl) (hb4.ext (e8.trans (e13.trans (e16.trans (e20.trans e24))))) rfl) (by decide) ?_
  refine wl_pure rfl rfl (v := .pointer (some ⟨g1, 2, none⟩)) (by decide) (by kernel_rfl) ?_
  refine wl_load rfl rfl (load_cell (fun _ => by kernel_rfl) (hb4.ext (e8.trans (e13.trans (e16.trans (e20.trans e24))))) rfl) (by decide) ?_
  refine wl_pure rfl rfl (v := .pointer (some ⟨g1, 3, none⟩)) (by decide) (by kernel_rfl) ?_
  refine wl_load rfl rfl (load_cell (fun _ => by kernel_rfl) (hb4.ext (e8.trans (e13.trans (e16.trans (e20.trans e24))))) rfl) (by decide) ?_
  refine wl_call rfl rfl (vs := [.int .i64 k, .string (strB bs), .int .i64 b]) (by kernel_rfl) (by decide) (g_read4 (Nat.le_refl v23.heap.size) hbs hlen) ?_
  rintro _ v31 ⟨er34, p35, xr33, rfl, r33, e32⟩
  refine ret_intro ?_
  have hw7 : Ext w v31 := hw6.trans e32
  obtain ⟨a36_0, a36_1, rfl, r36_0, r36_1⟩ := r33
  obtain ⟨A37, n37, c37, rfl, j37, o37⟩ := r36_0
  obtain rfl := r36_1
  refine wl_move rfl rfl (by decide) ?_
  refine wl_pure rfl rfl (v := .slice A37 n37 c37) (by decide) (by kernel_rfl) ?_
  refine wl_pure rfl rfl (v := .int .i64 er34) (by decide) (by kernel_rfl) ?_
  refine wl_assign rfl rfl (by decide) ?_
  refine wl_assign rfl rfl (by decide) ?_
  refine wl_nil ?_
  refine eo_then ?_
  refine cw_seq ?_
  have bl38 := o37.block
  refine cw_region ?_
  refine wl_pure rfl rfl (v := .pointer (some ⟨g6, 0, none⟩)) (by decide) (by kernel_rfl) ?_
  refine wl_load rfl rfl (load_cell (fun _ => by kernel_rfl) (hb9.ext (e13.trans (e16.trans (e20.trans (e24.trans e32))))) rfl) (by decide) ?_
  refine wl_pure rfl rfl (v := .pointer (some ⟨g6, 2, none⟩)) (by decide) (by kernel_rfl) ?_
  refine wl_load rfl rfl (load_cell (fun _ => by kernel_rfl) (hb9.ext (e13.trans (e16.trans (e20.trans (e24.trans e32))))) rfl) (by decide) ?_
  refine wl_pure rfl rfl (v := .pointer (some ⟨g6, 3, none⟩)) (by decide) (by kernel_rfl) ?_
  refine wl_load rfl rfl (load_cell (fun _ => by kernel_rfl) (hb9.ext (e13.trans (e16.trans (e20.trans (e24.trans e32))))) rfl) (by decide) ?_
  refine wl_call rfl rfl (vs := [.int .i64 k2, .string (strB bs2), .int .i64 b2]) (by kernel_rfl) (by decide) (g_read4 (Nat.le_refl v31.heap.size) hbs2 hlen2) ?_
  rintro _ v39 ⟨er42, p43, xr41, rfl, r41, e40⟩
  refine ret_intro ?_
  have hw8 : Ext w v39 := hw7.trans e40
  obtain ⟨a44_0, a44_1, rfl, r44_0, r44_1⟩ := r41
  obtain ⟨A45, n45, c45, rfl, j45, o45⟩ := r44_0
  obtain rfl := r44_1
  refine wl_move rfl rfl (by decide) ?_
  refine wl_pure rfl rfl (v := .slice A45 n45 c45) (by decide) (by kernel_rfl) ?_
  refine wl_pure rfl rfl (v := .int .i64 er42) (by decide) (by kernel_rfl) ?_
  refine wl_assign rfl rfl (by decide) ?_
  refine wl_assign rfl rfl (by decide) ?_
  refine wl_nil ?_
  refine eo_then ?_
  refine cw_seq ?_
  have bl46 := o45.block
  refine cw_region ?_
  refine wl_pure rfl rfl (v := .pointer (some ⟨g1, 0, none⟩)) (by decide) (by kernel_rfl) ?_
  refine wl_load rfl rfl (load_cell (fun _ => by kernel_rfl) (hb4.ext (e8.trans (e13.trans (e16.trans (e20.trans (e24.trans (e32.trans e40))))))) rfl) (by decide) ?_
  refine wl_pure rfl rfl (v := .pointer (some ⟨g1, 2, none⟩)) (by decide) (by kernel_rfl) ?_
  refine wl_load rfl rfl (load_cell (fun _ => by kernel_rfl) (hb4.ext (e8.trans (e13.trans (e16.trans (e20.trans (e24.trans (e32.trans e40))))))) rfl) (by decide) ?_
  refine wl_pure rfl rfl (v := .pointer (some ⟨g1, 3, none⟩)) (by decide) (by kernel_rfl) ?_
  refine wl_load rfl rfl (load_cell (fun _ => by kernel_rfl) (hb4.ext (e8.trans (e13.trans (e16.trans (e20.trans (e24.trans (e32.trans e40))))))) rfl) (by decide) ?_
  refine wl_call rfl rfl (vs := [.int .i64 k, .string (strB bs), .int .i64 b]) (by kernel_rfl) (by decide) (g_read4 (Nat.le_refl v39.heap.size) hbs hlen) ?_
  rintro _ v47 ⟨er50, p51, xr49, rfl, r49, e48⟩
  refine ret_intro ?_
  have hw9 : Ext w v47 := hw8.trans e48
  obtain ⟨a52_0, a52_1, rfl, r52_0, r52_1⟩ := r49
  obtain ⟨A53, n53, c53, rfl, j53, o53⟩ := r52_0
  obtain rfl := r52_1
  refine wl_move rfl rfl (by decide) ?_
  refine wl_pure rfl rfl (v := .slice A53 n53 c53) (by decide) (by kernel_rfl) ?_
  refine wl_pure rfl rfl (v := .int .i64 er50) (by decide) (by kernel_rfl) ?_
  refine wl_assign rfl rfl (by decide) ?_
  refine wl_assign rfl rfl (by decide) ?_
  refine wl_nil ?_
  refine eo_then ?_
  refine cw_seq ?_
  refine cw_seq ?_
  refine cw_region ?_
  refine wl_move rfl rfl (by decide) ?_
  refine wl_move rfl rfl (by decide) ?_
  refine wl_call rfl rfl (vs := [.slice A29 n29 c29, .slice A18 n18 c18]) (by kernel_rfl) (by decide) (g_same4 (o29.ext (e32.trans (e40.trans e48))) (by omega) (o18.ext (e20.trans (e24.trans (e32.trans (e40.trans e48))))) (by omega)) ?_
  rintro _ v54 ⟨xr56, rfl, r56, e55⟩
  refine ret_intro ?_
  have hw10 : Ext w v54 := hw9.trans e55
  obtain rfl := r56
  refine wl_pure rfl rfl (v := .bool false) (by decide) (by kernel_rfl) ?_
  refine wl_move rfl rfl (by decide) ?_
  refine wl_move rfl rfl (by decide) ?_
  refine wl_move rfl rfl (by decide) ?_
  refine wl_call rfl rfl (vs := [.slice A37 n37 c37, .slice A18 n18 c18]) (by kernel_rfl) (by decide) (g_same4 (o37.ext (e40.trans (e48.trans e55))) (by omega) (o18.ext (e20.trans (e24.trans (e32.trans (e40.trans (e48.trans e55)))))) (by omega)) ?_
  rintro _ v57 ⟨xr59, rfl, r59, e58⟩
  refine ret_intro ?_
  have hw11 : Ext w v57 := hw10.trans e58
  obtain rfl := r59
  refine wl_pure rfl rfl (v := .bool false) (by decide) (by kernel_rfl) ?_
  refine wl_pure rfl rfl (v := .bool false) (by decide) (by kernel_rfl) ?_
  refine wl_move rfl rfl (by decide) ?_
  refine wl_move rfl rfl (by decide) ?_
  refine wl_move rfl rfl (by decide) ?_
  refine wl_call rfl rfl (vs := [.slice A45 n45 c45, .slice A22 n22 c22]) (by kernel_rfl) (by decide) (g_same4 (o45.ext (e48.trans (e55.trans e58))) (by omega) (o22.ext (e24.trans (e32.trans (e40.trans (e48.trans (e55.trans e58)))))) (by omega)) ?_
  rintro _ v60 ⟨xr62, rfl, r62, e61⟩
  refine ret_intro ?_
  have hw12 : Ext w v60 := hw11.trans e61
  obtain rfl := r62
  refine wl_pure rfl rfl (v := .bool false) (by decide) (by kernel_rfl) ?_
  refine wl_pure rfl rfl (v := .bool false) (by decide) (by kernel_rfl) ?_
  refine wl_move rfl rfl (by decide) ?_
  refine wl_move rfl rfl (by decide) ?_
  refine wl_move rfl rfl (by decide) ?_
  refine wl_call rfl rfl (vs := [.slice A53 n53 c53, .slice A18 n18 c18]) (by kernel_rfl) (by decide) (g_same4 (o53.ext (e55.trans (e58.trans e61))) (by omega) (o18.ext (e20.trans (e24.trans (e32.trans (e40.trans (e48.trans (e55.trans (e58.trans e61)))))))) (by omega)) ?_
  rintro _ v63 ⟨xr65, rfl, r65, e64⟩
  refine ret_intro ?_
  have hw13 : Ext w v63 := hw12.trans e64
  obtain rfl := r65
  refine wl_pure rfl rfl (v := .bool false) (by decide) (by kernel_rfl) ?_
  refine wl_pure rfl rfl (v := .bool false) (by decide) (by kernel_rfl) ?_
  refine wl_nil ?_
  refine eo_then ?_
  refine cw_false rfl ?_
  refine cw_skip ?_
  refine eo_then ?_
  refine cw_seq ?_
  have bl66 := o53.block
  have oo67 := ((o29.ext (e32.trans (e40.trans (e48.trans (e55.trans (e58.trans (e61.trans e64)))))))).mono (show v19.heap.size ≤ v19.heap.size from (Nat.le_refl _))
  have oo68 := ((o37.ext (e40.trans (e48.trans (e55.trans (e58.trans (e61.trans e64))))))).mono (show v19.heap.size ≤ v23.heap.size from e24.size)
  have oo69 := ((o45.ext (e48.trans (e55.trans (e58.trans (e61.trans e64)))))).mono (show v19.heap.size ≤ v31.heap.size from (e24.trans e32).size)
  have oo70 := ((o53.ext (e55.trans (e58.trans (e61.trans e64))))).mono (show v19.heap.size ≤ v39.heap.size from ((e24.trans e32).trans e40).size)
  have hal := al_four (x1 := ⟨A29, n29, c29⟩) (x2 := ⟨A37, n37, c37⟩) (x3 := ⟨A45, n45, c45⟩) (x4 := ⟨A53, n53, c53⟩) oo67 oo68 oo69 oo70 bl30 bl38 bl46 bl66 e32.size e40.size
  refine cw_region ?_
  refine wl_move rfl rfl (by decide) ?_
  refine wl_move rfl rfl (by decide) ?_
  refine wl_move rfl rfl (by decide) ?_
  refine wl_move rfl rfl (by decide) ?_
  refine wl_bslice rfl rfl (by decide) (k := 4) (e := 22) [.slice A29 n29 c29, .slice A37 n37 c37, .slice A45 n45 c45, .slice A53 n53 c53] (fun _ => by kernel_rfl) fun g71 v72 nb => ?_
  have hb73 := nb.bk
  have e74 := nb.ext
  have geW_g71 : v19.heap.size ≤ g71 := by rw [← nb.at_]; exact (((((((e24.trans e32).trans e40).trans e48).trans e55).trans e58).trans e61).trans e64).size
  have ge_g71 : w.heap.size ≤ g71 := Nat.le_trans hw5.size geW_g71
  clear nb
  have hw14 : Ext w v72 := hw13.trans e74
  refine wl_pure rfl rfl (v := .agg #[.slice (some ⟨g71, 0, none⟩) 4 4, .slice none 0 0, .slice none 0 0]) (by decide) (by kernel_rfl) ?_
  refine wl_alloc rfl (z := .agg #[.slice none 0 0, .slice none 0 0, .slice none 0 0]) (vs := [.slice none 0 0, .slice none 0 0, .slice none 0 0]) (fun _ => by kernel_rfl) rfl (by decide) fun g75 v76 nb => ?_
  have geW_g75 : v19.heap.size ≤ g75 := by rw [← nb.at_]; exact ((((((((e24.trans e32).trans e40).trans e48).trans e55).trans e58).trans e61).trans e64).trans e74).size
  have hb78 := nb.bk
  have ge79 : w.heap.size ≤ g75 := by rw [← nb.at_]; exact hw14.size
  have q80 : g71 < g75 := by rw [← nb.at_]; exact hb73.lt
  have e77 := nb.ext
  clear nb
  have hw15 : Ext w v76 := hw14.trans e77
  have hb82 := hb78
  refine wl_stored rfl rfl rfl aggBook rfl hb82 (Nat.le_of_ble_eq_true rfl) rfl [.slice (some ⟨g71, 0, none⟩) 4 4, .slice none 0 0, .slice none 0 0] rfl fun v81 hb83 u84 hs85 => ?_
  have hw16 : Ext w v81 := u84.ext hw15 ge79
  refine wl_nil ?_
  refine eo_then ?_
  refine cw_seq ?_
  refine cw_seq ?_
  refine cw_region ?_
  have hwl := Own.of_bk ((hb73.ext e77).updN u84 (by omega)) (Nat.le_of_ble_eq_true rfl)
  refine wl_call rfl rfl (vs := [.pointer (some ⟨g75, 0, none⟩)]) (by kernel_rfl) (by decide) (g_Apart (ls := [⟨A29, n29, c29⟩, ⟨A37, n37, c37⟩, ⟨A45, n45, c45⟩, ⟨A53, n53, c53⟩]) (lb := v19.heap.size) hb83 hwl ((hal.ext (e74.trans e77)).updT hb82 (by decide) u84) (u84.ext (((((((((e24.trans e32).trans e40).trans e48).trans e55).trans e58).trans e61).trans e64).trans e74).trans e77) geW_g75).size (Nat.le_of_ble_eq_true rfl) (four_le (show n29 ≤ 1099511620000 by omega) (show n37 ≤ 1099511620000 by omega) (show n45 ≤ 1099511620000 by omega) (show n53 ≤ 1099511620000 by omega))) ?_
  rintro _ v86 ⟨rfl, uu87⟩
  refine ret_intro ?_
  have hx88 : Ext v19 v86 := uu87.ext (u84.ext (((((((((e24.trans e32).trans e40).trans e48).trans e55).trans e58).trans e61).trans e64).trans e74).trans e77) geW_g75) (Nat.le_refl _)
  have hw6 : Ext w v86 := hw5.trans hx88
  refine wl_pure rfl rfl (v := .bool false) (by decide) (by kernel_rfl) ?_
  refine wl_nil ?_
  refine eo_then ?_
  refine cw_false rfl ?_
  refine cw_skip ?_
  refine eo_then ?_
  refine cw_seq ?_
  refine cw_keep [(2, .pointer (some ⟨g1, 0, none⟩)), (3, .pointer (some ⟨g6, 0, none⟩)), (4, .bool false), (5, .slice A18 n18 c18)] ⟨rfl, rfl, rfl, rfl, trivial⟩ ?_
  refine cw_region ?_
  refine wl_pure rfl rfl (v := .pointer (some ⟨g1, 0, none⟩)) (by decide) (by kernel_rfl) ?_
  refine wl_load rfl rfl (load_cell (fun _ => by kernel_rfl) (hb4.ext (e8.trans (e13.trans (e16.trans (e20.trans hx88))))) rfl) (by decide) ?_
  refine wl_pure rfl rfl (v := .pointer (some ⟨g1, 2, none⟩)) (by decide) (by kernel_rfl) ?_
  refine wl_load rfl rfl (load_cell (fun _ => by kernel_rfl) (hb4.ext (e8.trans (e13.trans (e16.trans (e20.trans hx88))))) rfl) (by decide) ?_
  refine wl_pure rfl rfl (v := .pointer (some ⟨g1, 3, none⟩)) (by decide) (by kernel_rfl) ?_
  refine wl_load rfl rfl (load_cell (fun _ => by kernel_rfl) (hb4.ext (e8.trans (e13.trans (e16.trans (e20.trans hx88))))) rfl) (by decide) ?_
  refine wl_call rfl rfl (vs := [.int .i64 k, .string (strB bs), .int .i64 b]) (by kernel_rfl) (by decide) (g_read4 (Nat.le_refl v86.heap.size) hbs hlen) ?_
  rintro _ v89 ⟨er92, p93, xr91, rfl, r91, e90⟩
  refine ret_intro ?_
  have hw7 : Ext w v89 := hw6.trans e90
  obtain ⟨a94_0, a94_1, rfl, r94_0, r94_1⟩ := r91
  obtain ⟨A95, n95, c95, rfl, j95, o95⟩ := r94_0
  obtain rfl := r94_1
  refine wl_move rfl rfl (by decide) ?_
  refine wl_pure rfl rfl (v := .slice A95 n95 c95) (by decide) (by kernel_rfl) ?_
  refine wl_pure rfl rfl (v := .int .i64 er92) (by decide) (by kernel_rfl) ?_
  refine wl_assign rfl rfl (by decide) ?_
  refine wl_assign rfl rfl (by decide) ?_
  refine wl_nil ?_
  refine eo_then ?_
  refine cw_seq ?_
  refine cw_seq ?_
  refine cw_region ?_
  refine wl_move rfl rfl (by decide) ?_
  refine wl_move rfl rfl (by decide) ?_
  refine wl_call rfl rfl (vs := [.slice A95 n95 c95, .slice A18 n18 c18]) (by kernel_rfl) (by decide) (g_same4 o95 (by omega) (o18.ext (e20.trans (hx88.trans e90))) (by omega)) ?_
  rintro _ v96 ⟨xr98, rfl, r98, e97⟩
  refine ret_intro ?_
  have hw8 : Ext w v96 := hw7.trans e97
  obtain rfl := r98
  refine wl_pure rfl rfl (v := .bool false) (by decide) (by kernel_rfl) ?_
  refine wl_nil ?_
  refine eo_then ?_
  refine cw_false rfl ?_
  refine cw_skip ?_
  refine eo_then ?_
  refine cw_seq ?_
  refine cw_keep [(2, .pointer (some ⟨g1, 0, none⟩)), (4, .bool false)] ⟨rfl, rfl, trivial⟩ ?_
  refine cw_region ?_
  refine wl_pure rfl rfl (v := .pointer (some ⟨g1, 1, none⟩)) (by decide) (by kernel_rfl) ?_
  refine wl_load rfl rfl (load_cell (fun _ => by kernel_rfl) (hb4.ext (e8.trans (e13.trans (e16.trans (e20.trans (hx88.trans (e90.trans e97))))))) rfl) (by decide) ?_
  refine wl_call rfl rfl (vs := [.slice A xs.length ac]) (by kernel_rfl) (by decide) (g_Roomy (hx.ext (e3.trans (e8.trans (e13.trans (e16.trans (e20.trans (hx88.trans (e90.trans e97)))))))) (by omega)) ?_
  rintro _ v99 ⟨xr101, rfl, r101, e100⟩
  refine ret_intro ?_
  have hw9 : Ext w v99 := hw8.trans e100
  obtain ⟨g102, rfl, ge102, hb102⟩ := r101
  have q103 : g1 < g102 := Nat.lt_of_lt_of_le (hb4.ext (e8.trans (e13.trans (e16.trans (e20.trans (hx88.trans (e90.trans e97))))))).lt ge102
  have q104 : g6 < g102 := Nat.lt_of_lt_of_le (hb9.ext (e13.trans (e16.trans (e20.trans (hx88.trans (e90.trans e97)))))).lt ge102
  have ge102 : w.heap.size ≤ g102 := Nat.le_trans hw8.size ge102
  refine wl_assign rfl rfl (by decide) ?_
  refine wl_nil ?_
  refine eo_then ?_
  refine cw_seq ?_
  refine cw_region ?_
  refine wl_move rfl rfl (by decide) ?_
  refine wl_pure rfl rfl (v := .pointer (some ⟨g1, 1, none⟩)) (by decide) (by kernel_rfl) ?_
  refine wl_load rfl rfl (load_cell (fun _ => by kernel_rfl) (hb4.ext (e8.trans (e13.trans (e16.trans (e20.trans (hx88.trans (e90.trans (e97.trans e100)))))))) rfl) (by decide) ?_
  refine wl_pure rfl rfl (v := .int .i64 ((xs.length : Nat) : Int)) (by decide) (by kernel_rfl) ?_
  refine wl_slice rfl rfl un_u64 sz_u64 (lo := 0) (hi := xs.length) rfl rfl (by omega) (by omega) (v := .slice (some ⟨g102, 0, none⟩) xs.length (xs.length + 80)) (slice_to8 _ _ _) (by decide) ?_
  refine wl_assign rfl rfl (by decide) ?_
  refine wl_nil ?_
  refine eo_then ?_
  refine cw_seq ?_
  refine cw_seq ?_
  refine cw_region ?_
  refine wl_assign rfl rfl (by decide) ?_
  refine wl_nil ?_
  refine eo_then ?_
  refine cw_block ?_
  refine cw_loop (T := World × Nat)
    (fun ⟨wr, kk⟩ => [(2, .pointer (some ⟨g1, 0, none⟩)), (18, .slice (some ⟨g102, 0, none⟩) (xs.length + 80) (xs.length + 80)), (19, .slice (some ⟨g102, 0, none⟩) xs.length (xs.length + 80)), (20, .int .i64 ((kk : Nat) : Int))])
    (fun ⟨wr, kk⟩ => wr)
    (fun ⟨wr, kk⟩ => (Ext w wr) ∧ (Bk wr g1 61 [.int .i64 k, .slice A xs.length ac, .string (strB bs), .int .i64 b]) ∧ (Bk wr g102 48 ((xs ++ mk80 xs.length).map W64)) ∧ (kk ≤ 5))
    (fun ⟨wr, kk⟩ => 5 - kk)
    (⟨v99, 1⟩ : World × Nat) ⟨hw9, (hb4.ext (e8.trans (e13.trans (e16.trans (e20.trans (hx88.trans (e90.trans (e97.trans e100)))))))), hb102, (by decide)⟩ rfl ⟨rfl, rfl, rfl, rfl, trivial⟩ ?_
  rintro ⟨wr, kk⟩ ⟨hw1, hB2, hb, hkk⟩
  refine cw_re [(2, .pointer (some ⟨g1, 0, none⟩)), (18, .slice (some ⟨g102, 0, none⟩) (xs.length + 80) (xs.length + 80)), (19, .slice (some ⟨g102, 0, none⟩) xs.length (xs.length + 80)), (20, .int .i64 ((kk : Nat) : Int))] wr rfl ⟨rfl, rfl, rfl, rfl, trivial⟩ ?_
  refine cw_seq ?_
  refine cw_seq ?_
  by_cases hk4 : kk ≤ 4
  ·
    refine cw_region ?_
    refine wl_move rfl rfl (by decide) ?_
    refine wl_cmp rfl rfl rfl true (cb_le_t (a := kk) (b := 4) rfl rfl (by omega)) (by decide) ?_
    refine wl_nil ?_
    refine eo_then ?_
    refine cw_true rfl ?_
    refine cw_skip ?_
    refine eo_then ?_
    refine cw_seq ?_
    refine cw_block ?_
    refine cw_seq ?_
    refine cw_seq ?_
    refine cw_region ?_
    refine wl_move rfl rfl (by decide) ?_
    refine wl_move rfl rfl (by decide) ?_
    refine wl_pure rfl rfl (v := .pointer (some ⟨g1, 3, none⟩)) (by decide) (by kernel_rfl) ?_
    refine wl_load rfl rfl (load_cell (fun _ => by kernel_rfl) hB2 rfl) (by decide) ?_
    refine wl_pure rfl rfl (v := .agg #[.int .i64 ((kk : Nat) : Int), .slice (some ⟨g102, 0, none⟩) xs.length (xs.length + 80), .string (strB ([])), .int .i64 b]) (by decide) (by kernel_rfl) ?_
    refine wl_call rfl rfl (vs := [.agg #[.int .i64 ((kk : Nat) : Int), .slice (some ⟨g102, 0, none⟩) xs.length (xs.length + 80), .string (strB ([])), .int .i64 b]]) (by kernel_rfl) (by decide) (g_texts4 (bs := []) (hS.ext hw1) ⟨_, room_rd hb rfl hx.wf (by omega), rfl⟩ (by omega)) ?_
    rintro _ v105 ⟨xr107, rfl, r107, e106⟩
    refine ret_intro ?_
    have hw2 : Ext w v105 := hw1.trans e106
    obtain rfl := r107
    refine wl_pure rfl rfl (v := .bool false) (by decide) (by kernel_rfl) ?_
    refine wl_move rfl rfl (by decide) ?_
    refine wl_move rfl rfl (by decide) ?_
    refine wl_pure rfl rfl (v := .pointer (some ⟨g1, 1, none⟩)) (by decide) (by kernel_rfl) ?_
    refine wl_load rfl rfl (load_cell (fun _ => by kernel_rfl) (hB2.ext e106) rfl) (by decide) ?_
    refine wl_call rfl rfl (vs := [.slice (some ⟨g102, 0, none⟩) (xs.length + 80) (xs.length + 80), .slice A xs.length ac]) (by kernel_rfl) (by decide) (g_Kept (room_rdf (hb.ext e106) rfl hx.wf (by omega)) (hx.ext hw2) (by omega)) ?_
    rintro _ v108 ⟨xr110, rfl, r110, e109⟩
    refine ret_intro ?_
    have hw3 : Ext w v108 := hw2.trans e109
    obtain rfl := r110
    refine wl_pure rfl rfl (v := .bool false) (by decide) (by kernel_rfl) ?_
    refine wl_pure rfl rfl (v := .bool false) (by decide) (by kernel_rfl) ?_
    refine wl_nil ?_
    refine eo_then ?_
    refine cw_false rfl ?_
    refine cw_skip ?_
    refine eo_then ?_
    refine cw_seq ?_
    refine cw_seq ?_
    refine cw_region ?_
    refine wl_assign rfl rfl (by decide) ?_
    refine wl_nil ?_
    refine eo_then ?_
    refine cw_block ?_
    refine cw_loop (T := World × Nat)
      (fun ⟨wr, i⟩ => [(2, .pointer (some ⟨g1, 0, none⟩)), (18, .slice (some ⟨g102, 0, none⟩) (xs.length + 80) (xs.length + 80)), (19, .slice (some ⟨g102, 0, none⟩) xs.length (xs.length + 80)), (20, .int .i64 ((kk : Nat) : Int)), (21, .int .i64 ((i : Nat) : Int))])
      (fun ⟨wr, i⟩ => wr)
      (fun ⟨wr, i⟩ => (Ext w wr) ∧ (Bk wr g1 61 [.int .i64 k, .slice A xs.length ac, .string (strB bs), .int .i64 b]) ∧ (Bk wr g102 48 ((xorU 1085102592571150095 i xs ++ mk80 xs.length).map W64)) ∧ (i ≤ xs.length))
      (fun ⟨wr, i⟩ => xs.length - i)
      (⟨v108, 0⟩ : World × Nat) ⟨hw3, (hB2.ext (e106.trans e109)), (by rw [xorU_zero]; exact (hb.ext (e106.trans e109))), (Nat.zero_le _)⟩ rfl ⟨rfl, rfl, rfl, rfl, rfl, trivial⟩ ?_
    rintro ⟨wr, i⟩ ⟨hw1, hB2, hb, hi⟩
    refine cw_re [(2, .pointer (some ⟨g1, 0, none⟩)), (18, .slice (some ⟨g102, 0, none⟩) (xs.length + 80) (xs.length + 80)), (19, .slice (some ⟨g102, 0, none⟩) xs.length (xs.length + 80)), (20, .int .i64 ((kk : Nat) : Int)), (21, .int .i64 ((i : Nat) : Int))] wr rfl ⟨rfl, rfl, rfl, rfl, rfl, trivial⟩ ?_
    refine cw_seq ?_
    refine cw_seq ?_
    by_cases hilt : i < xs.length
    ·
      refine cw_region ?_
      refine wl_move rfl rfl (by decide) ?_
      refine wl_move rfl rfl (by decide) ?_
      refine wl_pure rfl rfl (v := .int .i64 ((xs.length : Nat) : Int)) (by decide) (by kernel_rfl) ?_
      refine wl_cmp rfl rfl rfl true (cb_lt_t (a := i) (b := xs.length) rfl rfl (by omega)) (by decide) ?_
      refine wl_nil ?_
      refine eo_then ?_
      refine cw_true rfl ?_
      refine cw_skip ?_
      refine eo_then ?_
      refine cw_seq ?_
      refine cw_block ?_
      have hy64 : (xorU 1085102592571150095 i xs ++ mk80 xs.length).getD i 0 ≤ 18446744073709551615 := by have := Wf_getD (Wf_append (xorU_wf (c := 1085102592571150095) (i := i) hx.wf (by decide)) (mk80_wf (n := xs.length) (by omega))) i; rw [WB_def] at this; omega
      have hyz := xor_le hy64 (show 1085102592571150095 ≤ 18446744073709551615 by decide)
      have hxl := xlen xs 1085102592571150095 i
      refine cw_region ?_
      refine wl_move rfl rfl (by decide) ?_
      refine wl_move rfl rfl (by decide) ?_
      refine wl_move rfl rfl (by decide) ?_
      refine wl_move rfl rfl (by decide) ?_
      refine wl_idx rfl rfl rfl un_u64 sz_u64 i rfl (by omega) ⟨g102, i, none⟩ (arr_at _ _) (by decide) ?_
      refine wl_load rfl rfl (load_word ag_u64 hb (by rw [(xlen xs 1085102592571150095 i)]; omega)) (by decide) ?_
      refine wl_op rfl rfl rfl (r := .int .u64 ((((xorU 1085102592571150095 i xs ++ mk80 xs.length).getD i 0) ^^^ 1085102592571150095 : Nat) : Int)) rfl (fun w => u64_xor (x := (xorU 1085102592571150095 i xs ++ mk80 xs.length).getD i 0) (y := 1085102592571150095) hy64 (by decide) _ _ w) (by decide) ?_
      refine wl_idx rfl rfl rfl un_u64 sz_u64 i rfl (by omega) ⟨g102, i, none⟩ (arr_at _ _) (by decide) ?_
      have hb112 := hb
      refine wl_stored1 rfl rfl rfl sz_u64 rfl hb112 (len_map (by rw [(xlen xs 1085102592571150095 i)]; omega)) rfl (((xorU 1085102592571150095 i xs ++ mk80 xs.length).set i (((xorU 1085102592571150095 i xs ++ mk80 xs.length).getD i 0) ^^^ 1085102592571150095)).map W64) (map_W64_set _ _ _) fun v111 hb113 u114 hs115 => ?_
      have hw2 : Ext w v111 := u114.ext hw1 ge102
      refine wl_nil ?_
      refine eo_block_normal ?_
      refine eo_then ?_
      refine cw_region ?_
      refine wl_move rfl rfl (by decide) ?_
      refine wl_ar rfl rfl rfl ((i + 1 : Nat) : Int) (ai_add (a := i) (b := 1) rfl rfl (by omega)) (by decide) ?_
      refine wl_assign rfl rfl (by decide) ?_
      refine wl_nil ?_
      refine eo_round (⟨v111, i + 1⟩ : World × Nat) ⟨hw2, (hB2.updN u114 (by omega)), (by have h := hb113; rwa [xor_step hilt] at h), (by omega)⟩ (show xs.length - (i + 1) < xs.length - i by omega) rfl ⟨rfl, rfl, rfl, rfl, rfl, trivial⟩
    ·
      refine cw_region ?_
      refine wl_move rfl rfl (by decide) ?_
      refine wl_move rfl rfl (by decide) ?_
      refine wl_pure rfl rfl (v := .int .i64 ((xs.length : Nat) : Int)) (by decide) (by kernel_rfl) ?_
      refine wl_cmp rfl rfl rfl false (cb_lt_f (a := i) (b := xs.length) rfl rfl (by omega)) (by decide) ?_
      refine wl_nil ?_
      refine eo_then ?_
      refine cw_false rfl ?_
      refine cw_exit ?_
      refine eo_thenX ?_
      refine eo_loopX ?_
      refine eo_block_here ?_
      refine eo_then ?_
      refine cw_seq ?_
      refine cw_seq ?_
      refine cw_region ?_
      refine wl_move rfl rfl (by decide) ?_
      refine wl_move rfl rfl (by decide) ?_
      refine wl_pure rfl rfl (v := .pointer (some ⟨g1, 3, none⟩)) (by decide) (by kernel_rfl) ?_
      refine wl_load rfl rfl (load_cell (fun _ => by kernel_rfl) hB2 rfl) (by decide) ?_
      refine wl_pure rfl rfl (v := .agg #[.int .i64 ((kk : Nat) : Int), .slice (some ⟨g102, 0, none⟩) xs.length (xs.length + 80), .string (strB ([])), .int .i64 b]) (by decide) (by kernel_rfl) ?_
      refine wl_call rfl rfl (vs := [.agg #[.int .i64 ((kk : Nat) : Int), .slice (some ⟨g102, 0, none⟩) xs.length (xs.length + 80), .string (strB ([])), .int .i64 b]]) (by kernel_rfl) (by decide) (g_texts4 (bs := []) (hS.ext hw1) ⟨_, room_rd hb (xorU_len _ _ _) (xorU_wf hx.wf (by decide)) (by omega), rfl⟩ (by omega)) ?_
      rintro _ v116 ⟨xr118, rfl, r118, e117⟩
      refine ret_intro ?_
      have hw2 : Ext w v116 := hw1.trans e117
      obtain rfl := r118
      refine wl_pure rfl rfl (v := .bool false) (by decide) (by kernel_rfl) ?_
      refine wl_nil ?_
      refine eo_then ?_
      refine cw_false rfl ?_
      refine cw_skip ?_
      refine eo_then ?_
      refine cw_region ?_
      refine wl_move rfl rfl (by decide) ?_
      refine wl_pure rfl rfl (v := .pointer (some ⟨g1, 1, none⟩)) (by decide) (by kernel_rfl) ?_
      refine wl_load rfl rfl (load_cell (fun _ => by kernel_rfl) (hB2.ext e117) rfl) (by decide) ?_
      have hb120 := (hb.ext e117)
      refine wl_copy rfl rfl Tryd.underlying22 (by kernel_rfl) hb120 ((hx.ext hw2)).rv (fun _ => rfl) (by rw [List.length_map, (xlen xs 1085102592571150095 i)]; omega) one_W64 (by decide) fun v119 hb121 u122 => ?_
      rw [back_room (xorU_len _ _ _)] at hb121
      have hw3 : Ext w v119 := u122.ext hw2 ge102
      refine wl_nil ?_
      refine eo_block_normal ?_
      refine eo_then ?_
      refine cw_region ?_
      refine wl_move rfl rfl (by decide) ?_
      refine wl_ar rfl rfl rfl ((kk + 1 : Nat) : Int) (ai_add (a := kk) (b := 1) rfl rfl (by omega)) (by decide) ?_
      refine wl_assign rfl rfl (by decide) ?_
      refine wl_nil ?_
      refine eo_round (⟨v119, kk + 1⟩ : World × Nat) ⟨hw3, ((hB2.ext e117).updN u122 (by omega)), hb121, (by omega)⟩ (show 5 - (kk + 1) < 5 - kk by omega) rfl ⟨rfl, rfl, rfl, rfl, trivial⟩
  ·
    refine cw_region ?_
    refine wl_move rfl rfl (by decide) ?_
    refine wl_cmp rfl rfl rfl false (cb_le_f (a := kk) (b := 4) rfl rfl (by omega)) (by decide) ?_
    refine wl_nil ?_
    refine eo_then ?_
    refine cw_false rfl ?_
    refine cw_exit ?_
    refine eo_thenX ?_
    refine eo_loopX ?_
    refine eo_block_here ?_
    refine eo_then ?_
    refine cw_seq ?_
    refine cw_region ?_
    refine wl_move rfl rfl (by decide) ?_
    refine wl_pure rfl rfl (v := .pointer (some ⟨g1, 1, none⟩)) (by decide) (by kernel_rfl) ?_
    refine wl_load rfl rfl (load_cell (fun _ => by kernel_rfl) hB2 rfl) (by decide) ?_
    refine wl_call rfl rfl (vs := [.slice (some ⟨g102, 0, none⟩) (xs.length + 80) (xs.length + 80), .slice A xs.length ac]) (by kernel_rfl) (by decide) (g_Kept (room_rdf hb rfl hx.wf (by omega)) (hx.ext hw1) (by omega)) ?_
    rintro _ v123 ⟨xr125, rfl, r125, e124⟩
    refine ret_intro ?_
    have hw2 : Ext w v123 := hw1.trans e124
    obtain rfl := r125
    refine wl_assign rfl rfl (by decide) ?_
    refine wl_nil ?_
    refine eo_then ?_
    refine cw_ret ?_
    refine eo_ret [.bool true] rfl ⟨rfl, trivial⟩ ?_
    exact ⟨_, rfl, rfl, hw2⟩
theorem law_RadixKeeps {w : World} {A A2 : Option Addr} {n ac an2 ac2 : Nat} {k k2 b b2 : Int} {xs xs2 bs bs2 : List Nat} (hx : Rd w A n ac xs) (hal : n ≤ 1048576) (hbs : ∀ b, b ∈ bs → b < 256) (hlen : bs.length ≤ 1048576) (_ : Rd w A2 an2 ac2 xs2) (_ : an2 ≤ 1048576) (hbs2 : ∀ b, b ∈ bs2 → b < 256) (hlen2 : bs2.length ≤ 1048576) (hS : Signs w) :
    Calls Tryd.prog 12 #[.agg #[.int .i64 k, .slice A n ac, .string (strB bs), .int .i64 b], .agg #[.int .i64 k2, .slice A2 an2 ac2, .string (strB bs2), .int .i64 b2]] w (BoolP true w) := by
  obtain rfl := hx.len
  exact (law_RadixKeepsP (xs2 := xs2) hx hal hbs hlen hbs2 hlen2 hS).mono fun e w' h => bool_of _ _ h
end Go.Proofs.YtmjdmjflgiicaaaDoor
