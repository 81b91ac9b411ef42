/- integers as sign and size; what calls of integers answer -/
import Derived.Test.YtmaconeeonkdgaaDivC
import Derived.Test.YtmaconeeonkdgaaGcd
namespace Go.Proofs.Ytmaconeeonkdgaa
open Go.RowKit

/-- the integer of a sign and a size -/
def sg (s : Bool) (m : Nat) : Int := if s then -(m : Int) else m
theorem sg_false (m : Nat) : sg false m = m := rfl
theorem sg_true (m : Nat) : sg true m = -(m : Int) := rfl
theorem sg_abs (s : Bool) (m : Nat) : (sg s m).natAbs = m := by cases s <;> simp [sg]
theorem sg_self (z : Int) : sg (decide (z < 0)) z.natAbs = z := by
  by_cases h : z < 0
  · rw [decide_eq_true h, sg_true]; omega
  · rw [decide_eq_false h, sg_false]; omega
theorem sg_zero (s : Bool) : sg s 0 = 0 := by cases s <;> rfl
theorem sg_eq_zero {s : Bool} {m : Nat} : sg s m = 0 ↔ m = 0 := by cases s <;> simp [sg]
theorem sg_not (s : Bool) (m : Nat) : sg (!s) m = -sg s m := by cases s <;> simp [sg]
theorem sg_lt (s : Bool) (m : Nat) : decide (sg s m < 0) = (s && decide (0 < m)) := by
  cases s
  · simp [sg]
  · by_cases h : 0 < m
    · simp [sg, h]
    · have : m = 0 := by omega
      subst this
      simp [sg]
theorem sg_add (s : Bool) (m k : Nat) : sg s (m + k) = sg s m + sg s k := by cases s <;> simp [sg] <;> omega
theorem sg_sub {s : Bool} {m k : Nat} (h : k ≤ m) : sg s (m - k) = sg s m + sg (!s) k := by cases s <;> simp [sg] <;> omega
theorem sg_mul (s t : Bool) (m k : Nat) : sg (s != t) (m * k) = sg s m * sg t k := by
  cases s <;> cases t <;> simp [sg, Int.mul_neg, Int.neg_mul]
theorem sg_tdiv (s t : Bool) (m k : Nat) : sg (s != t) (m / k) = (sg s m).tdiv (sg t k) := by
  cases s <;> cases t <;> simp [sg, Int.tdiv_neg, Int.neg_tdiv]
theorem sg_tmod (s t : Bool) (m k : Nat) : sg s (m % k) = (sg s m).tmod (sg t k) := by
  cases s <;> cases t <;> simp [sg, Int.tmod_neg, Int.neg_tmod] <;> rfl

/-- the words of an integer's size -/
def ln (z : Int) : Nat := (wd z.natAbs).length
theorem ln_mono {x y : Int} (h : x.natAbs ≤ y.natAbs) : ln x ≤ ln y := len_wd_mono h
theorem ln_neg (x : Int) : ln (-x) = ln x := by unfold ln; rw [Int.natAbs_neg]
theorem ln_add {x y : Int} {a b : Nat} (hx : ln x ≤ a) (hy : ln y ≤ b) : ln (x + y) ≤ max a b + 1 := by
  have h1 := len_wd_mono (Int.natAbs_add_le x y)
  have h2 := len_wd_add x.natAbs y.natAbs
  unfold ln at *
  omega
theorem ln_sub {x y : Int} {a b : Nat} (hx : ln x ≤ a) (hy : ln y ≤ b) : ln (x - y) ≤ max a b + 1 := by
  rw [Int.sub_eq_add_neg]
  exact ln_add hx (by rw [ln_neg]; exact hy)
theorem ln_mul {x y : Int} {a b : Nat} (hx : ln x ≤ a) (hy : ln y ≤ b) : ln (x * y) ≤ a + b := by
  have h2 := len_wd_mul x.natAbs y.natAbs
  unfold ln at *
  rw [Int.natAbs_mul]
  omega
theorem ln_nat (m : Nat) : ln (m : Int) = (wd m).length := by unfold ln; rw [Int.natAbs_natCast]
theorem ln_zero : ln 0 = 0 := rfl
theorem ln_one : ln 1 = 1 := by decide +kernel

/-- an integer handed in: any words -/
def Zi (w : World) (s : Bool) (A : Option Addr) (n cap : Nat) (z : Int) : Prop := ∃ xs, Rd w A n cap xs ∧ sg s (nv xs) = z
theorem Zi.ext {w w' : World} {s : Bool} {A : Option Addr} {n cap : Nat} {z : Int} (h : Zi w s A n cap z) (e : Ext w w') : Zi w' s A n cap z := by
  obtain ⟨xs, h1, h2⟩ := h
  exact ⟨xs, h1.ext e, h2⟩
theorem Zi.ln {w : World} {s : Bool} {A : Option Addr} {n cap : Nat} {z : Int} (h : Zi w s A n cap z) : Go.Proofs.Ytmaconeeonkdgaa.ln z ≤ n := by
  obtain ⟨xs, h1, rfl⟩ := h
  have := len_wd_nv h1.wf
  rw [h1.len] at this
  unfold Go.Proofs.Ytmaconeeonkdgaa.ln
  rw [sg_abs]
  exact this
theorem Zi.not {w : World} {s : Bool} {A : Option Addr} {n cap : Nat} {z : Int} (h : Zi w s A n cap z) : Zi w (!s) A n cap (-z) := by
  obtain ⟨xs, h1, rfl⟩ := h
  exact ⟨xs, h1, sg_not _ _⟩
/-- an integer in least form, of the call's own -/
structure Zr (w : World) (base : Nat) (s : Bool) (A : Option Addr) (n cap : Nat) (z : Int) : Prop where
  sgn : s = decide (z < 0)
  len : n = ln z
  own : Own w base 47 1 A n cap ((wd z.natAbs).map W64)
theorem Zr.rd {w : World} {base : Nat} {s : Bool} {A : Option Addr} {n cap : Nat} {z : Int} (h : Zr w base s A n cap z) : Rd w A n cap (wd z.natAbs) := h.own.rd (Wf_wd _)
theorem Zr.ext {w w' : World} {base : Nat} {s : Bool} {A : Option Addr} {n cap : Nat} {z : Int} (h : Zr w base s A n cap z) (e : Ext w w') : Zr w' base s A n cap z := ⟨h.sgn, h.len, h.own.ext e⟩
theorem Zr.mono {w : World} {base base' : Nat} {s : Bool} {A : Option Addr} {n cap : Nat} {z : Int} (h : Zr w base s A n cap z) (e : base' ≤ base) : Zr w base' s A n cap z := ⟨h.sgn, h.len, h.own.mono e⟩
theorem Zr.zi {w : World} {base : Nat} {s : Bool} {A : Option Addr} {n cap : Nat} {z : Int} (h : Zr w base s A n cap z) : Zi w s A n cap z := ⟨_, h.rd, by rw [nv_wd, h.sgn, sg_self]⟩
theorem Zr.upd {w w' : World} {base g : Nat} {s : Bool} {A : Option Addr} {n cap : Nat} {z : Int} (h : Zr w base s A n cap z) (hg : g < base) (e : Upd g w w') : Zr w' base s A n cap z :=
  ⟨h.sgn, h.len, h.own.upd e (fun a ha => by have := (h.own.block a ha).1; omega)⟩
theorem Zr.cast {w : World} {base : Nat} {s : Bool} {A : Option Addr} {n cap : Nat} {z z' : Int} (h : Zr w base s A n cap z) (e : z = z') : Zr w base s A n cap z' := e ▸ h
theorem Zr.le {w : World} {base : Nat} {s : Bool} {A : Option Addr} {n cap : Nat} {z : Int} (h : Zr w base s A n cap z) {b : Nat} (hb : ln z ≤ b) : n ≤ b := by rw [h.len]; exact hb
theorem Zr.ln_le {w : World} {base : Nat} {s : Bool} {A : Option Addr} {n cap : Nat} {z : Int} (h : Zr w base s A n cap z) {b : Nat} (hb : n ≤ b) : ln z ≤ b := by rw [← h.len]; exact hb
theorem Zr.zero {w : World} {base : Nat} : Zr w base false none 0 0 0 := ⟨by decide, rfl, Own.nil _ _ _ _⟩

/-- an integer is answered -/
def RetZ (w : World) (z : Int) (e : Ending) (w' : World) : Prop :=
  ∃ s A n cap, e = .returned (.agg #[.bool s, .slice A n cap]) ∧ Zr w' w.heap.size s A n cap z ∧ Ext w w'
/-- an integer and an error -/
def RetZE (w : World) (z : Int) (er : Int) (e : Ending) (w' : World) : Prop :=
  ∃ s A n cap, e = .returned (.tuple #[.agg #[.bool s, .slice A n cap], .int .i64 er]) ∧ Zr w' w.heap.size s A n cap z ∧ Ext w w'
/-- two integers and an error -/
def RetZZE (w : World) (q r : Int) (er : Int) (e : Ending) (w' : World) : Prop :=
  ∃ s A n cap s' B m cap', e = .returned (.tuple #[.agg #[.bool s, .slice A n cap], .agg #[.bool s', .slice B m cap'], .int .i64 er]) ∧ Zr w' w.heap.size s A n cap q ∧ Zr w' w.heap.size s' B m cap' r ∧ Ext w w'
theorem Zr_of {w : World} {base : Nat} {s s' : Bool} {A : Option Addr} {n cap m : Nat} {z : Int} (h : s' = decide (sg s m < 0)) (hn : n = (wd m).length) (ho : Own w base 47 1 A n cap ((wd m).map W64)) (hz : sg s m = z) : Zr w base s' A n cap z := by
  have e : z.natAbs = m := by rw [← hz, sg_abs]
  rw [hz] at h
  exact ⟨h, by unfold ln; rw [e]; exact hn, by rw [e]; exact ho⟩

/-- a variable of two cells -/
theorem Bk.two {w : World} {g : Nat} {t : TypeId} {a b : Value} (h : Bk w g t [a, b]) : w.cell? ⟨g, 0, none⟩ = some a ∧ w.cell? ⟨g, 1, none⟩ = some b ∧ w.frozen? ⟨g, 0, none⟩ = false ∧ w.frozen? ⟨g, 1, none⟩ = false :=
  ⟨h.cell (i := 0) (by simp), h.cell (i := 1) (by simp), h.frozen 0, h.frozen 1⟩
theorem Bk.two_set {w : World} {g : Nat} {t : TypeId} {a b : Value} (h : Bk w g t [a, b]) (u v : Value) : Bk ((w.setCell ⟨g, 0, none⟩ u).setCell ⟨g, 1, none⟩ v) g t [u, v] := (h.set 0 u).set 1 v
theorem Upd.two {w : World} {g : Nat} (u v : Value) : Upd g w ((w.setCell ⟨g, 0, none⟩ u).setCell ⟨g, 1, none⟩ v) := ((Upd.refl g w).setCell 0 u).setCell 1 v
theorem Bk.sec {w : World} {t t' : TypeId} {l : Array Value} {a b : Value} : Bk ((w.alloc (.cells l t')).alloc (.cells #[a, b] t)) (w.heap.size + 1) t [a, b] := by
  have := Bk.new (w.alloc (.cells l t')) t [a, b]
  simpa using this
theorem Bk.thi {w : World} {t t' t'' : TypeId} {l l' : Array Value} {a b : Value} : Bk (((w.alloc (.cells l t')).alloc (.cells l' t'')).alloc (.cells #[a, b] t)) (w.heap.size + 2) t [a, b] := by
  have := Bk.new ((w.alloc (.cells l t')).alloc (.cells l' t'')) t [a, b]
  simpa using this
theorem Bk.fou {w : World} {t t' t'' t''' : TypeId} {l l' l'' : Array Value} {a b : Value} : Bk ((((w.alloc (.cells l t')).alloc (.cells l' t'')).alloc (.cells l'' t''')).alloc (.cells #[a, b] t)) (w.heap.size + 3) t [a, b] := by
  have := Bk.new (((w.alloc (.cells l t')).alloc (.cells l' t'')).alloc (.cells l'' t''')) t [a, b]
  simpa using this
/-- two variables of structs laid at the call's beginning -/
theorem boxes2 (w : World) (t t' : TypeId) (a b c d : Value) : ∃ g g2 wa, w.heap.size + 1 = g2 ∧ w.heap.size = g ∧ (w.alloc (.cells #[a, b] t)).alloc (.cells #[c, d] t') = wa ∧ Bk wa g t [a, b] ∧ Bk wa g2 t' [c, d] ∧ Ext w wa ∧ g < g2 ∧ g2 < wa.heap.size ∧ g ≠ g2 ∧ g2 ≠ g :=
  ⟨_, _, _, rfl, rfl, rfl, (Bk.new w t [a, b]).alloc _, Bk.sec, ((Ext.refl w).alloc _).alloc _, by omega, by simp, by omega, by omega⟩
theorem boxes3 (w : World) (t t' t'' : TypeId) (a b c d e f : Value) : ∃ g g2 g3 wa, w.heap.size + 1 + 1 = g3 ∧ w.heap.size + 1 = g2 ∧ w.heap.size = g ∧ ((w.alloc (.cells #[a, b] t)).alloc (.cells #[c, d] t')).alloc (.cells #[e, f] t'') = wa ∧ Bk wa g t [a, b] ∧ Bk wa g2 t' [c, d] ∧ Bk wa g3 t'' [e, f] ∧ Ext w wa ∧ g < g2 ∧ g2 < g3 ∧ g3 < wa.heap.size ∧ g ≠ g2 ∧ g2 ≠ g ∧ g ≠ g3 ∧ g3 ≠ g ∧ g2 ≠ g3 ∧ g3 ≠ g2 :=
  ⟨_, _, _, _, rfl, rfl, rfl, rfl, ((Bk.new w t [a, b]).alloc _).alloc _, Bk.sec.alloc _, Bk.thi, (((Ext.refl w).alloc _).alloc _).alloc _, by omega, by omega, by simp, by omega, by omega, by omega, by omega, by omega, by omega⟩
theorem boxes4 (w : World) (t t' t'' t''' : TypeId) (a b c d e f i j : Value) : ∃ g g2 g3 g4 wa, w.heap.size + 1 + 1 + 1 = g4 ∧ w.heap.size + 1 + 1 = g3 ∧ w.heap.size + 1 = g2 ∧ w.heap.size = g ∧ (((w.alloc (.cells #[a, b] t)).alloc (.cells #[c, d] t')).alloc (.cells #[e, f] t'')).alloc (.cells #[i, j] t''') = wa ∧ Bk wa g t [a, b] ∧ Bk wa g2 t' [c, d] ∧ Bk wa g3 t'' [e, f] ∧ Bk wa g4 t''' [i, j] ∧ Ext w wa ∧ g < g2 ∧ g2 < g3 ∧ g3 < g4 ∧ g4 < wa.heap.size ∧ g ≠ g2 ∧ g2 ≠ g ∧ g ≠ g3 ∧ g3 ≠ g ∧ g2 ≠ g3 ∧ g3 ≠ g2 ∧ g ≠ g4 ∧ g4 ≠ g ∧ g2 ≠ g4 ∧ g4 ≠ g2 ∧ g3 ≠ g4 ∧ g4 ≠ g3 :=
  ⟨_, _, _, _, _, rfl, rfl, rfl, rfl, rfl, (((Bk.new w t [a, b]).alloc _).alloc _).alloc _, (Bk.sec.alloc _).alloc _, Bk.thi.alloc _, Bk.fou, ((((Ext.refl w).alloc _).alloc _).alloc _).alloc _, by omega, by omega, by omega, by simp, by omega, by omega, by omega, by omega, by omega, by omega, by omega, by omega, by omega, by omega, by omega, by omega⟩
/-- the result's variable is written, and handed back -/
theorem fin_int {w w2 : World} {g base : Nat} {T : TypeId} {x y : Value} {s : Bool} {A : Option Addr} {n cap : Nat} {z : Int} (_hb : Bk w2 g T [x, y]) (hz : Zr w2 base s A n cap z) (hg : g < base) (hw : w.heap.size ≤ g) (he : Ext w w2) :
    RetZ w z (.returned (.agg #[.bool s, .slice A n cap])) ((w2.setCell ⟨g, 0, none⟩ (.bool s)).setCell ⟨g, 1, none⟩ (.slice A n cap)) :=
  ⟨s, A, n, cap, rfl, (hz.upd hg (Upd.two _ _)).mono (by omega), (Upd.two _ _).ext he hw⟩
theorem load_int {w : World} {g : Nat} {t : TypeId} {a b : Value} (h : Bk w g t [a, b]) : (loadVar 27 ⟨g, 0, none⟩).run Try.prog w = .ok (.agg #[a, b]) w := by
  obtain ⟨h1, h2, _, _⟩ := h.two
  simp [loadVar, loadCells, loadCellsFrom, go_sem, h1, h2]
theorem res_int {w : World} {g : Nat} {t : TypeId} {a b : Value} {fn : Func} {s : Tmp} (hf : fn.results = #[.cell s 27]) {tmps : Array Value} (hs : tmps.getD s undef = .pointer (some ⟨g, 0, none⟩)) (h : Bk w g t [a, b]) : (results fn tmps).run Try.prog w = .ok (.agg #[a, b]) w := by
  obtain ⟨h1, h2, _, _⟩ := h.two
  have hs2 : tmps[s]?.getD undef = .pointer (some ⟨g, 0, none⟩) := by simpa using hs
  simp [results, hf, hs2, loadVar, loadCells, loadCellsFrom, go_sem, h1, h2]

/-- -1, 0, 1 -/
def scmp (x y : Int) : Int := if x < y then -1 else if x = y then 0 else 1
theorem scmp_bd (x y : Int) : -1 ≤ scmp x y ∧ scmp x y ≤ 1 := by unfold scmp; split <;> (try split) <;> omega
theorem scmp_neg {x y : Int} : scmp x y < 0 ↔ x < y := by unfold scmp; split <;> (try split) <;> omega
theorem scmp_zero {x y : Int} : scmp x y = 0 ↔ x = y := by unfold scmp; split <;> (try split) <;> omega
theorem scmp_pos {x y : Int} : 0 < scmp x y ↔ y < x := by unfold scmp; split <;> (try split) <;> omega
/-- an int of -1, 0 or 1 is answered -/
def SgnP (v : Int) (w : World) (e : Ending) (w' : World) : Prop := ∃ c : Int, Hid (c = v) ∧ -1 ≤ c ∧ c ≤ 1 ∧ e = .returned (.int .i64 c) ∧ Ext w w'

theorem zint_of {w : World} {s : Bool} {A : Option Addr} {n cap m : Nat} (hn : n = (wd m).length) :
    Calls Try.prog 55 #[.bool s, .slice A n cap] w fun e w' => ∃ s', e = .returned (.agg #[.bool s', .slice A n cap]) ∧ Hid (s' = decide (sg s m < 0)) ∧ Ext w w' := by
  have hm : decide (0 < m) = decide (0 < n) := by
    by_cases h : m = 0
    · rw [h] at hn ⊢; rw [hn]; rfl
    · have : n ≠ 0 := fun e => h (len_wd_zero.1 (by rw [← hn, e]))
      rw [decide_eq_true (show 0 < m by omega), decide_eq_true (show 0 < n by omega)]
  have HM : Hid (decide (sg s m < 0) = (s && decide (0 < n))) := (show _ = _ by rw [sg_lt, hm])
  clear hm hn
  go_enter Try.func55, Try.ntmps55
  cases s
  · go_wp2_with fail
    refine bodyPost_ret (v := .agg #[.bool false, .slice A n cap]) (by simp [results, Try.results55, go_sem]) rfl ?_
    exact ⟨_, rfl, (show _ = _ by rw [HM.out]; rfl), (Ext.refl w).alloc _⟩
  · by_cases h : n = 0
    · subst h
      go_wp2_with fail
      refine bodyPost_ret (v := .agg #[.bool false, .slice A 0 cap]) (by simp [results, Try.results55, go_sem]) rfl ?_
      exact ⟨_, rfl, (show _ = _ by rw [HM.out]; rfl), (Ext.refl w).alloc _⟩
    · have h0 : 0 < n := by omega
      have hd : decide (0 < n) = true := decide_eq_true h0
      have hi : 0 < (n : Int) := by omega
      go_wp2_with fail
      refine bodyPost_ret (v := .agg #[.bool true, .slice A n cap]) (by simp [results, Try.results55, go_sem]) rfl ?_
      exact ⟨_, rfl, (show _ = _ by rw [HM.out, hd]; rfl), (Ext.refl w).alloc _⟩

theorem zint_Neg {w : World} {s : Bool} {A : Option Addr} {n cap : Nat} {x : Int} (hx : Zi w s A n cap x) (hl : n ≤ 68719476736) :
    Calls Try.prog 61 #[.agg #[.bool s, .slice A n cap]] w (RetZ w (-x)) := by
  obtain ⟨xs, hr, rfl⟩ := hx
  go_enter Try.func61, Try.ntmps61
  go_upto_region 1 with (fail)
  obtain ⟨g, g2, wa, hg2, hg, hwa, hb1, hb2, hea, l12, l2, n12, n21⟩ := boxes2 w 27 27 (.bool s) (.slice A n cap) (.bool false) (.slice none 0 0)
  rw [hg2, hg, hwa]
  have hgw : w.heap.size ≤ g := Nat.le_of_eq hg
  clear hwa hg hg2
  obtain ⟨f1, f2, f3, f4⟩ := hb1.two
  obtain ⟨k1, k2, k3, k4⟩ := hb2.two
  go_region_held3 (fun w' => w'.cell? ⟨g, 0, none⟩ = some (.bool s) ∧ w'.cell? ⟨g, 1, none⟩ = some (.slice A n cap)) (go_keep)
    (first
    | (go_at_call 56; refine (nat_Least (hr.ext (by repeat (first | exact Ext.refl _ | assumption | apply Ext.drewN | apply Ext.drew | apply Ext.alloc))) (by omega)).mono ?_; rintro e w1 ⟨A1, n1, c1, rfl, hn1, hr1, ho1, hx1⟩; have he1 : Ext wa w1 := Ext.trans (by repeat (first | exact Ext.refl _ | assumption | apply Ext.drewN | apply Ext.drew | apply Ext.alloc)) hx1; have hc1 := hb1.ext he1; have hc2 := hb2.ext he1; obtain ⟨f1', f2', f3', f4'⟩ := hc1.two; obtain ⟨k1', k2', k3', k4'⟩ := hc2.two)
    | (go_at_call 55; refine (zint_of hn1.out).mono ?_; rintro e w2 ⟨s', rfl, hs', hx2⟩; have hd1 := hc1.ext hx2; have hd2 := hc2.ext hx2; obtain ⟨f1'', f2'', f3'', f4''⟩ := hd1.two; obtain ⟨k1'', k2'', k3'', k4''⟩ := hd2.two))
  go_wp2_with fail
  refine bodyPost_ret (res_int rfl rfl (hd2.two_set _ _)) rfl ?_
  exact fin_int hd2 ((Zr_of hs'.out hn1.out ho1 (sg_not _ _)).ext hx2) (by first | omega | (simp; omega)) (by omega) (hea.trans (he1.trans hx2))
theorem zint_Least {w : World} {s : Bool} {A : Option Addr} {n cap : Nat} {x : Int} (hx : Zi w s A n cap x) (hl : n ≤ 68719476736) :
    Calls Try.prog 59 #[.agg #[.bool s, .slice A n cap]] w (RetZ w (x)) := by
  obtain ⟨xs, hr, rfl⟩ := hx
  go_enter Try.func59, Try.ntmps59
  go_upto_region 1 with (fail)
  obtain ⟨g, g2, wa, hg2, hg, hwa, hb1, hb2, hea, l12, l2, n12, n21⟩ := boxes2 w 27 27 (.bool s) (.slice A n cap) (.bool false) (.slice none 0 0)
  rw [hg2, hg, hwa]
  have hgw : w.heap.size ≤ g := Nat.le_of_eq hg
  clear hwa hg hg2
  obtain ⟨f1, f2, f3, f4⟩ := hb1.two
  obtain ⟨k1, k2, k3, k4⟩ := hb2.two
  go_region_held3 (fun w' => w'.cell? ⟨g, 0, none⟩ = some (.bool s) ∧ w'.cell? ⟨g, 1, none⟩ = some (.slice A n cap)) (go_keep)
    (first
    | (go_at_call 56; refine (nat_Least (hr.ext (by repeat (first | exact Ext.refl _ | assumption | apply Ext.drewN | apply Ext.drew | apply Ext.alloc))) (by omega)).mono ?_; rintro e w1 ⟨A1, n1, c1, rfl, hn1, hr1, ho1, hx1⟩; have he1 : Ext wa w1 := Ext.trans (by repeat (first | exact Ext.refl _ | assumption | apply Ext.drewN | apply Ext.drew | apply Ext.alloc)) hx1; have hc1 := hb1.ext he1; have hc2 := hb2.ext he1; obtain ⟨f1', f2', f3', f4'⟩ := hc1.two; obtain ⟨k1', k2', k3', k4'⟩ := hc2.two)
    | (go_at_call 55; refine (zint_of hn1.out).mono ?_; rintro e w2 ⟨s', rfl, hs', hx2⟩; have hd1 := hc1.ext hx2; have hd2 := hc2.ext hx2; obtain ⟨f1'', f2'', f3'', f4''⟩ := hd1.two; obtain ⟨k1'', k2'', k3'', k4''⟩ := hd2.two))
  go_wp2_with fail
  refine bodyPost_ret (res_int rfl rfl (hd2.two_set _ _)) rfl ?_
  exact fin_int hd2 ((Zr_of hs'.out hn1.out ho1 rfl).ext hx2) (by first | omega | (simp; omega)) (by omega) (hea.trans (he1.trans hx2))
theorem zint_Abs {w : World} {s : Bool} {A : Option Addr} {n cap : Nat} {x : Int} (hx : Zi w s A n cap x) (hl : n ≤ 68719476736) :
    Calls Try.prog 68 #[.agg #[.bool s, .slice A n cap]] w (RetZ w (x.natAbs : Int)) := by
  obtain ⟨xs, hr, rfl⟩ := hx
  go_enter Try.func68, Try.ntmps68
  go_upto_region 1 with (fail)
  obtain ⟨g, g2, wa, hg2, hg, hwa, hb1, hb2, hea, l12, l2, n12, n21⟩ := boxes2 w 27 27 (.bool s) (.slice A n cap) (.bool false) (.slice none 0 0)
  rw [hg2, hg, hwa]
  have hgw : w.heap.size ≤ g := Nat.le_of_eq hg
  clear hwa hg hg2
  obtain ⟨f1, f2, f3, f4⟩ := hb1.two
  go_wp2_with fail
  refine (nat_Least (hr.ext hea) (by omega)).mono ?_
  rintro e w1 ⟨A1, n1, c1, rfl, hn1, hr1, ho1, hx1⟩
  have hc2 := hb2.ext hx1
  go_wp2_with fail
  refine (zint_of hn1.out).mono ?_
  rintro e w2 ⟨s', rfl, hs', hx2⟩
  have hd2 := hc2.ext hx2
  obtain ⟨k1, k2, k3, k4⟩ := hd2.two
  go_wp2_with fail
  refine bodyPost_ret (res_int rfl rfl (hd2.two_set _ _)) rfl ?_
  exact fin_int hd2 ((Zr_of hs'.out hn1.out ho1 (by rw [sg_abs, sg_false])).ext hx2) (by omega) (by omega) (hea.trans (hx1.trans hx2))
theorem zint_Mul {w : World} {s t : Bool} {A B : Option Addr} {n cap m cap' : Nat} {x y : Int} (hx : Zi w s A n cap x) (hl : n ≤ 68719476736) (hy : Zi w t B m cap' y) (hl' : m ≤ 68719476736) :
    Calls Try.prog 17 #[.agg #[.bool s, .slice A n cap], .agg #[.bool t, .slice B m cap']] w (RetZ w (x * y)) := by
  obtain ⟨xs, hr, rfl⟩ := hx
  obtain ⟨ys, hq, rfl⟩ := hy
  go_enter Try.func17, Try.ntmps17
  go_upto_region 1 with (fail)
  obtain ⟨g, g2, g3, wa, hg3, hg2, hg, hwa, hb1, hb2, hb3, hea, l12, l23, l3, n12, n21, n13, n31, n23, n32⟩ := boxes3 w 27 27 27 (.bool s) (.slice A n cap) (.bool t) (.slice B m cap') (.bool false) (.slice none 0 0)
  rw [hg3, hg2, hg, hwa]
  have hgw : w.heap.size ≤ g := Nat.le_of_eq hg
  clear hwa hg hg2 hg3
  obtain ⟨f1, f2, f3, f4⟩ := hb1.two
  obtain ⟨h1, h2, h3, h4⟩ := hb2.two
  obtain ⟨k1, k2, k3, k4⟩ := hb3.two
  go_region_held3 (fun w' => w'.cell? ⟨g, 0, none⟩ = some (.bool s) ∧ w'.cell? ⟨g, 1, none⟩ = some (.slice A n cap) ∧ w'.cell? ⟨g2, 0, none⟩ = some (.bool t) ∧ w'.cell? ⟨g2, 1, none⟩ = some (.slice B m cap')) (go_keep)
    (first
    | (go_at_call 57; refine (mulnat_Mul (hr.ext (by repeat (first | exact Ext.refl _ | assumption | apply Ext.drewN | apply Ext.drew | apply Ext.alloc))) (hq.ext (by repeat (first | exact Ext.refl _ | assumption | apply Ext.drewN | apply Ext.drew | apply Ext.alloc))) (by omega)).mono ?_; rintro e w1 ⟨A1, n1, c1, rfl, hn1, hr1, ho1, hx1⟩; have he1 : Ext wa w1 := Ext.trans (by repeat (first | exact Ext.refl _ | assumption | apply Ext.drewN | apply Ext.drew | apply Ext.alloc)) hx1; have hc1 := hb1.ext he1; have hc2 := hb2.ext he1; have hc3 := hb3.ext he1; obtain ⟨f1', f2', f3', f4'⟩ := hc1.two; obtain ⟨h1', h2', h3', h4'⟩ := hc2.two; obtain ⟨k1', k2', k3', k4'⟩ := hc3.two)
    | (go_at_call 55; refine (zint_of hn1.out).mono ?_; rintro e w2 ⟨s', rfl, hs', hx2⟩; have hd1 := hc1.ext hx2; have hd2 := hc2.ext hx2; have hd3 := hc3.ext hx2; obtain ⟨f1'', f2'', f3'', f4''⟩ := hd1.two; obtain ⟨h1'', h2'', h3'', h4''⟩ := hd2.two; obtain ⟨k1'', k2'', k3'', k4''⟩ := hd3.two))
  go_wp2_with fail
  refine bodyPost_ret (res_int rfl rfl (hd3.two_set _ _)) rfl ?_
  exact fin_int hd3 ((Zr_of hs'.out hn1.out ho1 (sg_mul _ _ _ _)).ext hx2) (by first | omega | (simp; omega)) (by omega) (hea.trans (he1.trans hx2))
theorem zint_Sign {w : World} {s : Bool} {A : Option Addr} {n cap : Nat} {x : Int} (hx : Zi w s A n cap x) (hl : n ≤ 68719476736) :
    Calls Try.prog 53 #[.agg #[.bool s, .slice A n cap]] w (SgnP (scmp x 0) w) := by
  obtain ⟨xs, hr, rfl⟩ := hx
  go_enter Try.func53, Try.ntmps53
  go_upto_region 1 with (fail)
  have hb1 := Bk.new w 27 [.bool s, .slice A n cap]
  obtain ⟨wa, hwa⟩ : ∃ wa, w.alloc (.cells #[.bool s, .slice A n cap] 27) = wa := ⟨_, rfl⟩
  rw [hwa]
  obtain ⟨g, hg⟩ : ∃ g, w.heap.size = g := ⟨_, rfl⟩
  rw [hg] at hb1 ⊢
  have hb1' : Bk wa g 27 [.bool s, .slice A n cap] := by rw [← hwa]; exact hb1
  have hea : Ext w wa := by rw [← hwa]; exact (Ext.refl w).alloc _
  clear hwa hg hb1
  obtain ⟨f1, f2, f3, f4⟩ := hb1'.two
  go_wp2_with fail
  refine (nat_BitLen (hr.ext hea) (by omega)).mono ?_
  rintro e w1 ⟨b, hb, rfl, hx1'⟩
  have hx1 := hea.trans hx1'
  obtain ⟨f1', f2', f3', f4'⟩ := (hb1'.ext hx1').two
  by_cases h0 : b = 0
  · subst h0
    have hz : nv xs = 0 := blen_eq_zero.1 hb.out.symm
    have HZ := Lib.hid hz
    clear hz
    go_wp2_with fail
    go_ret
    exact ⟨0, (show _ = _ by rw [HZ.out, sg_zero]; rfl), by omega, by omega, rfl, hx1⟩
  · have bb : ((b : Int) == 0) = false := by simp; omega
    have hz : 0 < nv xs := Nat.pos_of_ne_zero (fun e => h0 (by rw [hb.out, e]; rfl))
    have HZ := Lib.hid hz
    clear hz h0
    cases s
    · go_wp2_with fail
      go_ret
      refine ⟨1, ?_, by omega, by omega, rfl, hx1⟩
      show _ = _
      rw [sg_false, scmp, if_neg (by omega), if_neg (by have := HZ.out; omega)]
    · go_wp2_with fail
      go_ret
      refine ⟨-1, ?_, by omega, by omega, rfl, hx1⟩
      show _ = _
      rw [sg_true, scmp, if_pos (by have := HZ.out; omega)]
end Go.Proofs.Ytmaconeeonkdgaa
