/- Contracts in one form: what a call answers, as a predicate on the value. -/
import Derived.Test.YtmaconeeonkdgaaSxz
import Derived.Test.YtmaconeeonkdgaaIntF
import Derived.Test.YtmaconeeonkdgaaIntB
import Derived.Test.YtmaconeeonkdgaaIntC
import Derived.Test.YtmaconeeonkdgaaIntD
import Derived.Test.YtmaconeeonkdgaaSmall
import Derived.Test.YtmaconeeonkdgaaRoot
namespace Go.Proofs.Ytmaconeeonkdgaa
open Go.RowKit

theorem aggInt : AggT Try.prog 27 2 := ⟨fun _ => by kernel_rfl, fun _ => by kernel_rfl⟩
theorem aggFrac : AggT Try.prog 29 4 := ⟨fun _ => by kernel_rfl, fun _ => by kernel_rfl⟩
theorem aggTwo : AggT Try.prog 77 4 := ⟨fun _ => by kernel_rfl, fun _ => by kernel_rfl⟩
theorem cellBool : ∀ w, (isAgg 4).run Try.prog w = .ok false w := fun _ => by kernel_rfl
theorem cellWords : ∀ w, (isAgg 25).run Try.prog w = .ok false w := fun _ => by kernel_rfl
theorem mix : Try.prog.follows .mixedOrders = true := by kernel_rfl

/-- the value is u -/
def Is (u v : Value) (_ : World) : Prop := v = u
/-- the value is an integer of the call's own -/
def ZR (b : Nat) (z : Int) (v : Value) (w : World) : Prop := ∃ s A n c, v = .agg #[.bool s, .slice A n c] ∧ Zr w b s A n c z
/-- the value is a slice of words of the call's own: the least form of m -/
def WR (b : Nat) (m : Nat) (v : Value) (w : World) : Prop := ∃ A n c, v = .slice A n c ∧ n = (wd m).length ∧ Own w b 47 1 A n c ((wd m).map W64)
/-- the slice reads as the number m -/
def Wi (w : World) (A : Option Addr) (n c : Nat) (m : Nat) : Prop := ∃ xs, Rd w A n c xs ∧ nv xs = m
theorem Wi.ext {w w' : World} {A : Option Addr} {n c m : Nat} (h : Wi w A n c m) (e : Ext w w') : Wi w' A n c m := by
  obtain ⟨xs, h1, h2⟩ := h
  exact ⟨xs, h1.ext e, h2⟩
theorem Zi.wi {w : World} {s : Bool} {A : Option Addr} {n c : Nat} {z : Int} (h : Zi w s A n c z) : Wi w A n c z.natAbs := by
  obtain ⟨xs, h1, h2⟩ := h
  exact ⟨xs, h1, by rw [← h2, sg_abs]⟩
theorem Own.wi {w : World} {b : Nat} {t : TypeId} {A : Option Addr} {n c m : Nat} (h : Own w b t 1 A n c ((wd m).map W64)) : Wi w A n c m := ⟨_, h.rd (Wf_wd _), nv_wd m⟩
theorem Wi.zi {w : World} {A : Option Addr} {n c m : Nat} (h : Wi w A n c m) (s : Bool) : Zi w s A n c (sg s m) := by
  obtain ⟨xs, h1, h2⟩ := h
  exact ⟨xs, h1, by rw [h2]⟩
theorem Wi.len {w : World} {A : Option Addr} {n c m : Nat} (h : Wi w A n c m) : (wd m).length ≤ n := by
  obtain ⟨xs, h1, rfl⟩ := h
  have := len_wd_nv h1.wf
  rw [h1.len] at this; exact this
/-- a new variable -/
def PR (b : Nat) (T : TypeId) (vs : List Value) (v : Value) (w : World) : Prop := ∃ g, v = .pointer (some ⟨g, 0, none⟩) ∧ b ≤ g ∧ Bk w g T vs
theorem PR.old {b : Nat} {T : TypeId} {vs : List Value} {v : Value} {w : World} (h : PR b T vs v w) : OldIn w v := by
  obtain ⟨g, h1, _, h2⟩ := h
  exact ⟨g, h1, h2.lt⟩
theorem Zr_nat {w : World} {b m n c : Nat} {A : Option Addr} (hn : n = (wd m).length) (ho : Own w b 47 1 A n c ((wd m).map W64)) : Zr w b false A n c (m : Int) :=
  Zr_of (m := m) (s := false) (by rw [sg_false]; symm; exact decide_eq_false (by omega)) hn ho (sg_false m)
/-- two values, three -/
def T2 (R S : Value → World → Prop) (v : Value) (w : World) : Prop := ∃ a b, v = .tuple #[a, b] ∧ R a w ∧ S b w
def T3 (R S T : Value → World → Prop) (v : Value) (w : World) : Prop := ∃ a b c, v = .tuple #[a, b, c] ∧ R a w ∧ S b w ∧ T c w
/-- a call answers -/
def Gv (w : World) (R : Value → World → Prop) (e : Ending) (w' : World) : Prop := ∃ v, e = .returned v ∧ R v w' ∧ Ext w w'
section
variable {w w' : World} {b : Nat} {z x y : Int} {v u : Value} {R S T : Value → World → Prop}
theorem ZR.ext (h : ZR b z v w) (e : Ext w w') : ZR b z v w' := by
  obtain ⟨s, A, n, c, rfl, h⟩ := h
  exact ⟨s, A, n, c, rfl, h.ext e⟩
theorem ZR.cast (h : ZR b z v w) (e : z = x) : ZR b x v w := e ▸ h
theorem Is.ext (h : Is u v w) (_ : Ext w w') : Is u v w' := h
theorem gz (hb : b ≤ w.heap.size) (e : Ending) (w' : World) (h : RetZ w z e w') : Gv w (ZR b z) e w' := by
  obtain ⟨s, A, n, c, rfl, h1, h2⟩ := h
  exact ⟨_, rfl, ⟨s, A, n, c, rfl, h1.mono hb⟩, h2⟩
theorem gze {er : Int} (hb : b ≤ w.heap.size) (e : Ending) (w' : World) (h : RetZE w z er e w') : Gv w (T2 (ZR b z) (Is (.int .i64 er))) e w' := by
  obtain ⟨s, A, n, c, rfl, h1, h2⟩ := h
  exact ⟨_, rfl, ⟨_, _, rfl, ⟨s, A, n, c, rfl, h1.mono hb⟩, rfl⟩, h2⟩
theorem gzze {er : Int} (hb : b ≤ w.heap.size) (e : Ending) (w' : World) (h : RetZZE w x y er e w') : Gv w (T3 (ZR b x) (ZR b y) (Is (.int .i64 er))) e w' := by
  obtain ⟨s, A, n, c, s', B, m, c', rfl, h1, h1', h2⟩ := h
  exact ⟨_, rfl, ⟨_, _, _, rfl, ⟨s, A, n, c, rfl, h1.mono hb⟩, ⟨s', B, m, c', rfl, h1'.mono hb⟩, rfl⟩, h2⟩
theorem WR.ext {m : Nat} (h : WR b m v w) (e : Ext w w') : WR b m v w' := by
  obtain ⟨A, n, c, rfl, h1, h2⟩ := h
  exact ⟨A, n, c, rfl, h1, h2.ext e⟩
theorem gw {m : Nat} (hb : b ≤ w.heap.size) (e : Ending) (w' : World) (h : RetW w m e w') : Gv w (WR b m) e w' := by
  obtain ⟨A, n, c, rfl, h1, h2, h3, h4⟩ := h
  exact ⟨_, rfl, ⟨A, n, c, rfl, h1.out, h3.mono hb⟩, h4⟩
theorem gwe {m : Nat} {er : Int} (hb : b ≤ w.heap.size) (e : Ending) (w' : World) (h : RetWE w m er e w') : Gv w (T2 (WR b m) (Is (.int .i64 er))) e w' := by
  obtain ⟨A, n, c, rfl, h1, h2, h3, h4⟩ := h
  exact ⟨_, rfl, ⟨_, _, rfl, ⟨A, n, c, rfl, h1.out, h3.mono hb⟩, rfl⟩, h4⟩
theorem gqre {q r : Nat} {er : Int} (hb : b ≤ w.heap.size) (e : Ending) (w' : World) (h : RetQRE w q r er e w') : Gv w (T3 (WR b q) (WR b r) (Is (.int .i64 er))) e w' := by
  obtain ⟨A4, n4, c4, A5, n5, c5, rfl, hn4, hr4, ho4, hn5, hr5, ho5, hx4⟩ := h
  exact ⟨_, rfl, ⟨_, _, _, rfl, ⟨_, _, _, rfl, hn4.out, ho4.mono hb⟩, ⟨_, _, _, rfl, hn5.out, ho5.mono hb⟩, rfl⟩, hx4⟩
theorem Gv.imp (hi : ∀ v w, R v w → S v w) (e : Ending) (w' : World) (h : Gv w R e w') : Gv w S e w' := by
  obtain ⟨v, rfl, h1, h2⟩ := h
  exact ⟨v, rfl, hi _ _ h1, h2⟩
theorem ZR.imp {b' : Nat} (hb : b ≤ b') (v : Value) (w : World) (h : ZR b' z v w) : ZR b z v w := by
  obtain ⟨s, A, n, c, rfl, h⟩ := h
  exact ⟨s, A, n, c, rfl, h.mono hb⟩
theorem WR.imp {b' m : Nat} (hb : b ≤ b') (v : Value) (w : World) (h : WR b' m v w) : WR b m v w := by
  obtain ⟨A, n, c, rfl, h1, h2⟩ := h
  exact ⟨A, n, c, rfl, h1, h2.mono hb⟩
theorem T2.imp {R' S' : Value → World → Prop} (h1 : ∀ v w, R v w → R' v w) (h2 : ∀ v w, S v w → S' v w) (v : Value) (w : World) (h : T2 R S v w) : T2 R' S' v w := by
  obtain ⟨a, c, rfl, h3, h4⟩ := h
  exact ⟨a, c, rfl, h1 _ _ h3, h2 _ _ h4⟩
theorem T3.imp {R' S' T' : Value → World → Prop} (h1 : ∀ v w, R v w → R' v w) (h2 : ∀ v w, S v w → S' v w) (h0 : ∀ v w, T v w → T' v w) (v : Value) (w : World) (h : T3 R S T v w) : T3 R' S' T' v w := by
  obtain ⟨a, c, d, rfl, h3, h4, h5⟩ := h
  exact ⟨a, c, d, rfl, h1 _ _ h3, h2 _ _ h4, h0 _ _ h5⟩
theorem Is.imp {u : Value} (v : Value) (w : World) (h : Is u v w) : Is u v w := h
theorem gis {u : Value} (e : Ending) (w' : World) (h : e = .returned u ∧ Ext w w') : Gv w (Is u) e w' := ⟨_, h.1, rfl, h.2⟩
theorem gsgn (e : Ending) (w' : World) (h : SgnP z w e w') : Gv w (Is (.int .i64 z)) e w' := by
  obtain ⟨c, h1, _, _, rfl, h2⟩ := h
  exact ⟨_, rfl, (show Value.int .i64 c = _ by rw [h1.out]), h2⟩
theorem gbool {c : Bool} (e : Ending) (w' : World) (h : BoolP c w e w') : Gv w (Is (.bool c)) e w' := ⟨_, h.1, rfl, h.2⟩
end

section
variable {w : World} {b : Nat} (hb : b ≤ w.heap.size) {s t u : Bool} {A B C : Option Addr} {n cap m cap' k cap'' : Nat} {x y z : Int}
include hb
theorem g_zint_Add (hx : Zi w s A n cap x) (hl : n ≤ 274877906944) (hy : Zi w t B m cap' y) (hl' : m ≤ 274877906944) :
    Calls Try.prog 24 #[.agg #[.bool s, .slice A n cap], .agg #[.bool t, .slice B m cap']] w (Gv w (ZR b (x + y))) := (zint_Add hx hl hy hl').mono (gz hb)
theorem g_zint_Sub (hx : Zi w s A n cap x) (hl : n ≤ 274877906944) (hy : Zi w t B m cap' y) (hl' : m ≤ 274877906944) :
    Calls Try.prog 16 #[.agg #[.bool s, .slice A n cap], .agg #[.bool t, .slice B m cap']] w (Gv w (ZR b (x - y))) := (zint_Sub hx hl hy hl').mono (gz hb)
theorem g_zint_Mul (hx : Zi w s A n cap x) (hl : n ≤ 68719476736) (hy : Zi w t B m cap' y) (hl' : m ≤ 68719476736) :
    Calls Try.prog 17 #[.agg #[.bool s, .slice A n cap], .agg #[.bool t, .slice B m cap']] w (Gv w (ZR b (x * y))) := (zint_Mul hx hl hy hl').mono (gz hb)
theorem g_zint_MulAdd (hx : Zi w s A n cap x) (hl : n ≤ 68719476736) (hy : Zi w t B m cap' y) (hl' : m ≤ 68719476736) (hz : Zi w u C k cap'' z) (hl'' : k ≤ 68719476736) :
    Calls Try.prog 54 #[.agg #[.bool s, .slice A n cap], .agg #[.bool t, .slice B m cap'], .agg #[.bool u, .slice C k cap'']] w (Gv w (ZR b (x * y + z))) := (zint_MulAdd hx hl hy hl' hz hl'').mono (gz hb)
theorem g_zint_Neg (hx : Zi w s A n cap x) (hl : n ≤ 68719476736) : Calls Try.prog 61 #[.agg #[.bool s, .slice A n cap]] w (Gv w (ZR b (-x))) := (zint_Neg hx hl).mono (gz hb)
theorem g_zint_Abs (hx : Zi w s A n cap x) (hl : n ≤ 68719476736) : Calls Try.prog 68 #[.agg #[.bool s, .slice A n cap]] w (Gv w (ZR b (x.natAbs : Int))) := (zint_Abs hx hl).mono (gz hb)
theorem g_zint_Least (hx : Zi w s A n cap x) (hl : n ≤ 68719476736) : Calls Try.prog 59 #[.agg #[.bool s, .slice A n cap]] w (Gv w (ZR b x)) := (zint_Least hx hl).mono (gz hb)
theorem g_zint_Of {v : Int} (h1 : -9223372036854775808 ≤ v) (h2 : v ≤ 9223372036854775807) : Calls Try.prog 15 #[.int .i64 v] w (Gv w (ZR b v)) := (zint_OfI h1 h2).mono (gz hb)
theorem g_zint_Trunc (hx : Zi w s A n cap x) (hl : n ≤ 68719476736) (hy : Zi w t B m cap' y) (hl' : m ≤ 68719476736) (h0 : y ≠ 0) :
    Calls Try.prog 66 #[.agg #[.bool s, .slice A n cap], .agg #[.bool t, .slice B m cap']] w (Gv w (T3 (ZR b (x.tdiv y)) (ZR b (x.tmod y)) (Is (.int .i64 0)))) := (zint_Trunc hx hl hy hl' h0).mono (gzze hb)
theorem g_zint_Trunc_bad (hx : Zi w s A n cap x) (hl : n ≤ 68719476736) (hy : Zi w t B m cap' y) (hl' : m ≤ 68719476736) (h0 : y = 0) :
    Calls Try.prog 66 #[.agg #[.bool s, .slice A n cap], .agg #[.bool t, .slice B m cap']] w (Gv w (T3 (ZR b 0) (ZR b 0) (Is (.int .i64 4)))) := (zint_Trunc_bad hx hl hy hl' h0).mono (gzze hb)
omit hb in
theorem g_zint_of {m : Nat} (hn : n = (wd m).length) (ho : Own w b 47 1 A n cap ((wd m).map W64)) : Calls Try.prog 55 #[.bool s, .slice A n cap] w (Gv w (ZR b (sg s m))) :=
  (zint_of hn).mono fun e w' h => by
    obtain ⟨s', rfl, h1, h2⟩ := h
    exact ⟨_, rfl, ⟨s', A, n, cap, rfl, Zr_of h1.out hn (ho.ext h2) rfl⟩, h2⟩
omit hb in
theorem g_divnat_Exact_bad {i j : Nat} (hy : Wi w B m cap' j) (hl' : m ≤ 274877906944) (h0 : j = 0) :
    Calls Try.prog 82 #[.slice A n cap, .slice B m cap'] w (Gv w (Is (.tuple #[.slice none 0 0, .int .i64 4]))) := by
  obtain ⟨ys, h1, rfl⟩ := hy
  exact (divnat_Exact_bad h1 (by omega) h0).mono gis
omit hb in
theorem g_divnat_Exact_not {i j : Nat} (hx : Wi w A n cap i) (hl : n ≤ 274877906944) (hy : Wi w B m cap' j) (hl' : m ≤ 274877906944) (h0 : j ≠ 0) (h1 : i % j ≠ 0) :
    Calls Try.prog 82 #[.slice A n cap, .slice B m cap'] w (Gv w (Is (.tuple #[.slice none 0 0, .int .i64 8]))) := by
  obtain ⟨ys, hy, rfl⟩ := hy
  obtain ⟨xs, hx, rfl⟩ := hx
  exact (divnat_Exact_not hx hl hy hl' h0 h1).mono gis
theorem g_divnat_Exact {i j : Nat} (hx : Wi w A n cap i) (hl : n ≤ 274877906944) (hy : Wi w B m cap' j) (hl' : m ≤ 274877906944) (h0 : j ≠ 0) (h1 : i % j = 0) :
    Calls Try.prog 82 #[.slice A n cap, .slice B m cap'] w (Gv w (T2 (WR b (i / j)) (Is (.int .i64 0)))) := by
  obtain ⟨ys, hy, rfl⟩ := hy
  obtain ⟨xs, hx, rfl⟩ := hx
  exact (divnat_Exact hx hl hy hl' h0 h1).mono (gwe hb)
theorem g_divnat_Sqrt {i : Nat} (hx : Wi w A n cap i) (hl : n ≤ 67108864) :
    Calls Try.prog 67 #[.slice A n cap] w (fun e w' => ∃ r, IsRoot i 2 r ∧ Gv w (T2 (WR b r) (WR b (i - r * r))) e w') := by
  obtain ⟨xs, h1, rfl⟩ := hx
  refine (divnat_Sqrt h1 hl).mono ?_
  rintro e w' ⟨r, h2, A4, n4, c4, A5, n5, c5, rfl, hn4, hr4, ho4, hn5, hr5, ho5, hx4⟩
  exact ⟨r, h2.out, _, rfl, ⟨_, _, rfl, ⟨_, _, _, rfl, hn4.out, ho4.mono hb⟩, ⟨_, _, _, rfl, hn5.out, ho5.mono hb⟩⟩, hx4⟩
theorem g_zint_Exact (hx : Zi w s A n cap x) (hl : n ≤ 68719476736) (hy : Zi w t B m cap' y) (hl' : m ≤ 68719476736) (h0 : y ≠ 0) (h1 : y ∣ x) :
    Calls Try.prog 60 #[.agg #[.bool s, .slice A n cap], .agg #[.bool t, .slice B m cap']] w (Gv w (T2 (ZR b (x.tdiv y)) (Is (.int .i64 0)))) := (zint_Exact hx hl hy hl' h0 h1).mono (gze hb)
theorem g_bezout_Gcd (hx : Zi w s A n cap x) (hl : n ≤ 68719476736) (hy : Zi w t B m cap' y) (hl' : m ≤ 68719476736) :
    Calls Try.prog 38 #[.agg #[.bool s, .slice A n cap], .agg #[.bool t, .slice B m cap']] w (Gv w (ZR b (Int.gcd x y : Int))) := (bezout_Gcd hx hl hy hl').mono (gz hb)
end
section
variable {w : World} {s t : Bool} {A B : Option Addr} {n cap m cap' : Nat} {x y : Int}
theorem g_zint_Sign (hx : Zi w s A n cap x) (hl : n ≤ 68719476736) : Calls Try.prog 53 #[.agg #[.bool s, .slice A n cap]] w (Gv w (Is (.int .i64 (scmp x 0)))) := (zint_Sign hx hl).mono gsgn
theorem g_zint_Cmp (hx : Zi w s A n cap x) (hl : n ≤ 68719476736) (hy : Zi w t B m cap' y) (hl' : m ≤ 68719476736) :
    Calls Try.prog 23 #[.agg #[.bool s, .slice A n cap], .agg #[.bool t, .slice B m cap']] w (Gv w (Is (.int .i64 (scmp x y)))) := (zint_Cmp hx hl hy hl').mono gsgn
end
end Go.Proofs.Ytmaconeeonkdgaa
