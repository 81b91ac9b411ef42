/- lists of integers: an element's variable; fractions as results -/
import Derived.Test.YtmaconeeonkdgaaZl
import Derived.Test.YtmaconeeonkdgaaSxl
import Derived.Test.YtmaconeeonkdgaaZh
namespace Go.Proofs.Ytmaconeeonkdgaa
open Go.RowKit

theorem Zl.elem {w : World} {a : Addr} {n cap : Nat} {zs : List Int} {ms : List Nat} (h : Zl w (some a) n cap zs ms) {i : Nat} (hi : i < n) :
    ∃ s B c, (∀ w', Ext w w' → ∀ (P : Program) (T : TypeId), AggT P T 2 → (loadVar T (a.add (i * 2))).run P w' = .ok (.agg #[.bool s, .slice B (ms.getD i 0) c]) w') ∧ Zi w s B (ms.getD i 0) c (zs.getD i 0) := by
  obtain ⟨a', s, B, c, ha, h1, h2, h3⟩ := h.get i hi
  cases ha
  refine ⟨s, B, c, fun w' e P T hT => load_at hT [.bool s, .slice B (ms.getD i 0) c] rfl (fun j hj => ?_), h3⟩
  rw [add_of_add]
  match j, hj with
  | 0, _ => exact e.cell h1
  | 1, _ => exact e.cell h2
theorem Zl.some {w : World} {A : Option Addr} {n cap : Nat} {zs : List Int} {ms : List Nat} (h : Zl w A n cap zs ms) (hn : 0 < n) : ∃ a, A = some a := by
  obtain ⟨a, s, B, c, ha, _⟩ := h.get 0 hn
  exact ⟨a, ha⟩
theorem elemInt : Try.prog.underlying 22 = some (.slice 27) := by kernel_rfl
/-- a fraction of the call's own -/
def FR (b : Nat) (p q : Int) (v : Value) (w : World) : Prop := ∃ s A n c s' A' n' c', v = .agg #[.bool s, .slice A n c, .bool s', .slice A' n' c'] ∧ Zr w b s A n c p ∧ Zr w b s' A' n' c' q
theorem FR.imp {b b' : Nat} {p q : Int} (hb : b ≤ b') (v : Value) (w : World) (h : FR b' p q v w) : FR b p q v w := by
  obtain ⟨s, A, n, c, s', A', n', c', rfl, h1, h2⟩ := h
  exact ⟨s, A, n, c, s', A', n', c', rfl, h1.mono hb, h2.mono hb⟩
theorem gfe {w : World} {b : Nat} {p q er : Int} (hb : b ≤ w.heap.size) (e : Ending) (w' : World) (h : RetFE w p q er e w') : Gv w (T2 (FR b p q) (Is (.int .i64 er))) e w' := by
  obtain ⟨s, A, n, c, s', A', n', c', rfl, h1, h2, h3⟩ := h
  exact ⟨_, rfl, ⟨_, _, rfl, ⟨s, A, n, c, s', A', n', c', rfl, h1.mono hb, h2.mono hb⟩, rfl⟩, h3⟩
theorem g_frac_Of_bad {w : World} {b : Nat} (hb : b ≤ w.heap.size) {s t : Bool} {A B : Option Addr} {n cap m cap' : Nat} {y : Int} (hy : Zi w t B m cap' y) (hl' : m ≤ 68719476736) (h0 : y = 0) :
    Calls Try.prog 21 #[.agg #[.bool s, .slice A n cap], .agg #[.bool t, .slice B m cap']] w (Gv w (T2 (FR b 0 0) (Is (.int .i64 4)))) := (frac_Of_bad hy hl' h0).mono (gfe hb)
theorem g_frac_Of {w : World} {b : Nat} (hb : b ≤ w.heap.size) {s t : Bool} {A B : Option Addr} {n cap m cap' : Nat} {x y : Int} (hx : Zi w s A n cap x) (hl : n ≤ 68719476736) (hy : Zi w t B m cap' y) (hl' : m ≤ 68719476736) (h0 : y ≠ 0) :
    Calls Try.prog 21 #[.agg #[.bool s, .slice A n cap], .agg #[.bool t, .slice B m cap']] w (fun e w' => ∃ p q, Low p q x y ∧ Gv w (T2 (FR b p q) (Is (.int .i64 0))) e w') :=
  (frac_Of hx hl hy hl' h0).mono fun e w' h => by
    obtain ⟨p, q, h1, h2⟩ := h
    exact ⟨p, q, h1.out, gfe hb e w' h2⟩
theorem g_frac_Of_low {w : World} {b : Nat} (hb : b ≤ w.heap.size) {s t : Bool} {A B : Option Addr} {n cap m cap' : Nat} {x y : Int} (hx : Zi w s A n cap x) (hl : n ≤ 68719476736) (hy : Zi w t B m cap' y) (hl' : m ≤ 68719476736) (h0 : 0 < y) (hg : Int.gcd x y = 1) :
    Calls Try.prog 21 #[.agg #[.bool s, .slice A n cap], .agg #[.bool t, .slice B m cap']] w (Gv w (T2 (FR b x y) (Is (.int .i64 0)))) :=
  (g_frac_Of hb hx hl hy hl' (by omega)).mono fun e w' h => by
    obtain ⟨p, q, h1, h2⟩ := h
    obtain ⟨rfl, rfl⟩ := lows_eq h1.co hg h1.pos h0 h1.eq
    exact h2
theorem ln_nd : ∀ (zs : List Int) (ms : List Nat), zs.length = ms.length → (∀ i, i < zs.length → ln (zs.getD i 0) ≤ ms.getD i 0) → ln (nd zs).1 ≤ ms.sum + zs.length + 1 ∧ ln (nd zs).2 ≤ ms.sum + zs.length
  | [], [], _, _ => by
    constructor
    · exact (by decide +kernel : ln 1 ≤ 1)
    · exact (by decide +kernel : ln 0 ≤ 0)
  | [], _ :: _, h, _ => by simp at h
  | _ :: _, [], h, _ => by simp at h
  | x :: r, m :: ms, h, hl => by
    obtain ⟨h1, h2⟩ := ln_nd r ms (by simpa using h) (fun i hi => by have := hl (i + 1) (by simpa using hi); simpa using this)
    have h0 := hl 0 (by simp)
    simp only [List.getD_cons_zero] at h0
    rw [nd_num, nd_den]
    simp only [List.sum_cons, List.length_cons]
    constructor
    · refine Nat.le_trans (ln_add (ln_mul h0 h1) h2) ?_
      omega
    · omega
theorem Zl.ln {w : World} {A : Option Addr} {n cap : Nat} {zs : List Int} {ms : List Nat} (h : Zl w A n cap zs ms) (i : Nat) (hi : i < n) : Go.Proofs.Ytmaconeeonkdgaa.ln (zs.getD i 0) ≤ ms.getD i 0 := by
  obtain ⟨a, s, B, c, _, _, _, h4⟩ := h.get i hi
  exact h4.ln
theorem ln_nd_drop {w : World} {A : Option Addr} {n cap : Nat} {zs : List Int} {ms : List Nat} (h : Zl w A n cap zs ms) (k : Nat) (hl : n ≤ 1048576) (hs : ms.sum ≤ 1048576) : ln (nd (zs.drop k)).1 ≤ 2097153 ∧ ln (nd (zs.drop k)).2 ≤ 2097153 := by
  have e : (ms.drop k).sum ≤ ms.sum := by
    have : ms.sum = (ms.take k).sum + (ms.drop k).sum := by rw [← List.sum_append, List.take_append_drop]
    omega
  have := ln_nd (zs.drop k) (ms.drop k) (by rw [List.length_drop, List.length_drop, h.len, h.mlen]) (fun i hi => by
    rw [List.length_drop, h.len] at hi
    have := h.ln (k + i) (by omega)
    simpa [List.getD_eq_getElem?_getD, List.getElem?_drop] using this)
  have hlen : (zs.drop k).length ≤ n := by rw [List.length_drop, h.len]; omega
  omega
end Go.Proofs.Ytmaconeeonkdgaa
