/- the helpers of trellislaw08, in the form of answers -/
import Derived.Test.YtmaconeeonkdgaaLaw8b
import Derived.Test.YtmaconeeonkdgaaFr
namespace Go.Proofs.Ytmaconeeonkdgaa
open Go.RowKit

theorem bool_of {w : World} {c : Bool} (e : Ending) (w' : World) (h : Gv w (Is (.bool c)) e w') : BoolP c w e w' := by
  obtain ⟨v, rfl, h1, h2⟩ := h
  exact ⟨by rw [h1], h2⟩
theorem tmod_nat (k m : Nat) : (k : Int).tmod (m : Int) = ((k % m : Nat) : Int) := rfl
theorem g_law8_alike {w : World} {base base' : Nat} {s t : Bool} {A B : Option Addr} {n cap m cap' : Nat} {x y : Int} (hx : Zr w base s A n cap x) (hl : n ≤ 1099511627776) (hy : Zr w base' t B m cap' y) (hl' : m ≤ 1099511627776) (h : x = y) :
    Calls Try.prog 18 #[.agg #[.bool s, .slice A n cap], .agg #[.bool t, .slice B m cap']] w (Gv w (Is (.bool true))) := (law_alike hx hl hy hl' (b := true) (decide_eq_true h).symm).mono gbool
theorem g_law8_lowest {w : World} {base base' : Nat} {s s' : Bool} {A A' : Option Addr} {n cap n' cap' : Nat} {p q : Int} (hp : Zr w base s A n cap p) (hl : n ≤ 17179869184) (hq : Zr w base' s' A' n' cap' q) (hl' : n' ≤ 17179869184) (hpos : 0 < q) (hco : Int.gcd p q = 1) :
    Calls Try.prog 19 #[.agg #[.bool s, .slice A n cap, .bool s', .slice A' n' cap']] w (Gv w (Is (.bool true))) := (law_lowest hp hl hq hl' hpos hco).mono gbool
theorem g_law8_names {w : World} {base base' : Nat} {s s' t t' : Bool} {A A' B B' : Option Addr} {n cap n' cap' m dap m' dap' : Nat} {p q x y : Int} (hp : Zr w base s A n cap p) (hl : n ≤ 17179869184) (hq : Zr w base' s' A' n' cap' q) (hl' : n' ≤ 17179869184) (hx : Zi w t B m dap x) (hk : m ≤ 17179869184) (hy : Zi w t' B' m' dap' y) (hk' : m' ≤ 17179869184) (hlow : Low p q x y) :
    Calls Try.prog 14 #[.agg #[.bool s, .slice A n cap, .bool s', .slice A' n' cap'], .agg #[.bool t, .slice B m dap], .agg #[.bool t', .slice B' m' dap']] w (Gv w (Is (.bool true))) := (law_names hp hl hq hl' hx hk hy hk' hlow).mono gbool
theorem g_law8_is {w : World} {s s' : Bool} {A A' : Option Addr} {n cap n' cap' : Nat} {y : Int} (hy : Zi w s' A' n' cap' y) (hl' : n' ≤ 68719476736) {b : Bool} (hb : b = decide (y ≠ 0)) :
    Calls Try.prog 20 #[.agg #[.bool s, .slice A n cap, .bool s', .slice A' n' cap']] w (Gv w (Is (.bool b))) := (law_is hy hl' hb).mono gbool
theorem g_law8_like {w : World} {base base' : Nat} {s s' t t' : Bool} {A A' B B' : Option Addr} {n cap n' cap' m dap m' dap' : Nat} {x y u v : Int} (hx : Zr w base s A n cap x) (hl : n ≤ 1099511627776) (hy : Zr w base s' A' n' cap' y) (hl' : n' ≤ 1099511627776)
    (hu : Zr w base' t B m dap u) (hk : m ≤ 1099511627776) (hv : Zr w base' t' B' m' dap' v) (hk' : m' ≤ 1099511627776) (h1 : x = u) (h2 : y = v) :
    Calls Try.prog 26 #[.agg #[.bool s, .slice A n cap, .bool s', .slice A' n' cap'], .agg #[.bool t, .slice B m dap, .bool t', .slice B' m' dap']] w (Gv w (Is (.bool true))) := (law_like hx hl hy hl' hu hk hv hk' h1 h2).mono gbool
theorem g_law8_awake (w : World) : Calls Try.prog 11 #[] w (Gv w (Is (.bool true))) := (law_awake w).mono gbool
theorem g_law8_fit {w : World} {A : Option Addr} {n cap : Nat} {zs : List Int} {ms : List Nat} (h : Zl w A n cap zs ms) (hl : n ≤ 1048576) (hs : ms.sum ≤ 1048576) {b : Bool} (hb : b = true ↔ Fit zs) :
    Calls Try.prog 12 #[.slice A n cap] w (Gv w (Is (.bool b))) := (law_fit h hl hs hb).mono gbool
end Go.Proofs.Ytmaconeeonkdgaa
