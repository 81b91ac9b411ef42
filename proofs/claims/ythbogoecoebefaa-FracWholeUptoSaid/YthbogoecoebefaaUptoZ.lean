/- How integers and fractions that are handed in are opened and shut. -/
import Derived.Test.YthbogoecoebefaaUpto
import Derived.Test.YthbogoecoebefaaInt
namespace Go.Proofs.Ythbogoecoebefaa
open Go.ChangeShapes Go.WideShapes Go.ChangeAt Go.RowKit

theorem cells_int : Try.prog.cellsOf 24 = 2 := by kernel_rfl
theorem cells_words : Try.prog.cellsOf 22 = 1 := by kernel_rfl
theorem cells_bool : Try.prog.cellsOf 4 = 1 := by kernel_rfl
theorem fields_int : ∃ f0 f1 : Field, Try.prog.underlying 24 = some (.struct #[f0, f1]) ∧ f0.type = 4 ∧ f0.offset = 0 ∧ f1.type = 22 ∧ f1.offset = 1 := ⟨_, _, Try.underlying24, rfl, rfl, rfl, rfl⟩
theorem types_int : Try.prog.cellTypes Try.prog.depth 24 = some [4, 22] := by kernel_rfl
theorem wide_words {w : World} {base : Nat} {v : Value} (h : Cell.okWide Try.prog w .any base 22 v) : Value.okWide Try.prog w .any base 22 v := by
  simp only [Value.okWide, Try.underlying22]
  exact h

/-- THE TWO CELLS OF AN INTEGER, OPENED -/
theorem open_zcells {H : Type} {enc : TypeId × Value → H} {W : World} {base : Nat} {c0 c1 : Value} {x : DataW H × List MemPlace} {fuel : Nat}
    (hval : Cell.okWide Try.prog W .any base 22 c1) (h : DataW.trod enc Try.prog W 0 (fun _ => true) true fuel 24 [c0, c1] = some x) :
    ∃ s A n cap z, c0 = .bool s ∧ c1 = .slice A n cap ∧ Zi W s A n cap z ∧ n ≤ Rows.uptoBulk x.1 ∧
      ∀ W', Ext W W' → ∀ sp : Nat → Bool, (∀ q ∈ x.2, sp q.block = true) → ∃ fuel', DataW.trod enc Try.prog W' 0 sp true fuel' 24 [c0, c1] = some x := by
  obtain ⟨f0, f1, hu, t0, o0, t1, o1⟩ := fields_int
  obtain ⟨y0, y1, n, rfl, hl, h0, h1⟩ := trod_struct2 hu h
  rw [t0, o0, cells_bool] at h0
  rw [t1, o1, cells_words] at h1
  have e0 : (([c0, c1] : List Value).drop 0).take 1 = [c0] := rfl
  have e1 : (([c0, c1] : List Value).drop 1).take 1 = [c1] := rfl
  rw [e0] at h0
  rw [e1] at h1
  obtain ⟨s, hs, rfl⟩ := DataW.trod_bool Try.underlying4 h0
  obtain rfl : c0 = .bool s := by simpa using hs
  have hval' := wide_words hval
  have hc1 : c1.cells.toList = [c1] := by
    obtain ⟨A, n', cap, rfl⟩ := okWide_slice Try.underlying22 hval'
    rfl
  have hT : DataW.Trod enc Try.prog W 0 (fun _ => true) true 22 c1 y1.1 y1.2 := ⟨n, by rw [hc1]; exact h1⟩
  obtain ⟨A, k, cap, xs, rfl, hx, hb, rx⟩ := open_words hval' hT
  refine ⟨s, A, k, cap, _, rfl, rfl, ⟨xs, hx, rfl⟩, ?_, ?_⟩
  · simp only [Rows.uptoBulk, Rows.uptoBulkAll]; omega
  · intro W' he sp hsp
    obtain ⟨fu, hfu⟩ := rx W' he sp (fun q hq => hsp q (by simp [hq]))
    rw [hc1] at hfu
    refine ⟨fu + 1 + 1, trod_struct2_mk (y0 := (.lit (.bool s), [])) (y1 := y1) hu hl ?_ ?_⟩
    · rw [t0, o0, cells_bool, e0]
      simp [DataW.trod, Try.underlying4]
    · rw [t1, o1, cells_words, e1]
      exact DataW.trod_le (Nat.le_succ _) hfu
/-- AN INTEGER, OPENED -/
theorem open_zi {H : Type} {enc : TypeId × Value → H} {W : World} {base : Nat} {v : Value} {d : DataW H} {p : List MemPlace}
    (hval : Value.okWide Try.prog W .any base 24 v) (h : DataW.Trod enc Try.prog W 0 (fun _ => true) true 24 v d p) :
    ∃ s A n cap z, v = .agg #[.bool s, .slice A n cap] ∧ Zi W s A n cap z ∧ n ≤ Rows.uptoBulk d ∧
      ∀ W', Ext W W' → ∀ sp : Nat → Bool, (∀ q ∈ p, sp q.block = true) → DataW.Trod enc Try.prog W' 0 sp true 24 v d p := by
  simp only [Value.okWide, Try.underlying24] at hval
  obtain ⟨cs, rfl, hsz, ts, hts, _, hrow⟩ := hval
  rw [types_int] at hts
  obtain rfl := (Option.some.inj hts).symm
  rw [cells_int] at hsz
  obtain ⟨c0, c1, rfl⟩ : ∃ c0 c1, cs = #[c0, c1] := by
    rcases cs with ⟨l⟩
    match l, hsz with
    | [c0, c1], _ => exact ⟨c0, c1, rfl⟩
  obtain ⟨u, hu, hok⟩ := hrow 1 c1 rfl
  obtain rfl : u = 22 := by simpa using hu.symm
  obtain ⟨fuel, hf⟩ := h
  obtain ⟨s, A, n, cap, z, rfl, rfl, hz, hb, rx⟩ := open_zcells hok (show DataW.trod enc Try.prog W 0 (fun _ => true) true fuel 24 [c0, c1] = some (d, p) from hf)
  exact ⟨s, A, n, cap, z, rfl, hz, hb, fun W' he sp hsp => rx W' he sp hsp⟩

theorem cells_frac : Try.prog.cellsOf 39 = 4 := by kernel_rfl
theorem fields_frac : ∃ f0 f1 : Field, Try.prog.underlying 39 = some (.struct #[f0, f1]) ∧ f0.type = 24 ∧ f0.offset = 0 ∧ f1.type = 24 ∧ f1.offset = 2 := ⟨_, _, Try.underlying39, rfl, rfl, rfl, rfl⟩
theorem types_frac : Try.prog.cellTypes Try.prog.depth 39 = some [4, 22, 4, 22] := by kernel_rfl
/-- A FRACTION, OPENED -/
theorem open_frac {H : Type} {enc : TypeId × Value → H} {W : World} {base : Nat} {v : Value} {d : DataW H} {p : List MemPlace}
    (hval : Value.okWide Try.prog W .any base 39 v) (h : DataW.Trod enc Try.prog W 0 (fun _ => true) true 39 v d p) :
    ∃ s A n cap s' A' n' cap' x y, v = .agg #[.bool s, .slice A n cap, .bool s', .slice A' n' cap'] ∧ Zi W s A n cap x ∧ Zi W s' A' n' cap' y ∧ n + n' ≤ Rows.uptoBulk d ∧
      ∀ W', Ext W W' → ∀ sp : Nat → Bool, (∀ q ∈ p, sp q.block = true) → DataW.Trod enc Try.prog W' 0 sp true 39 v d p := by
  simp only [Value.okWide, Try.underlying39] at hval
  obtain ⟨cs, rfl, hsz, ts, hts, _, hrow⟩ := hval
  rw [types_frac] at hts
  obtain rfl := (Option.some.inj hts).symm
  rw [cells_frac] at hsz
  obtain ⟨c0, c1, c2, c3, rfl⟩ : ∃ c0 c1 c2 c3, cs = #[c0, c1, c2, c3] := by
    rcases cs with ⟨l⟩
    match l, hsz with
    | [c0, c1, c2, c3], _ => exact ⟨c0, c1, c2, c3, rfl⟩
  obtain ⟨u, hu, hok⟩ := hrow 1 c1 rfl
  obtain rfl : u = 22 := by simpa using hu.symm
  obtain ⟨u3, hu3, hok3⟩ := hrow 3 c3 rfl
  obtain rfl : u3 = 22 := by simpa using hu3.symm
  obtain ⟨fuel, hf⟩ := h
  have hf' : DataW.trod enc Try.prog W 0 (fun _ => true) true fuel 39 [c0, c1, c2, c3] = some (d, p) := hf
  obtain ⟨f0, f1, hus, t0, o0, t1, o1⟩ := fields_frac
  obtain ⟨y0, y1, n, hxy, hl, h0, h1⟩ := trod_struct2 hus hf'
  rw [t0, o0, cells_int] at h0
  rw [t1, o1, cells_int] at h1
  have e0 : (([c0, c1, c2, c3] : List Value).drop 0).take 2 = [c0, c1] := rfl
  have e1 : (([c0, c1, c2, c3] : List Value).drop 2).take 2 = [c2, c3] := rfl
  rw [e0] at h0
  rw [e1] at h1
  obtain ⟨s, A, k, cap, z, rfl, rfl, hz, hb, rx⟩ := open_zcells hok h0
  obtain ⟨s', A', k', cap', z', rfl, rfl, hz', hb', rx'⟩ := open_zcells hok3 h1
  simp only [Prod.mk.injEq] at hxy
  obtain ⟨rfl, rfl⟩ := hxy
  refine ⟨s, A, k, cap, s', A', k', cap', z, z', rfl, hz, hz', ?_, ?_⟩
  · simp only [Rows.uptoBulk, Rows.uptoBulkAll]; omega
  · intro W' he sp hsp
    obtain ⟨fu, hfu⟩ := rx W' he sp (fun q hq => hsp q (by simp [hq]))
    obtain ⟨fu', hfu'⟩ := rx' W' he sp (fun q hq => hsp q (by simp [hq]))
    refine ⟨max fu fu' + 1, ?_⟩
    refine trod_struct2_mk (y0 := y0) (y1 := y1) hus hl ?_ ?_
    · rw [t0, o0, cells_int]
      exact DataW.trod_le (Nat.le_max_left _ _) hfu
    · rw [t1, o1, cells_int]
      exact DataW.trod_le (Nat.le_max_right _ _) hfu'
end Go.Proofs.Ythbogoecoebefaa
