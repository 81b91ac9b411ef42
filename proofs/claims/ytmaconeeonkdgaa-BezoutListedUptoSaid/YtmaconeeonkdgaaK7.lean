/- Parts UptoZ, joined. -/
import Derived.Test.YtmaconeeonkdgaaK6
import Derived.Deep.Slices
import Derived.DataShut

/- How integers and fractions that are handed in are opened and shut. -/
namespace Go.Proofs.Ytmaconeeonkdgaa
open Go.ChangeShapes Go.WideShapes Go.ChangeAt Go.RowKit

theorem cells_int : Try.prog.cellsOf 27 = 2 := by kernel_rfl
theorem cells_words : Try.prog.cellsOf 25 = 1 := by kernel_rfl
theorem cells_bool : Try.prog.cellsOf 4 = 1 := by kernel_rfl
theorem fields_int : ∃ f0 f1 : Field, Try.prog.underlying 27 = some (.struct #[f0, f1]) ∧ f0.type = 4 ∧ f0.offset = 0 ∧ f1.type = 25 ∧ f1.offset = 1 := ⟨_, _, Try.underlying27, rfl, rfl, rfl, rfl⟩
theorem types_int : Try.prog.cellTypes Try.prog.depth 27 = some [4, 25] := by kernel_rfl
set_option maxRecDepth 20000 in
theorem wide_words {w : World} {base : Nat} {v : Value} (h : Cell.okWide Try.prog w .any base 25 v) : Value.okWide Try.prog w .any base 25 v := by
  simp only [Value.okWide, Try.underlying25]
  exact h

set_option maxRecDepth 20000 in
/-- THE CELL OF A LIST OF WORDS, OPENED -/
theorem open_wcell {H : Type} {enc : TypeId × Value → H} {W : World} {v : Value} {d : DataW H} {p : List MemPlace} {fuel : Nat}
    (hf : DataW.trod enc Try.prog W 0 (fun _ => true) true fuel 25 [v] = some (d, p)) :
    ∃ A n cap xs, v = .slice A n cap ∧ Rd W A n cap xs ∧ n ≤ Rows.uptoBulk d ∧
      ∀ W', Ext W W' → ∀ sp : Nat → Bool, (∀ q ∈ p, sp q.block = true) → ∃ fuel', DataW.trod enc Try.prog W' 0 sp true fuel' 25 [v] = some (d, p) := by
  rcases open_ints Try.underlying25 Try.underlying47 cells_word hf with ⟨hcs, hx⟩ | ⟨a, n', cap', zs, hcs, _, hl, hm, hz, hx, hcell, hwf⟩
  · obtain rfl := List.singleton_inj.1 hcs
    simp only [Prod.mk.injEq] at hx
    obtain ⟨rfl, rfl⟩ := hx
    exact ⟨none, 0, 0, [], rfl, Rd.nil W, Nat.zero_le _, fun W' _ sp _ => by obtain ⟨fu, h⟩ := shut_slice_nil (enc := enc) (w := W') (base := 0) (spare := sp) (held := true) Try.underlying25; exact ⟨fu, h⟩⟩
  · obtain rfl := List.singleton_inj.1 hcs
    simp only [Prod.mk.injEq] at hx
    obtain ⟨rfl, rfl⟩ := hx
    simp only [if_true] at hz
    have hblk : 0 < cap' → a.block < W.heap.size := fun hc => World.block_lt_of_cell? W (a.add 0) (hcell 0 (by omega)) |> fun h => by rwa [block_of_add] at h
    have hnn : ∀ z ∈ zs, ((z.toNat : Nat) : Int) = z := fun z hz' => Int.toNat_of_nonneg (wf_nat (hwf z hz')).1
    have hlen : (zs.take n').length = n' := by rw [List.length_take]; omega
    refine ⟨some a, n', cap', (zs.take n').map Int.toNat, rfl, ⟨⟨by simp; omega, hl, hm, fun i hi => ⟨a, rfl, ?_⟩, fun b hb hc => by cases hb; exact hblk hc⟩, ?_⟩, ?_, ?_⟩
    · rw [hcell i (by omega)]
      have hi2 : i < zs.length := by omega
      have hmem : zs[i] ∈ zs := List.getElem_mem hi2
      have e : (((zs.take n').map Int.toNat).map W64).getD i undef = .int .u64 ((zs[i].toNat : Nat) : Int) := by
        simp [List.getD_eq_getElem?_getD, List.getElem?_map, show i < n' by omega, List.getElem?_eq_getElem hi2]
      rw [e, hnn _ hmem]
      simp [List.getD_eq_getElem?_getD, List.getElem?_eq_getElem hi2]
    · intro x hx
      obtain ⟨z, hz1, rfl⟩ := List.mem_map.1 hx
      have := wf_nat (hwf z (List.mem_of_mem_take hz1))
      rw [WB_def]; omega
    · have := bulk_slice (H := H) (lits .u64 (zs.take n')) (lits .u64 (zs.drop n'))
      have e : (lits (H := H) .u64 (zs.take n')).length = n' := by simp [lits]; omega
      omega
    · intro W' he sp hsp
      have hcell' : ∀ i, i < zs.length → W'.cell? (a.add i) = some (.int .u64 (zs.getD i 0)) := fun i hi => he.cell (hcell i hi)
      by_cases hz0 : zs.length = 0
      · have hc0 : cap' = 0 := by omega
        have hl0 : n' = 0 := by omega
        subst hc0; subst hl0
        have t0 := shut_ints (enc := enc) (w := W') (base := 0) (spare := sp) (held := true) (a := a) (len := 0) (cap := 0) (zs := zs) 0 Try.underlying25 Try.underlying47 cells_word (Nat.zero_le _) (Nat.le_refl _) hm (by simp [hz0]) hcell' hwf
        exact ⟨2, t0⟩
      · have hspb : sp a.block = true := hsp (.cell a.block a.off) (MemPlace.mem_row.2 ⟨0, by omega, by simp⟩)
        have t0 := shut_ints (enc := enc) (w := W') (base := 0) (spare := sp) (held := true) (a := a) (len := n') (cap := cap') (zs := zs) 0 Try.underlying25 Try.underlying47 cells_word (Nat.zero_le _) hl hm (by simp [hspb, hz]) hcell' hwf
        exact ⟨2, t0⟩


set_option maxRecDepth 20000 in
/-- THE TWO CELLS OF AN INTEGER, OPENED -/
theorem open_zcells {H : Type} {enc : TypeId × Value → H} {W : World} {c0 c1 : Value} {x : DataW H × List MemPlace} {fuel : Nat}
    (h : DataW.trod enc Try.prog W 0 (fun _ => true) true fuel 27 [c0, c1] = some x) :
    ∃ s A n cap z, c0 = .bool s ∧ c1 = .slice A n cap ∧ Zi W s A n cap z ∧ n + 1 ≤ Rows.uptoBulk x.1 ∧
      ∀ W', Ext W W' → ∀ sp : Nat → Bool, (∀ q ∈ x.2, sp q.block = true) → ∃ fuel', DataW.trod enc Try.prog W' 0 sp true fuel' 27 [c0, c1] = some x := by
  obtain ⟨f0, f1, hu, t0, o0, t1, o1⟩ := fields_int
  obtain ⟨y0, y1, n, rfl, hl, h0, h1⟩ := trod_struct2 hu h
  rw [t0, o0, cells_bool] at h0
  rw [t1, o1, cells_words] at h1
  have e0 : (([c0, c1] : List Value).drop 0).take 1 = [c0] := rfl
  have e1 : (([c0, c1] : List Value).drop 1).take 1 = [c1] := rfl
  rw [e0] at h0
  rw [e1] at h1
  obtain ⟨s, hs, rfl⟩ := DataW.trod_bool Try.underlying4 h0
  obtain rfl : c0 = .bool s := by simpa using hs
  obtain ⟨A, k, cap, xs, rfl, hx, hb, rx⟩ := open_wcell (d := y1.1) (p := y1.2) h1
  refine ⟨s, A, k, cap, _, rfl, rfl, ⟨xs, hx, rfl⟩, ?_, ?_⟩
  · simp only [Rows.uptoBulk, Rows.uptoBulkAll]; omega
  · intro W' he sp hsp
    obtain ⟨fu, hfu⟩ := rx W' he sp (fun q hq => hsp q (by simp [hq]))
    refine ⟨fu + 1 + 1, trod_struct2_mk (y0 := (.lit (.bool s), [])) (y1 := y1) hu hl ?_ ?_⟩
    · rw [t0, o0, cells_bool, e0]
      simp [DataW.trod, Try.underlying4]
    · rw [t1, o1, cells_words, e1]
      exact DataW.trod_le (Nat.le_succ _) hfu
set_option maxRecDepth 20000 in
/-- AN INTEGER, OPENED -/
theorem open_zi {H : Type} {enc : TypeId × Value → H} {W : World} {base : Nat} {v : Value} {d : DataW H} {p : List MemPlace}
    (hval : Value.okWide Try.prog W .any base 27 v) (h : DataW.Trod enc Try.prog W 0 (fun _ => true) true 27 v d p) :
    ∃ s A n cap z, v = .agg #[.bool s, .slice A n cap] ∧ Zi W s A n cap z ∧ n ≤ Rows.uptoBulk d ∧
      ∀ W', Ext W W' → ∀ sp : Nat → Bool, (∀ q ∈ p, sp q.block = true) → DataW.Trod enc Try.prog W' 0 sp true 27 v d p := by
  simp only [Value.okWide, Try.underlying27] at hval
  obtain ⟨cs, rfl, hsz, ts, hts, _, hrow⟩ := hval
  rw [types_int] at hts
  obtain rfl := (Option.some.inj hts).symm
  rw [cells_int] at hsz
  obtain ⟨c0, c1, rfl⟩ : ∃ c0 c1, cs = #[c0, c1] := by
    rcases cs with ⟨l⟩
    match l, hsz with
    | [c0, c1], _ => exact ⟨c0, c1, rfl⟩
  obtain ⟨u, hu, hok⟩ := hrow 1 c1 rfl
  obtain rfl : u = 25 := by simpa using hu.symm
  obtain ⟨fuel, hf⟩ := h
  obtain ⟨s, A, n, cap, z, rfl, rfl, hz, hb, rx⟩ := open_zcells (show DataW.trod enc Try.prog W 0 (fun _ => true) true fuel 27 [c0, c1] = some (d, p) from hf)
  exact ⟨s, A, n, cap, z, rfl, hz, Nat.le_of_succ_le hb, fun W' he sp hsp => rx W' he sp hsp⟩

theorem cells_frac : Try.prog.cellsOf 29 = 4 := by kernel_rfl
theorem fields_frac : ∃ f0 f1 : Field, Try.prog.underlying 29 = some (.struct #[f0, f1]) ∧ f0.type = 27 ∧ f0.offset = 0 ∧ f1.type = 27 ∧ f1.offset = 2 := ⟨_, _, Try.underlying29, rfl, rfl, rfl, rfl⟩
theorem types_frac : Try.prog.cellTypes Try.prog.depth 29 = some [4, 25, 4, 25] := by kernel_rfl
set_option maxRecDepth 20000 in
/-- A FRACTION, OPENED -/
theorem open_frac {H : Type} {enc : TypeId × Value → H} {W : World} {base : Nat} {v : Value} {d : DataW H} {p : List MemPlace}
    (hval : Value.okWide Try.prog W .any base 29 v) (h : DataW.Trod enc Try.prog W 0 (fun _ => true) true 29 v d p) :
    ∃ s A n cap s' A' n' cap' x y, v = .agg #[.bool s, .slice A n cap, .bool s', .slice A' n' cap'] ∧ Zi W s A n cap x ∧ Zi W s' A' n' cap' y ∧ n + n' ≤ Rows.uptoBulk d ∧
      ∀ W', Ext W W' → ∀ sp : Nat → Bool, (∀ q ∈ p, sp q.block = true) → DataW.Trod enc Try.prog W' 0 sp true 29 v d p := by
  simp only [Value.okWide, Try.underlying29] at hval
  obtain ⟨cs, rfl, hsz, ts, hts, _, hrow⟩ := hval
  rw [types_frac] at hts
  obtain rfl := (Option.some.inj hts).symm
  rw [cells_frac] at hsz
  obtain ⟨c0, c1, c2, c3, rfl⟩ : ∃ c0 c1 c2 c3, cs = #[c0, c1, c2, c3] := by
    rcases cs with ⟨l⟩
    match l, hsz with
    | [c0, c1, c2, c3], _ => exact ⟨c0, c1, c2, c3, rfl⟩
  obtain ⟨u, hu, hok⟩ := hrow 1 c1 rfl
  obtain rfl : u = 25 := by simpa using hu.symm
  obtain ⟨u3, hu3, hok3⟩ := hrow 3 c3 rfl
  obtain rfl : u3 = 25 := by simpa using hu3.symm
  obtain ⟨fuel, hf⟩ := h
  have hf' : DataW.trod enc Try.prog W 0 (fun _ => true) true fuel 29 [c0, c1, c2, c3] = some (d, p) := hf
  obtain ⟨f0, f1, hus, t0, o0, t1, o1⟩ := fields_frac
  obtain ⟨y0, y1, n, hxy, hl, h0, h1⟩ := trod_struct2 hus hf'
  rw [t0, o0, cells_int] at h0
  rw [t1, o1, cells_int] at h1
  have e0 : (([c0, c1, c2, c3] : List Value).drop 0).take 2 = [c0, c1] := rfl
  have e1 : (([c0, c1, c2, c3] : List Value).drop 2).take 2 = [c2, c3] := rfl
  rw [e0] at h0
  rw [e1] at h1
  obtain ⟨s, A, k, cap, z, rfl, rfl, hz, hb, rx⟩ := open_zcells h0
  obtain ⟨s', A', k', cap', z', rfl, rfl, hz', hb', rx'⟩ := open_zcells h1
  simp only [Prod.mk.injEq] at hxy
  obtain ⟨rfl, rfl⟩ := hxy
  refine ⟨s, A, k, cap, s', A', k', cap', z, z', rfl, hz, hz', ?_, ?_⟩
  · simp only [Rows.uptoBulk, Rows.uptoBulkAll]; omega
  · intro W' he sp hsp
    obtain ⟨fu, hfu⟩ := rx W' he sp (fun q hq => hsp q (by simp [hq]))
    obtain ⟨fu', hfu'⟩ := rx' W' he sp (fun q hq => hsp q (by simp [hq]))
    refine ⟨max fu fu' + 1, ?_⟩
    refine trod_struct2_mk (y0 := y0) (y1 := y1) hus hl ?_ ?_
    · rw [t0, o0, cells_int]
      exact DataW.trod_le (Nat.le_max_left _ _) hfu
    · rw [t1, o1, cells_int]
      exact DataW.trod_le (Nat.le_max_right _ _) hfu'
theorem sum_map_le {H : Type} (D : Nat → DataW H) (f : Nat → Nat) (n : Nat) (h : ∀ i, i < n → f i + 1 ≤ Rows.uptoBulk (D i)) : ((List.range n).map f).sum + n ≤ Rows.uptoBulkAll ((List.range n).map D) := by
  induction n with
  | zero => simp [Rows.uptoBulkAll]
  | succ n ih =>
    have ih' := ih (fun i hi => h i (by omega))
    have hn := h n (by omega)
    rw [List.range_succ, List.map_append, List.map_append, List.sum_append, List.map_singleton, List.map_singleton]
    have e : ∀ (l : List (DataW H)) (x : DataW H), Rows.uptoBulkAll (l ++ [x]) = Rows.uptoBulkAll l + Rows.uptoBulk x := by
      intro l x
      induction l with
      | nil => simp [Rows.uptoBulkAll]
      | cons y r ihl => simp only [List.cons_append, Rows.uptoBulkAll, ihl]; omega
    rw [e]
    simp only [List.sum_singleton]
    omega
theorem elem_len {l : List Value} (h : l.length = 2) : ∃ a b, l = [a, b] := by
  match l, h with
  | [a, b], _ => exact ⟨a, b, rfl⟩
set_option maxRecDepth 20000 in
/-- A LIST OF INTEGERS, OPENED -/
theorem open_zl {H : Type} {enc : TypeId × Value → H} {W : World} {base : Nat} {v : Value} {d : DataW H} {p : List MemPlace}
    (hval : Value.okWide Try.prog W .any base 22 v) (h : DataW.Trod enc Try.prog W 0 (fun _ => true) true 22 v d p) :
    ∃ A n cap zs ms, v = .slice A n cap ∧ Zl W A n cap zs ms ∧ n + ms.sum ≤ Rows.uptoBulk d ∧
      ∀ W', Ext W W' → ∀ sp : Nat → Bool, (∀ q ∈ p, sp q.block = true) → DataW.Trod enc Try.prog W' 0 sp true 22 v d p := by
  obtain ⟨A, n, cap, rfl⟩ := okWide_slice Try.underlying22 hval
  obtain ⟨fuel, hf⟩ := h
  have hf' : DataW.trod enc Try.prog W 0 (fun _ => true) true fuel 22 [.slice A n cap] = some (d, p) := hf
  rcases Go.Deep.open_slice Try.underlying22 hf' with ⟨hcs, hx⟩ | ⟨a, n', cap', m, k, D, Pl, hcs, _, hl, hm, hmm, hx, hi⟩
  · have h1 := List.singleton_inj.1 hcs
    injection h1 with e1 e2 e3
    subst e1; subst e2; subst e3
    simp only [Prod.mk.injEq] at hx
    obtain ⟨rfl, rfl⟩ := hx
    refine ⟨none, 0, 0, [], [], rfl, ⟨rfl, rfl, Nat.le_refl _, by decide, fun i hi => by omega⟩, ?_, fun W' _ sp _ => shut_slice_nil Try.underlying22⟩
    simp
  · have h1 := List.singleton_inj.1 hcs
    injection h1 with e1 e2 e3
    subst e1; subst e2; subst e3
    simp only [if_true] at hmm
    have hmm' := hmm.symm
    subst hmm'
    simp only [Prod.mk.injEq] at hx
    obtain ⟨rfl, rfl⟩ := hx
    rw [cells_int] at hi
    have hel : ∀ i, i < cap → ∃ (q : Bool × Option Addr × Nat × Nat × Int), W.cell? (a.add (i * 2)) = some (.bool q.1) ∧ W.cell? (a.add (i * 2 + 1)) = some (.slice q.2.1 q.2.2.1 q.2.2.2.1) ∧ Zi W q.1 q.2.1 q.2.2.1 q.2.2.2.1 q.2.2.2.2 ∧ q.2.2.1 + 1 ≤ Rows.uptoBulk (D i) ∧
        ∀ W', Ext W W' → ∀ sp : Nat → Bool, (∀ r ∈ Pl i, sp r.block = true) → ∃ fuel', DataW.trod enc Try.prog W' 0 sp true fuel' 27 [.bool q.1, .slice q.2.1 q.2.2.1 q.2.2.2.1] = some (D i, Pl i) := by
      intro i him
      obtain ⟨cs', hc, ht'⟩ := hi i him
      obtain ⟨_, hcl, hat⟩ := World.cells?_some hc
      obtain ⟨c0, c1, rfl⟩ := elem_len hcl
      have ht2 : DataW.trod enc Try.prog W 0 (fun _ => true) true k 27 [c0, c1] = some (D i, Pl i) := ht'
      obtain ⟨s, B, nb, c, z, rfl, rfl, hz, hb, rx⟩ := open_zcells ht2
      refine ⟨(s, B, nb, c, z), ?_, ?_, hz, hb, rx⟩
      · have := hat 0 (by simp)
        simpa [Go.Deep.add_add] using this
      · have := hat 1 (by simp)
        simpa [Go.Deep.add_add] using this
    obtain ⟨Q, hQ⟩ := Go.Deep.choose_lt hel
    refine ⟨some a, n, cap, (List.range n).map (fun i => (Q i).2.2.2.2), (List.range n).map (fun i => (Q i).2.2.1), rfl, ⟨by simp, by simp, hl, hm, fun i hin => ?_⟩, ?_, ?_⟩
    · obtain ⟨h1, h2, h3, _, _⟩ := hQ i (by omega)
      have e1 : ((List.range n).map (fun i => (Q i).2.2.1)).getD i 0 = (Q i).2.2.1 := by simp [List.getD_eq_getElem?_getD, hin]
      have e2 : ((List.range n).map (fun i => (Q i).2.2.2.2)).getD i 0 = (Q i).2.2.2.2 := by simp [List.getD_eq_getElem?_getD, hin]
      rw [e1, e2]
      exact ⟨a, _, _, _, rfl, h1, h2, h3⟩
    · have := sum_map_le D (fun i => (Q i).2.2.1) n (fun i hin => (hQ i (by omega)).2.2.2.1)
      simp only [Rows.uptoBulk]
      omega
    · intro W' he sp hsp
      have hall : ∀ i, i < cap → ∃ cs n, W'.cells? 0 (a.add (i * Try.prog.cellsOf 27)) (Try.prog.cellsOf 27) = some cs ∧ DataW.trod enc Try.prog W' 0 sp true n 27 cs = some (D i, Pl i) := by
        intro i him
        obtain ⟨h1, h2, _, _, rx⟩ := hQ i him
        obtain ⟨fu, hfu⟩ := rx W' he sp (fun r hr => hsp r (List.mem_append.2 (Or.inr (List.mem_flatMap.2 ⟨i, List.mem_range.2 him, hr⟩))))
        refine ⟨_, fu, ?_, hfu⟩
        rw [cells_int]
        refine World.cells?_of_each (Nat.zero_le _) rfl ?_
        intro j hj
        match j, hj with
        | 0, _ => simpa [Go.Deep.add_add] using he.cell h1
        | 1, _ => simpa [Go.Deep.add_add] using he.cell h2
      by_cases hc0 : cap = 0
      · subst hc0
        obtain rfl : n = 0 := by omega
        cases hs : sp a.block with
        | true => exact Go.Deep.shut_slice_whole Try.underlying22 (Nat.zero_le _) hl hm hs D Pl hall
        | false =>
          have := Go.Deep.shut_slice (enc := enc) (w := W') (held := true) Try.underlying22 (Nat.zero_le _) hl hm hs D Pl (fun i hi => by omega)
          simpa using this
      · have hspb : sp a.block = true := by
          refine hsp (.cell a.block a.off) (List.mem_append.2 (Or.inl (MemPlace.mem_row.2 ⟨0, by rw [cells_int]; omega, by simp⟩)))
        exact Go.Deep.shut_slice_whole Try.underlying22 (Nat.zero_le _) hl hm hspb D Pl hall
end Go.Proofs.Ytmaconeeonkdgaa
