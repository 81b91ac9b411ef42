/- How arguments of lists of words are opened and shut; what the bound on bulk gives. -/
import Derived.Test.YtmaconeeonkdgaaRows
import Derived.Test.YtmaconeeonkdgaaMem
import Derived.WalkKit
import Derived.ProofKit
import Derived.OpenShut
import Derived.JoinedCond
import Derived.ChangeSame
import Derived.ChangeSlices
namespace Go.Proofs.Ytmaconeeonkdgaa
open Go.ChangeShapes Go.WideShapes Go.ChangeAt Go.RowKit

theorem own_knob : ownKnob Try.prog.godebug = none := by kernel_rfl
theorem cells_word : Try.prog.cellsOf 47 = 1 := by kernel_rfl

theorem bulk_one {H : Type} (d : DataW H) : 1 ≤ Rows.uptoBulk d := by
  cases d with
  | lit l => cases l <;> simp [Rows.uptoBulk]
  | nil => simp [Rows.uptoBulk]
  | ptr d => simp [Rows.uptoBulk]
  | slice elems spare => simp [Rows.uptoBulk]
  | agg parts => simp [Rows.uptoBulk]
  | iface t d => simp [Rows.uptoBulk]
  | map entries => simp [Rows.uptoBulk]
  | held h => simp [Rows.uptoBulk]
theorem bulk_len {H : Type} (l : List (DataW H)) : l.length ≤ Rows.uptoBulkAll l := by
  induction l with
  | nil => simp [Rows.uptoBulkAll]
  | cons x r ih => have := bulk_one x; simp only [Rows.uptoBulkAll, List.length_cons]; omega
theorem bulk_slice {H : Type} (elems spare : List (DataW H)) : elems.length + spare.length ≤ Rows.uptoBulk (.slice elems spare) := by
  have h1 := bulk_len elems
  have h2 := bulk_len spare
  simp only [Rows.uptoBulk]
  omega
theorem bulk_bound {H : Type} {l : List (DataW H)} (hk : Rows.uptoSmall H l = true) : Rows.uptoBulkAll l ≤ 1048576 := of_decide_eq_true hk

theorem shape_lt {w : World} {b : Nat} {x : TypeId × Nat} (h : w.shape? b = some x) : b < w.heap.size := by
  refine Nat.lt_of_not_le (fun hle => ?_)
  simp [World.shape?, Array.getElem?_eq_none hle] at h
theorem wf_nat {n : Int} (h : (Lit.int .u64 n).wf = true) : 0 ≤ n ∧ n ≤ 18446744073709551615 := by
  simpa [Lit.wf, IntKind.min, IntKind.max, IntKind.signed, IntKind.bits] using h

theorem wf_int {n : Int} (h : (Lit.int .i64 n).wf = true) : -9223372036854775808 ≤ n ∧ n ≤ 9223372036854775807 := by
  simpa [Lit.wf, IntKind.min, IntKind.max, IntKind.signed, IntKind.bits] using h

set_option maxRecDepth 20000 in
/-- A LIST OF WORDS, OPENED: what it reads as, and that it reads so in every later world -/
theorem open_words {H : Type} {enc : TypeId × Value → H} {W : World} {base : Nat} {v : Value} {d : DataW H} {p : List MemPlace}
    (hval : Value.okWide Try.prog W .any base 25 v) (h : DataW.Trod enc Try.prog W 0 (fun _ => true) true 25 v d p) :
    ∃ A n cap xs, v = .slice A n cap ∧ Rd W A n cap xs ∧ n ≤ Rows.uptoBulk d ∧
      ∀ W', Ext W W' → ∀ sp : Nat → Bool, (∀ q ∈ p, sp q.block = true) → DataW.Trod enc Try.prog W' 0 sp true 25 v d p := by
  obtain ⟨A, n, cap, rfl⟩ := okWide_slice Try.underlying25 hval
  obtain ⟨fuel, hf⟩ := h
  rcases open_ints Try.underlying25 Try.underlying47 cells_word hf with ⟨hcs, hx⟩ | ⟨a, n', cap', zs, hcs, _, hl, hm, hz, hx, hcell, hwf⟩
  · simp [Value.cells] at hcs
    obtain ⟨rfl, rfl, rfl⟩ := hcs
    simp only [Prod.mk.injEq] at hx
    obtain ⟨rfl, rfl⟩ := hx
    exact ⟨none, 0, 0, [], rfl, Rd.nil W, Nat.zero_le _, fun W' _ sp _ => shut_slice_nil Try.underlying25⟩
  · simp [Value.cells] at hcs
    obtain ⟨rfl, rfl, rfl⟩ := hcs
    simp only [Prod.mk.injEq] at hx
    obtain ⟨rfl, rfl⟩ := hx
    simp only [if_true] at hz
    have hblk : 0 < cap → a.block < W.heap.size := fun hc => World.block_lt_of_cell? W (a.add 0) (hcell 0 (by omega)) |> fun h => by rwa [block_of_add] at h
    have hnn : ∀ z ∈ zs, ((z.toNat : Nat) : Int) = z := fun z hz' => Int.toNat_of_nonneg (wf_nat (hwf z hz')).1
    have hlen : (zs.take n).length = n := by rw [List.length_take]; omega
    refine ⟨some a, n, cap, (zs.take n).map Int.toNat, rfl, ⟨⟨by simp; omega, hl, hm, fun i hi => ⟨a, rfl, ?_⟩, fun b hb hc => by cases hb; exact hblk hc⟩, ?_⟩, ?_, ?_⟩
    · rw [hcell i (by omega)]
      have hi2 : i < zs.length := by omega
      have hmem : zs[i] ∈ zs := List.getElem_mem hi2
      have e : (((zs.take n).map Int.toNat).map W64).getD i undef = .int .u64 ((zs[i].toNat : Nat) : Int) := by
        simp [List.getD_eq_getElem?_getD, List.getElem?_map, show i < n by omega, List.getElem?_eq_getElem hi2]
      rw [e, hnn _ hmem]
      simp [List.getD_eq_getElem?_getD, List.getElem?_eq_getElem hi2]
    · intro x hx
      obtain ⟨z, hz1, rfl⟩ := List.mem_map.1 hx
      have := wf_nat (hwf z (List.mem_of_mem_take hz1))
      rw [WB_def]; omega
    · have := bulk_slice (H := H) (lits .u64 (zs.take n)) (lits .u64 (zs.drop n))
      have e : (lits (H := H) .u64 (zs.take n)).length = n := by simp [lits]; omega
      omega
    · intro W' he sp hsp
      have hcell' : ∀ i, i < zs.length → W'.cell? (a.add i) = some (.int .u64 (zs.getD i 0)) := fun i hi => he.cell (hcell i hi)
      by_cases hz0 : zs.length = 0
      · have hc0 : cap = 0 := by omega
        have hl0 : n = 0 := by omega
        subst hc0; subst hl0
        have t0 := shut_ints (enc := enc) (w := W') (base := 0) (spare := sp) (held := true) (a := a) (len := 0) (cap := 0) (zs := zs) 0 Try.underlying25 Try.underlying47 cells_word (Nat.zero_le _) (Nat.le_refl _) hm (by simp [hz0]) hcell' hwf
        exact ⟨2, by simpa [Value.cells] using t0⟩
      · have hspb : sp a.block = true := hsp (.cell a.block a.off) (MemPlace.mem_row.2 ⟨0, by omega, by simp⟩)
        have t0 := shut_ints (enc := enc) (w := W') (base := 0) (spare := sp) (held := true) (a := a) (len := n) (cap := cap) (zs := zs) 0 Try.underlying25 Try.underlying47 cells_word (Nat.zero_le _) hl hm (by simp [hspb, hz]) hcell' hwf
        exact ⟨2, by simpa [Value.cells] using t0⟩

theorem post_of_below {H : Type} {enc : TypeId × Value → H} {P : Program} {f : Func} {s : ChangeSpec} {apart fresh handsOn again : Bool} {W W' : World} {args : Array Value} {v : Value} {ds gs : List (DataW H)} {before pa pv : List MemPlace}
    (hW : DataW.Whole enc P f.params.toList s.vars apart W args.toList ds gs before)
    (hres : ∀ (b : Nat) (sp : Nat → Bool) (hd : Bool), DataW.TrodAll enc P W' b sp hd f.resultTypes.toList (v.resultList f.resultTypes.size) (s.fn H (ds ++ gs)).results [])
    (hargs : ∀ sp : Nat → Bool, (∀ p ∈ before, sp p.block = true) → DataW.TrodAll enc P W' 0 sp true f.params.toList args.toList (s.fn H (ds ++ gs)).args pa)
    (hvars : ∀ sp : Nat → Bool, (∀ p ∈ before, sp p.block = true) → DataW.TrodVars enc P W' sp s.vars (s.fn H (ds ++ gs)).vars pv)
    (hps : before = pa ++ pv) (hb : Below W.heap.size W W')
    (hok : ∀ (j : Nat) (t : TypeId) (r : Value), f.resultTypes[j]? = some t → (v.resultList f.resultTypes.size)[j]? = some r → Value.okWide P W' .any 0 t r) :
    s.post enc P f apart fresh handsOn again W args v W' := by
  have hlt : ∀ p ∈ before, p.block < W.heap.size := fun p hp => hW.lt p hp
  have hold : ∀ p ∈ before, (fun b => decide (b < W.heap.size)) p.block = true := fun p hp => by simpa using hlt p hp
  refine ⟨ds, gs, before, [], pa, pv, hW, hres _ _ _, hargs _ hold, hvars _ hold, World.keptBut_mono (fun p hp => ⟨hp, ?_⟩) (hb.frame (· ∈ before)), fun _ => ?_⟩
  · rw [hps, List.mem_append] at hp
    exact Or.inr hp
  · obtain ⟨_, _, _, _, _, hz, hn⟩ := hW
    refine ⟨hok, _, _, ([] ++ pa) ++ pv, ⟨[] ++ pa, pv, trodAll_append (hargs _ (fun _ _ => rfl)) (hres _ _ _), hvars _ (fun _ _ => rfl), rfl, ?_, ?_⟩, ?_⟩
    · intro b off hp
      have hin : MemPlace.cell b off ∈ before := by rw [hps]; simpa using hp
      rw [hb.frozen (hlt _ hin)]
      exact hz b off hin
    · intro ha
      have := hn ha
      rw [hps] at this
      simpa using this
    · intro p hp _
      rw [hps]
      simpa using hp
end Go.Proofs.Ytmaconeeonkdgaa
