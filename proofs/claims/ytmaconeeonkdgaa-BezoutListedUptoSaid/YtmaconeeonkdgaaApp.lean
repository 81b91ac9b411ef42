/- append: rules for slices of the call's own memory. -/
import Derived.Test.YtmaconeeonkdgaaK4
import Derived.ArgAppend
namespace Go.Proofs.Ytmaconeeonkdgaa
open Go.RowKit

theorem UpdO.of {w w' : World} {A : Option Addr} (h : w.grownBy w' none) : UpdO A w w' := ⟨⟨h.os, h.tape, h.output, h.size, fun k hk _ => h.block k hk (by simp)⟩⟩
theorem Upd.updO {w w' : World} {g : Nat} (h : Upd g w w') {o : Nat} {x : _} : UpdO (some ⟨g, o, x⟩) w w' := ⟨h.by_⟩
theorem overl_take {cs us vs : List Value} {k : Nat} (hv : cs.take k = vs) (hk : k ≤ cs.length) : (overl cs k us).take (k + us.length) = vs ++ us := by
  unfold overl
  have e : (cs.take k ++ us).length = k + us.length := by rw [List.length_append, List.length_take, Nat.min_eq_left hk]
  rw [← e, List.take_left', hv]
  rfl
/-- the block of what an append answers: the old one, or a new one -/
def Kept (w : World) (A A' : Option Addr) : Prop := ∀ a', A' = some a' → (∃ a, A = some a ∧ a'.block = a.block) ∨ w.heap.size ≤ a'.block
section
variable {P : Program}
theorem run_app {t ty e : TypeId} {z : Value} {s bytes : Nat} (ht : P.underlying t = some (.slice e)) (hinfo : (P.info? e).map (fun i => (i.zero, i.size, i.bytes)) = some (some z, s, bytes)) (hzs : z.cells.size = s) (hsz : 0 < s) (hby : bytes ≤ 64)
    {w : World} {base : Nat} {A : Option Addr} {n cap : Nat} {xs : List Value} (hown : Own w base e s A n cap xs) (hb : base ≤ w.heap.size) {a : Addr} {m c : Nat} {news : List Value} (hl : news.length = m * s) (hnews : ∀ j u, news[j]? = some u → w.cell? (a.add j) = some u)
    (h1 : news.all (·.oneCell') = true) (hm : n + m ≤ 1099511627776) :
    ∃ A' cap' w', (Builtin.append_ #[t, t] ty #[.slice A n cap, .slice (some a) m c]).run P w = .ok (.slice A' (n + m) cap') w' ∧ Own w' base e s A' (n + m) cap' (xs ++ news) ∧ UpdO A w w' ∧ Kept w A A' := by
  obtain ⟨i, hi, hz, hz1, hz2⟩ := info_parts hinfo
  have h1' : ∀ u ∈ news, u.oneCell' = true := by simpa [List.all_eq_true] using h1
  have h63 : n + m ≤ maxLen := by rw [len_maxLen]; omega
  have hbytes : (n + m) * bytes ≤ 140737488355328 := by
    have : (n + m) * bytes ≤ 1099511627776 * 64 := Nat.mul_le_mul hm hby
    omega
  rcases hown with ⟨rfl, rfl, rfl, rfl⟩ | ⟨g, cs, rfl, hg, hk, hn, hcm, hcl, hv⟩
  · obtain ⟨v', w', hr, h2, h3, _⟩ := run_append_own (P := P) w w.heap.size t ty e i z s bytes ht hi hz hz1 hz2 hzs hsz (.slice none 0 0) 0 [] (World.ownsRow_nil w _ e s) a m c news hl hnews h1' h63 hbytes (Nat.le_refl _)
    obtain ⟨A', cap', rfl, ho⟩ := Own.of_row h2
    exact ⟨A', cap', w', hr, ho.mono hb, UpdO.of h3, fun a' ha => Or.inr (ho.block a' ha).1⟩
  · by_cases hroom : n + m ≤ cap
    · have hfit : n * s + news.length ≤ cs.length := by rw [hl, hcl, ← Nat.add_mul]; exact Nat.mul_le_mul_right s hroom
      obtain ⟨w', hst, hb2, hu, hs⟩ := store_cells (P := P) news 0 (n * s) w cs hk (by omega) h1'
      rw [Nat.add_zero] at hb2
      have hfc := run_firstCells_some (P := P) w i.size m a m c news (by rw [hz1]; exact hl) hnews
      rw [hz1] at hfc
      refine ⟨some ⟨g, 0, none⟩, cap, w', ?_, Or.inr ⟨g, _, rfl, hg, hb2, hroom, hcm, ?_, ?_⟩, hu.updO, fun a' ha => Or.inl ⟨_, rfl, by cases ha; rfl⟩⟩
      · simp [Builtin.append_, run_underlying ht, sizeOf, typeInfo, hi, Builtin.lenOf, hroom, hfc, Addr.add_lit, hz1, hst]
      · unfold overl
        simp only [List.length_append, List.length_take, List.length_drop]
        omega
      · rw [Nat.add_mul, ← hl]
        exact overl_take hv (by omega)
    · have hx := hv
      obtain ⟨v', w', hr, h2, h3⟩ := run_append_arg_grows (P := P) w t ty e i z s bytes ht hi hz hz1 hz2 hzs hsz ⟨g, 0, none⟩ n cap xs
        (by rw [← hv, List.length_take]; have := Nat.mul_le_mul_right s hn; omega)
        (fun j u hj => by
          have hjl := (List.getElem?_eq_some_iff.1 hj).1
          rw [add_lit0, Nat.zero_add, hk.cell (by rw [← hv, List.length_take] at hjl; omega)]
          rw [← hv, List.getElem?_take] at hj
          split at hj
          · rw [List.getD_eq_getElem?_getD, hj]; rfl
          · cases hj) a m c news hl hnews (by omega) h63 hbytes
      obtain ⟨A', cap', rfl, ho⟩ := Own.of_row h2
      exact ⟨A', cap', w', hr, ho.mono hb, UpdO.of h3, fun a' ha => Or.inr (ho.block a' ha).1⟩
variable {Q : Exit → Act → World → Prop} {n : Nat} {l : Fr} {w : World} {ops : Array Oper} {rest : List Oper} {d : Nat} {ty : TypeId} {pos : String} {af : Array Edge} {gd : Option (Nat × Bool)}
/-- append(x, y...) onto a slice of its own -/
theorem wl_app {x y : Operand} {t e : TypeId} {z : Value} {s bytes k m c cap base : Nat} {A : Option Addr} {a : Addr} {xs : List Value} (hw : guardB ops l gd = some true) (hx : evo l x = some (.slice A k cap)) (hy : evo l y = some (.slice (some a) m c))
    (ht : P.underlying t = some (.slice e)) (hinfo : (P.info? e).map (fun i => (i.zero, i.size, i.bytes)) = some (some z, s, bytes)) (hzs : z.cells.size = s) (hsz : 0 < s) (hby : bytes ≤ 64)
    (hown : Own w base e s A k cap xs) (hb : base ≤ w.heap.size) (news : List Value) (hl : news.length = m * s) (hnews : ∀ j u, news[j]? = some u → w.cell? (a.add j) = some u)
    (h1 : news.all (·.oneCell') = true) (hm : k + m ≤ 1099511627776) (hn : d < n)
    (h : ∀ A' cap' w', Own w' base e s A' (k + m) cap' (xs ++ news) → UpdO A w w' → Kept w A A' → wl P ops Q n rest ((d, .slice A' (k + m) cap') :: l) w') :
    wl P ops Q n (⟨some d, .call { callee := .builtin .append, args := #[x, y], argTypes := #[t, t] }, ty, pos, af, gd⟩ :: rest) l w := by
  obtain ⟨A', cap', w', hr, h2, h3, h4⟩ := run_app (P := P) (ty := ty) ht hinfo hzs hsz hby hown hb hl hnews h1 hm
  refine wl_val hw hn (fun a' ha => ?_) (h A' cap' w' h2 h3 h4)
  unfold execOp
  simp only [resolve, invoke, builtin, Sem.run_bind, Sem.run_pure, Result.andThen_ok, List.map_toArray, List.map_cons, List.map_nil, ha.ev hx, ha.ev hy]
  rw [hr]
  rfl
end
end Go.Proofs.Ytmaconeeonkdgaa
