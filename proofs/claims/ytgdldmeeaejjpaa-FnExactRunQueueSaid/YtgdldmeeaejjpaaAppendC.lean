/- append of one element, with a finer frame; a row and a box of another type lie apart. No program in sight, no condition. -/
import Derived.Test.YtgdldmeeaejjpaaOw
namespace Go.Proofs.Ytgdldmeeaejjpaa
open Go.ChangeShapes Go.WideShapes Go.ChangeAt Go.RowKit
/-- append of one element to a slice of the call's own: nothing but that slice's own block and new blocks turns. -/
theorem wp_append_rowC {P : Program} {w : World} {o : Oper} {a : Act} {K : Act → World → Prop} {Q : Exit → Act → World → Prop} (sO x : Operand) (t : TypeId)
    (ho : o.op = .call { callee := .builtin .append, args := #[sO, x], argTypes := #[t, t] }) (e : TypeId) (i : TypeInfo) (z : Value) (s bytes : Nat) (ht : P.underlying t = some (.slice e)) (hi : P.info? e = some i) (hz : i.zero = some z)
    (hsize : i.size = s) (hby : i.bytes = bytes) (hzs : z.cells.size = s) (hsz : 0 < s) {lo hh : Nat} {A : Option Addr} {n cap : Nat} {l : List Int} (hs : a.eval sO = .slice A n cap) (hown : IOwn w lo hh e s A n cap l)
    (g : Nat) (vs : List Int) (hx : a.eval x = .slice (some ⟨g, 0, none⟩) 1 1) (hvs : vs.length = s) (hc : ∀ j, j < s → w.cell? ⟨g, j, none⟩ = some (.int .i64 (vs[j]?.getD 0)))
    (hn : n ≤ 1099511627776) (hb : bytes ≤ 100) (hlo : lo ≤ w.heap.size)
    (h : ∀ A' cap' w', IOwn w' lo w'.heap.size e s A' (n + 1) cap' (l ++ vs) → Chg lo hh w w' → K (a.put o.dst (.slice A' (n + 1) cap')) w') : o.wp P a w K Q := by
  refine wp_append_own w sO x t ho lo e i z s bytes ht hi hz hsize hby hzs hsz _ n _ hs hown.1 ⟨g, 0, none⟩ 1 1 (vs.map (Value.int .i64)) hx (by simpa using hvs) ?_ ?_ ?_ ?_ hlo ?_
  · intro j u hu
    rw [List.getElem?_map] at hu
    have hj : j < s := by
      rcases Nat.lt_or_ge j s with h' | h'
      · exact h'
      · rw [List.getElem?_eq_none (by omega)] at hu; cases hu
    rw [List.getElem?_eq_getElem (by omega)] at hu
    have := hc j hj
    rw [List.getElem?_eq_getElem (by omega)] at this
    rw [add_plain, Nat.zero_add, this]
    simpa using hu
  · intro u hu
    obtain ⟨y, _, rfl⟩ := List.mem_map.1 hu
    rfl
  · unfold maxLen; omega
  · have : (n + 1) * bytes ≤ (1099511627776 + 1) * 100 := Nat.mul_le_mul (by omega) hb
    omega
  · intro v' w' h1 h2 _
    rw [← List.map_append] at h1
    rcases h1.2 with ⟨_, h0⟩ | ⟨g', cap', cur, rfl, _⟩
    · omega
    · exact h _ _ _ (IOwn.of_owns h1) ⟨h2.os, h2.tape, h2.output, h2.size, fun k hk ho => h2.block k hk (fun e' => by have h3 := (hown.1.lt k e'.symm).1; have h4 := hown.2 k e'.symm; omega)⟩
theorem append_rowC {P : Program} {w : World} {ops : Array Oper} {rest : List Oper} {o : Oper} {a : Act} {Q : Exit → Act → World → Prop} (hgd : o.guard = none) (sO x : Operand) (t : TypeId)
    (ho : o.op = .call { callee := .builtin .append, args := #[sO, x], argTypes := #[t, t] }) (e : TypeId) (i : TypeInfo) (z : Value) (s bytes : Nat) (ht : P.underlying t = some (.slice e)) (hi : P.info? e = some i) (hz : i.zero = some z)
    (hsize : i.size = s) (hby : i.bytes = bytes) (hzs : z.cells.size = s) (hsz : 0 < s) {lo hh : Nat} {A : Option Addr} {n cap : Nat} {l : List Int} (hs : a.eval sO = .slice A n cap) (hown : IOwn w lo hh e s A n cap l)
    (g : Nat) (vs : List Int) (hx : a.eval x = .slice (some ⟨g, 0, none⟩) 1 1) (hvs : vs.length = s) (hc : ∀ j, j < s → w.cell? ⟨g, j, none⟩ = some (.int .i64 (vs[j]?.getD 0)))
    (hn : n ≤ 1099511627776) (hb : bytes ≤ 100) (hlo : lo ≤ w.heap.size)
    (h : ∀ A' cap' w', IOwn w' lo w'.heap.size e s A' (n + 1) cap' (l ++ vs) → Chg lo hh w w' → wpList P ops Q rest (a.put o.dst (.slice A' (n + 1) cap')) w') : wpList P ops Q (o :: rest) a w :=
  wpList_plain hgd fun _ hK => wp_append_rowC sO x t ho e i z s bytes ht hi hz hsize hby hzs hsz hs hown g vs hx hvs hc hn hb hlo fun A' cap' w' h1 h2 => hK _ _ (h A' cap' w' h1 h2)
theorem IOwn.apart {w : World} {lo hi e s : Nat} {A : Option Addr} {n cap : Nat} {l : List Int} {g t : Nat} {cs : Array Value} (h : IOwn w lo hi e s A n cap l) (hb : Bk w g t cs) (he : e ≠ t) (hlo : lo ≤ hi) :
    ∃ a b, lo ≤ a ∧ a ≤ b ∧ b ≤ hi ∧ (g < a ∨ b ≤ g) ∧ IOwn w a b e s A n cap l := by
  rcases h.1.2 with ⟨hv, h0⟩ | ⟨g', cap', cur, hv, hbb, hg, rest⟩
  · refine ⟨lo, lo, Nat.le_refl _, Nat.le_refl _, hlo, by omega, ⟨h.1.1, .inl ⟨hv, h0⟩⟩, fun k hk => ?_⟩
    rw [hv] at hk
    cases hk
  · have hne : g ≠ g' := by
      rintro rfl
      unfold Bk at hb
      rw [hg] at hb
      injection hb with hb
      injection hb with _ hb
      exact he hb
    have h2 := h.2 g' (by rw [hv]; rfl)
    refine ⟨g', g' + 1, hbb, by omega, h2, by omega, ⟨h.1.1, .inr ⟨g', cap', cur, hv, Nat.le_refl _, hg, rest⟩⟩, fun k hk => ?_⟩
    rw [hv] at hk
    have : g' = k := by simpa [Value.ownBlock] using hk
    omega
end Go.Proofs.Ytgdldmeeaejjpaa
