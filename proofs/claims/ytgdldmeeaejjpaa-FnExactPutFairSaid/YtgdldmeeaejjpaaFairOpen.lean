/- Opening of schedulers that came in. No program in sight, no condition. -/
import Derived.Test.YtgdldmeeaejjpaaFairBox
import Derived.Test.YtgdldmeeaejjpaaFlat
namespace Go.Proofs.Ytgdldmeeaejjpaa
open Go.ChangeShapes Go.WideShapes Go.ChangeAt Go.RowKit
set_option linter.unusedVariables false
section
variable {H : Type} {enc : TypeId × Value → H} {P : Program} {w : World}
theorem ints_leaf {t e : TypeId} {c : Value} {fuel : Nat} {x : DataW H × List MemPlace} (ht : P.underlying t = some (.slice e)) (he : P.underlying e = some (.int .i64)) (hc : P.cellsOf e = 1)
    (h : DataW.trod enc P w 0 (fun _ => true) true fuel t [c] = some x) : ∃ B m capd, ∃ D : List Int, c = .slice B m capd ∧ (IRow w B D ∧ D.length = m ∧ m ≤ capd ∧ (B = none → capd = 0) ∧ m ≤ 9223372036854775807) := by
  obtain ⟨A, len, cap, rfl, h1, h2, h3⟩ : ∃ A len cap, c = .slice A len cap ∧ len ≤ cap ∧ (A = none → cap = 0) ∧ len ≤ 9223372036854775807 := by
    rcases Go.Deep.open_slice ht h with ⟨hcs, _⟩ | ⟨a, l', c', m, n, D, Pl, hcs, _, hl, hm, _⟩
    · exact ⟨none, 0, 0, by simpa using hcs, Nat.le_refl _, fun _ => rfl, by omega⟩
    · exact ⟨some a, l', c', by simpa using hcs, hl, (fun e => by cases e), by unfold maxLen at hm; omega⟩
  obtain ⟨l, hl1, hl2, _⟩ := ints_row (d := x.1) (p := x.2) ht he hc ⟨fuel, h⟩
  exact ⟨A, len, cap, l, rfl, hl1, hl2, h1, h2, h3⟩
theorem slice_leaf {t e : TypeId} {c : Value} {fuel : Nat} {x : DataW H × List MemPlace} (ht : P.underlying t = some (.slice e)) (hC : P.cellsOf e = 6) (hf : Flat enc P w e 6)
    (h : DataW.trod enc P w 0 (fun _ => true) true fuel t [c] = some x) : ∃ (s : Sl) (l : List Int), c = s.v ∧ l.length = s.n * 6 ∧ s.n ≤ s.c ∧ (s.A = none → s.c = 0) ∧ IRow w s.A l ∧ s.n ≤ 9223372036854775807 := by
  obtain ⟨A, len, cap, rfl, h1, h2, h3⟩ : ∃ A len cap, c = .slice A len cap ∧ len ≤ cap ∧ (A = none → cap = 0) ∧ len ≤ 9223372036854775807 := by
    rcases Go.Deep.open_slice ht h with ⟨hcs, _⟩ | ⟨a, l', c', m, n, D, Pl, hcs, _, hl, hm, _⟩
    · exact ⟨none, 0, 0, by simpa using hcs, Nat.le_refl _, fun _ => rfl, by omega⟩
    · exact ⟨some a, l', c', by simpa using hcs, hl, (fun e => by cases e), by unfold maxLen at hm; omega⟩
  obtain ⟨l, hl1, hl2, _⟩ := rows_row (d := x.1) (p := x.2) ht hC (by decide) hf ⟨fuel, h⟩
  exact ⟨⟨A, len, cap⟩, l, rfl, hl2, h1, h2, hl1, h3⟩
theorem nest_leaf {t e e2 : TypeId} {c : Value} {fuel : Nat} {x : DataW H × List MemPlace} (ht : P.underlying t = some (.slice e)) (hc1 : P.cellsOf e = 1) (he : P.underlying e = some (.slice e2)) (hC : P.cellsOf e2 = 6) (hf : Flat enc P w e2 6)
    (h : DataW.trod enc P w 0 (fun _ => true) true fuel t [c] = some x) : ∃ A n cap, ∃ G : List (List Int), c = .slice A n cap ∧ (NRow w A G ∧ G.length = n ∧ n ≤ cap ∧ (A = none → cap = 0) ∧ n ≤ 9223372036854775807 ∧ ∀ (i : Nat) (l : List Int), G[i]? = some l → l.length ≤ 55340232221128654842) := by
  rcases Go.Deep.open_slice ht h with ⟨hcs, _⟩ | ⟨a, l', c', m, n, D, Pl, hcs, _, hl, hm, hmm, _, hx⟩
  · exact ⟨none, 0, 0, [], by simpa using hcs, NRow.nil _ _, rfl, Nat.le_refl _, fun _ => rfl, by omega, fun i l hi => by simp at hi⟩
  · have hmc : m = c' := by simpa using hmm
    have each : ∀ i, i < l' → ∃ (s : Sl) (l : List Int), w.cell? (a.add i) = some s.v ∧ l.length = s.n * 6 ∧ s.n ≤ s.c ∧ (s.A = none → s.c = 0) ∧ IRow w s.A l ∧ s.n ≤ 9223372036854775807 := by
      intro i hi
      obtain ⟨cs', hc, htr⟩ := hx i (by omega)
      rw [hc1] at hc
      obtain ⟨_, hcl, hat⟩ := World.cells?_some hc
      obtain ⟨u, rfl⟩ : ∃ u, cs' = [u] := by
        match cs', hcl with
        | [u], _ => exact ⟨u, rfl⟩
      obtain ⟨s, l, hs, rest⟩ := slice_leaf he hC hf htr
      refine ⟨s, l, ?_, rest⟩
      have := hat 0 (by decide)
      rw [Go.Deep.add_add, Nat.mul_one, Nat.add_zero] at this
      rw [this, hs]
      rfl
    let f : Nat → List Int := fun i => if hi : i < l' then (each i hi).choose_spec.choose else []
    have hfi : ∀ i, (hi : i < l') → f i = (each i hi).choose_spec.choose := fun i hi => dif_pos hi
    have get : ∀ (i : Nat) (l : List Int), ((List.range l').map f)[i]? = some l → i < l' ∧ l = f i := fun i l hi => by
      rw [List.getElem?_map] at hi
      rcases Nat.lt_or_ge i l' with h' | h'
      · rw [List.getElem?_range h'] at hi
        exact ⟨h', by simpa using hi.symm⟩
      · rw [List.getElem?_eq_none (by simpa using h')] at hi
        cases hi
    refine ⟨some a, l', c', (List.range l').map f, by simpa using hcs, fun hp => ?_, by simp, hl, (fun e => by cases e), by unfold maxLen at hm; omega, fun i l hi => ?_⟩
    · simp only [List.length_map, List.length_range] at hp
      have h0 := (each 0 hp).choose_spec.choose_spec.1
      obtain ⟨b, off, spot⟩ := a
      have hspot : spot = none := by simpa [Addr.add] using World.cell?_spot h0
      subst hspot
      refine ⟨b, off, rfl, fun i l hi => ?_⟩
      obtain ⟨h', rfl⟩ := get i l hi
      have hs := (each i h').choose_spec.choose_spec
      rw [hfi i h']
      exact ⟨(each i h').choose, by rw [← add_plain]; exact hs.1, hs.2.1, hs.2.2.1, hs.2.2.2.1, hs.2.2.2.2.1⟩
    · obtain ⟨h', rfl⟩ := get i l hi
      have hs := (each i h').choose_spec.choose_spec
      rw [hfi i h']
      have h1 := hs.2.1
      have h2 := hs.2.2.2.2.2
      omega
end
theorem unfn {w : World} {A : Option Addr} : ∀ {G : List (List Int)}, (∀ l ∈ G, ∃ n, l.length = n * 6) → ∃ F : List (List Pk), F.map fl = G
  | [], _ => ⟨[], rfl⟩
  | l :: G, h => by
    obtain ⟨n, hn⟩ := h l (by simp)
    obtain ⟨L, _, hL⟩ := unfl n l hn
    obtain ⟨F, hF⟩ := unfn (w := w) (A := A) (G := G) fun m hm => h m (by simp [hm])
    exact ⟨L :: F, by simp [hL, hF]⟩
theorem NRow.unf {w : World} {A : Option Addr} {G : List (List Int)} (h : NRow w A G) : ∃ F : List (List Pk), F.map fl = G :=
  unfn (w := w) (A := A) fun l hl => by
    obtain ⟨i, hi⟩ := List.mem_iff_getElem?.1 hl
    obtain ⟨_, _, _, n, _, _, _, _, hn, _⟩ := h.at_ hi
    exact ⟨n, hn⟩
theorem gsum_mem {G : List (List Int)} {i : Nat} {l : List Int} (h : G[i]? = some l) : l.length ≤ gsum G := by
  have h1 := gat_succ h
  have h2 := gat_le G (i + 1)
  omega
end Go.Proofs.Ytgdldmeeaejjpaa
