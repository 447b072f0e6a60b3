/- Opening of slices of structs of ints that came in. No program in sight, no condition. -/
import Derived.Test.YtjajddhedahpnaaDoorRow
namespace Go.Proofs.YtjajddhedahpnaaDoor
open Go.ChangeShapes Go.WideShapes Go.ChangeAt Go.RowKit
section
variable {H : Type} {enc : TypeId × Value → H} {P : Program} {w : World}
/-- What reads at type e are s cells, each an int. -/
def Flat (enc : TypeId × Value → H) (P : Program) (w : World) (e : TypeId) (s : Nat) : Prop :=
  ∀ (fuel : Nat) (cs : List Value) (x : DataW H × List MemPlace), DataW.trod enc P w 0 (fun _ => true) true fuel e cs = some x → ∀ j, j < s → ∃ n : Int, cs[j]? = some (.int .i64 n) ∧ (Lit.int .i64 n).wf = true
def intAt (w : World) (a : Addr) (x : Nat) : Int := match w.cell? (a.add x) with | some (.int _ n) => n | _ => 0
theorem rows_row {t e : TypeId} {s : Nat} {A : Option Addr} {len cap : Nat} {d : DataW H} {p : List MemPlace} (ht : P.underlying t = some (.slice e)) (hC : P.cellsOf e = s) (hs : 0 < s) (hf : Flat enc P w e s)
    (h : DataW.Trod enc P w 0 (fun _ => true) true t (.slice A len cap) d p) : ∃ l : List Int, IRow w A l ∧ l.length = len * s ∧ len ≤ 9223372036854775807 ∧ IBs l := by
  obtain ⟨fuel, hfu⟩ := h
  rcases Go.Deep.open_slice ht hfu with ⟨hcs, _⟩ | ⟨a, l', c', m, n, D, Pl, hcs, _, hl, hm, hmm, _, hx⟩
  · simp [Value.cells] at hcs
    obtain ⟨rfl, rfl, rfl⟩ := hcs
    exact ⟨[], IRow.nil _ _, by simp, by omega, fun i => by simp⟩
  · simp [Value.cells] at hcs
    obtain ⟨rfl, rfl, rfl⟩ := hcs
    have hmc : m = cap := by simpa using hmm
    have each : ∀ x, x < len * s → ∃ n : Int, w.cell? (a.add x) = some (.int .i64 n) ∧ (Lit.int .i64 n).wf = true := by
      intro x hxl
      have hi : x / s < len := (Nat.div_lt_iff_lt_mul hs).2 hxl
      obtain ⟨cs', hc, htr⟩ := hx (x / s) (by omega)
      rw [hC] at hc
      obtain ⟨_, hcl, hat⟩ := World.cells?_some hc
      obtain ⟨v, hv, hw⟩ := hf n cs' _ htr (x % s) (Nat.mod_lt _ hs)
      have := hat (x % s) (Nat.mod_lt _ hs)
      rw [Go.Deep.add_add, Nat.mul_comm, Nat.div_add_mod, hv] at this
      exact ⟨v, this, hw⟩
    have val : ∀ x, x < len * s → w.cell? (a.add x) = some (.int .i64 (intAt w a x)) ∧ (Lit.int .i64 (intAt w a x)).wf = true := by
      intro x hxl
      obtain ⟨v, h1, h2⟩ := each x hxl
      have : intAt w a x = v := by unfold intAt; rw [h1]
      rw [this]
      exact ⟨h1, h2⟩
    have get : ∀ i, i < len * s → ((List.range (len * s)).map (intAt w a))[i]?.getD 0 = intAt w a i := fun i hi => by
      simp [List.getElem?_map, List.getElem?_range hi]
    refine ⟨(List.range (len * s)).map (intAt w a), fun hp => ?_, by simp, by unfold maxLen at hm; omega, fun i => ?_⟩
    · simp only [List.length_map, List.length_range] at hp
      obtain ⟨b, off, spot⟩ := a
      have h0 := (val 0 hp).1
      have hspot : spot = none := by simpa [Addr.add] using World.cell?_spot h0
      subst hspot
      refine ⟨b, off, rfl, fun i hi => ?_⟩
      simp only [List.length_map, List.length_range] at hi
      rw [get i hi, ← add_plain]
      exact (val i hi).1
    · by_cases hi : i < len * s
      · rw [get i hi]
        exact bounds_i64 (val i hi).2
      · rw [List.getElem?_eq_none (by simp; omega)]
        simp
/-- .. the same of a slice that is a field of a struct. -/
theorem rows_leaf {t e : TypeId} {s : Nat} {c : Value} {fuel : Nat} {x : DataW H × List MemPlace} (ht : P.underlying t = some (.slice e)) (hC : P.cellsOf e = s) (hs : 0 < s) (hf : Flat enc P w e s)
    (h : DataW.trod enc P w 0 (fun _ => true) true fuel t [c] = some x) : ∃ A len cap, ∃ l : List Int, c = .slice A len cap ∧ (IRow w A l ∧ l.length = len * s ∧ len ≤ 9223372036854775807 ∧ IBs l) := by
  obtain ⟨A, len, cap, rfl⟩ : ∃ A len cap, c = .slice A len cap := by
    rcases Go.Deep.open_slice ht h with ⟨hcs, _⟩ | ⟨a, l', c', m, n, D, Pl, hcs, _⟩
    · exact ⟨none, 0, 0, by simpa using hcs⟩
    · exact ⟨some a, l', c', by simpa using hcs⟩
  obtain ⟨l, hl⟩ := rows_row (d := x.1) (p := x.2) ht hC hs hf ⟨fuel, h⟩
  exact ⟨A, len, cap, l, rfl, hl⟩
end
end Go.Proofs.YtjajddhedahpnaaDoor
