/- Packets as records, rows of packets in memory, and loops that look at every index. No program in sight, no condition. -/
import Derived.Test.YtjajddhedahpnaaDoorGrow
namespace Go.Proofs.YtjajddhedahpnaaDoor
open Go.ChangeShapes Go.WideShapes Go.ChangeAt Go.RowKit
/-! ### Every index; the first index -/
def allB (n : Nat) (g : Nat → Bool) : Bool := (List.range n).all g
theorem allB_no {n k : Nat} {g : Nat → Bool} (hk : k < n) (h : g k = false) : allB n g = false := by
  unfold allB
  rw [List.all_eq_false]
  exact ⟨k, List.mem_range.2 hk, by simp [h]⟩
theorem allB_yes {n : Nat} {g : Nat → Bool} (h : ∀ i, i < n → g i = true) : allB n g = true := by
  unfold allB
  rw [List.all_eq_true]
  exact fun i hi => h i (List.mem_range.1 hi)
theorem allB_iff {n : Nat} {g : Nat → Bool} : allB n g = true ↔ ∀ i, i < n → g i = true := by
  unfold allB
  rw [List.all_eq_true]
  exact ⟨fun h i hi => h i (List.mem_range.2 hi), fun h i hi => h i (List.mem_range.1 hi)⟩
theorem all_zero {g : Nat → Bool} : ∀ i, i < 0 → g i = true := fun i hi => by omega
theorem all_succ {k : Nat} {g : Nat → Bool} (h : ∀ i, i < k → g i = true) (h1 : g k = true) : ∀ i, i < k + 1 → g i = true := fun i hi => by
  rcases Nat.lt_succ_iff_lt_or_eq.1 hi with h' | rfl
  · exact h i h'
  · exact h1
theorem allB_succ (n : Nat) (g : Nat → Bool) : allB (n + 1) g = (allB n g && g n) := by
  unfold allB
  rw [List.range_succ, List.all_append]
  simp
theorem allB_congr {n : Nat} {g h : Nat → Bool} (e : ∀ i, i < n → g i = h i) : allB n g = allB n h := by
  rw [Bool.eq_iff_iff, allB_iff, allB_iff]
  exact ⟨fun a i hi => by rw [← e i hi]; exact a i hi, fun a i hi => by rw [e i hi]; exact a i hi⟩
/-- The first index at which g holds, or -1. -/
def fstI (n : Nat) (g : Nat → Bool) : Int := match (List.range n).find? g with | some i => i | none => -1
theorem none_zero {g : Nat → Bool} : ∀ i, i < 0 → g i = false := fun i hi => by omega
theorem none_succ {k : Nat} {g : Nat → Bool} (h : ∀ i, i < k → g i = false) (h1 : g k = false) : ∀ i, i < k + 1 → g i = false := fun i hi => by
  rcases Nat.lt_succ_iff_lt_or_eq.1 hi with h' | rfl
  · exact h i h'
  · exact h1
theorem fstI_hit {n k : Nat} {g : Nat → Bool} (hk : k < n) (h : ∀ i, i < k → g i = false) (h1 : g k = true) : fstI n g = k := by
  have e : (List.range n).find? g = some k := by
    rw [List.find?_range_eq_some]
    exact ⟨h1, List.mem_range.2 hk, fun j hj => by simp [h j hj]⟩
  unfold fstI
  rw [e]
theorem fstI_none {n : Nat} {g : Nat → Bool} (h : ∀ i, i < n → g i = false) : fstI n g = -1 := by
  have e : (List.range n).find? g = none := by
    rw [List.find?_range_eq_none]
    exact fun i hi => by simp [h i hi]
  unfold fstI
  rw [e]
theorem fstI_cases (n : Nat) (g : Nat → Bool) : (∃ k, k < n ∧ g k = true ∧ (∀ i, i < k → g i = false) ∧ fstI n g = k) ∨ ((∀ i, i < n → g i = false) ∧ fstI n g = -1) := by
  induction n with
  | zero => exact .inr ⟨fun i hi => by omega, fstI_none fun i hi => by omega⟩
  | succ n ih =>
    rcases ih with ⟨k, hk, h1, h2, _⟩ | ⟨h1, _⟩
    · exact .inl ⟨k, by omega, h1, h2, fstI_hit (by omega) h2 h1⟩
    · rcases hg : g n with _ | _
      · have := none_succ h1 hg
        exact .inr ⟨this, fstI_none this⟩
      · exact .inl ⟨n, by omega, hg, h1, fstI_hit (by omega) h1 hg⟩

/-! ### Packets -/
structure Pk where
  id : Int
  so : Int
  de : Int
  po : Int
  ma : Int
  si : Int
instance : Inhabited Pk := ⟨⟨0, 0, 0, 0, 0, 0⟩⟩
def Pk.c (p : Pk) : List Int := [p.id, p.so, p.de, p.po, p.ma, p.si]
/-- The cells of packets, one behind the other. -/
def fl (L : List Pk) : List Int := L.flatMap Pk.c
theorem fl_nil : fl [] = [] := rfl
theorem fl_cons (p : Pk) (L : List Pk) : fl (p :: L) = p.id :: p.so :: p.de :: p.po :: p.ma :: p.si :: fl L := by simp [fl, Pk.c]
theorem fl_append (L M : List Pk) : fl (L ++ M) = fl L ++ fl M := by simp [fl]
theorem fl_snoc (L : List Pk) (p : Pk) : fl (L ++ [p]) = fl L ++ [p.id, p.so, p.de, p.po, p.ma, p.si] := by simp [fl, Pk.c]
theorem fl_len (L : List Pk) : (fl L).length = L.length * 6 := by
  induction L with
  | nil => rfl
  | cons p L ih => rw [fl_cons]; simp [ih]; omega
theorem fl_drop (L : List Pk) (k : Nat) : (fl L).drop (k * 6) = fl (L.drop k) := by
  induction k generalizing L with
  | zero => simp
  | succ k ih =>
    cases L with
    | nil => simp [fl_nil]
    | cons p L =>
      rw [fl_cons, show (k + 1) * 6 = k * 6 + 1 + 1 + 1 + 1 + 1 + 1 by omega]
      simp only [List.drop_succ_cons]
      exact ih L
theorem fl_take (L : List Pk) (k : Nat) : (fl L).take (k * 6) = fl (L.take k) := by
  induction k generalizing L with
  | zero => simp [fl_nil]
  | succ k ih =>
    cases L with
    | nil => simp [fl_nil]
    | cons p L =>
      rw [fl_cons, show (k + 1) * 6 = k * 6 + 1 + 1 + 1 + 1 + 1 + 1 by omega]
      simp only [List.take_succ_cons]
      rw [fl_cons, ih L]
theorem fl_get {L : List Pk} {k : Nat} {p : Pk} (h : L[k]? = some p) : (fl L)[k * 6]? = some p.id ∧ (fl L)[k * 6 + 1]? = some p.so ∧ (fl L)[k * 6 + 2]? = some p.de ∧ (fl L)[k * 6 + 3]? = some p.po ∧ (fl L)[k * 6 + 4]? = some p.ma ∧ (fl L)[k * 6 + 5]? = some p.si := by
  have e : ∀ j, (fl L)[k * 6 + j]? = ((fl L).drop (k * 6))[j]? := fun j => by rw [List.getElem?_drop]
  obtain ⟨hk, hp⟩ := List.getElem?_eq_some_iff.1 h
  have hd : L.drop k = p :: L.drop (k + 1) := by rw [List.drop_eq_getElem_cons hk, hp]
  refine ⟨(e 0).trans ?_, (e 1).trans ?_, (e 2).trans ?_, (e 3).trans ?_, (e 4).trans ?_, (e 5).trans ?_⟩ <;> rw [fl_drop, hd, fl_cons] <;> rfl
/-- A row of n packets' cells is a list of n packets. -/
theorem unfl (n : Nat) (l : List Int) (h : l.length = n * 6) : ∃ L : List Pk, L.length = n ∧ fl L = l := by
  induction n generalizing l with
  | zero => exact ⟨[], rfl, by simp at h; simp [h, fl]⟩
  | succ n ih =>
    match l, h with
    | a :: b :: c :: d :: e :: f :: l, h =>
      obtain ⟨L, h1, h2⟩ := ih l (by simp at h; omega)
      exact ⟨⟨a, b, c, d, e, f⟩ :: L, by simp [h1], by rw [fl_cons, h2]⟩
    | [], h => simp at h
    | [_], h => simp at h; omega
    | [_, _], h => simp at h; omega
    | [_, _, _], h => simp at h; omega
    | [_, _, _, _], h => simp at h; omega
    | [_, _, _, _, _], h => simp at h; omega
/-- The packet at index k of a row that reads. -/
theorem pk_at {w : World} {A : Option Addr} {L : List Pk} (h : IRow w A (fl L)) {k : Nat} (hk : k < L.length) :
    ∃ g off p, A = some ⟨g, off, none⟩ ∧ g < w.heap.size ∧ L[k]? = some p ∧ w.cell? ⟨g, off + k * 6, none⟩ = some (.int .i64 p.id) ∧ w.cell? ⟨g, off + k * 6 + 1, none⟩ = some (.int .i64 p.so) ∧ w.cell? ⟨g, off + k * 6 + 2, none⟩ = some (.int .i64 p.de) ∧ w.cell? ⟨g, off + k * 6 + 3, none⟩ = some (.int .i64 p.po) ∧ w.cell? ⟨g, off + k * 6 + 4, none⟩ = some (.int .i64 p.ma) ∧ w.cell? ⟨g, off + k * 6 + 5, none⟩ = some (.int .i64 p.si) := by
  have hl := fl_len L
  obtain ⟨g, off, rfl, hg, hc⟩ := h.at_ (k := k * 6) (by omega)
  obtain ⟨g0, g1, g2, g3, g4, g5⟩ := fl_get (List.getElem?_eq_getElem hk)
  refine ⟨g, off, L[k], rfl, hg, List.getElem?_eq_getElem hk, ?_, ?_, ?_, ?_, ?_, ?_⟩
  · have := hc (k * 6) (by omega); rw [g0] at this; exact this
  · have := hc (k * 6 + 1) (by omega); rw [g1] at this; exact this
  · have := hc (k * 6 + 2) (by omega); rw [g2] at this; exact this
  · have := hc (k * 6 + 3) (by omega); rw [g3] at this; exact this
  · have := hc (k * 6 + 4) (by omega); rw [g4] at this; exact this
  · have := hc (k * 6 + 5) (by omega); rw [g5] at this; exact this
/-! ### Sums -/
def szs (L : List Pk) (k : Nat) : Int := ((L.take k).map Pk.si).sum
theorem szs_zero (L : List Pk) : szs L 0 = 0 := by simp [szs]
theorem szs_succ {L : List Pk} {k : Nat} {p : Pk} (h : L[k]? = some p) : szs L (k + 1) = szs L k + p.si := by
  obtain ⟨hk, hp⟩ := List.getElem?_eq_some_iff.1 h
  simp [szs, List.take_succ_eq_append_getElem hk, hp]
end Go.Proofs.YtjajddhedahpnaaDoor
