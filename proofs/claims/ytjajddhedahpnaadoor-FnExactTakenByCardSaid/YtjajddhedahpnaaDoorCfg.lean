/- Records of ints and rows of them in memory. No program in sight, no condition. (Printed by recgen.py.) -/
import Derived.Test.YtjajddhedahpnaaDoorPk
namespace Go.Proofs.YtjajddhedahpnaaDoor
open Go.ChangeShapes Go.WideShapes Go.ChangeAt Go.RowKit
set_option linter.unusedVariables false
/-! ### Cl -/
structure Cl where
  id : Int
  pa : Int
  ra : Int
  ce : Int
  bu : Int
  cb : Int
  pr : Int
  li : Int
instance : Inhabited Cl := ⟨⟨0, 0, 0, 0, 0, 0, 0, 0⟩⟩
def Cl.c (p : Cl) : List Int := [p.id, p.pa, p.ra, p.ce, p.bu, p.cb, p.pr, p.li]
def flc (L : List Cl) : List Int := L.flatMap Cl.c
theorem flc_cons (p : Cl) (L : List Cl) : flc (p :: L) = p.id :: p.pa :: p.ra :: p.ce :: p.bu :: p.cb :: p.pr :: p.li :: flc L := by simp [flc, Cl.c]
theorem flc_len (L : List Cl) : (flc L).length = L.length * 8 := by
  induction L with
  | nil => rfl
  | cons p L ih => rw [flc_cons]; simp [ih]; omega
theorem flc_drop (L : List Cl) (k : Nat) : (flc L).drop (k * 8) = flc (L.drop k) := by
  induction k generalizing L with
  | zero => simp
  | succ k ih =>
    cases L with
    | nil => simp [flc]
    | cons p L =>
      rw [flc_cons, show (k + 1) * 8 = k * 8 + 1 + 1 + 1 + 1 + 1 + 1 + 1 + 1 by omega]
      simp only [List.drop_succ_cons]
      exact ih L
def cat (L : List Cl) (k : Nat) : Cl := L[k]?.getD default
theorem cat_of {L : List Cl} {k : Nat} {p : Cl} (h : L[k]? = some p) : cat L k = p := by simp [cat, h]
theorem cat_get {L : List Cl} {k : Nat} (h : k < L.length) : L[k]? = some (cat L k) := by simp [cat, h]
theorem flc_get {L : List Cl} {k : Nat} (hk : k < L.length) : (flc L)[k * 8]? = some (cat L k).id ∧ (flc L)[k * 8 + 1]? = some (cat L k).pa ∧ (flc L)[k * 8 + 2]? = some (cat L k).ra ∧ (flc L)[k * 8 + 3]? = some (cat L k).ce ∧ (flc L)[k * 8 + 4]? = some (cat L k).bu ∧ (flc L)[k * 8 + 5]? = some (cat L k).cb ∧ (flc L)[k * 8 + 6]? = some (cat L k).pr ∧ (flc L)[k * 8 + 7]? = some (cat L k).li := by
  have e : ∀ j, (flc L)[k * 8 + j]? = ((flc L).drop (k * 8))[j]? := fun j => by rw [List.getElem?_drop]
  have hd : L.drop k = cat L k :: L.drop (k + 1) := by rw [List.drop_eq_getElem_cons hk, cat, List.getElem?_eq_getElem hk]; rfl
  refine ⟨(e 0).trans ?_, (e 1).trans ?_, (e 2).trans ?_, (e 3).trans ?_, (e 4).trans ?_, (e 5).trans ?_, (e 6).trans ?_, (e 7).trans ?_⟩ <;> rw [flc_drop, hd, flc_cons] <;> rfl
theorem unflc (n : Nat) (l : List Int) (h : l.length = n * 8) : ∃ L : List Cl, L.length = n ∧ flc L = l := by
  induction n generalizing l with
  | zero => exact ⟨[], rfl, by simp at h; simp [h, flc]⟩
  | succ n ih =>
    match l, h with
    | a :: b :: c :: d :: e :: f :: y :: z :: l, h =>
      obtain ⟨L, h1, h2⟩ := ih l (by simp at h; omega)
      exact ⟨⟨a, b, c, d, e, f, y, z⟩ :: L, by simp [h1], by rw [flc_cons, h2]⟩
    | [], h => simp at h
    | [_], h => simp at h; omega
    | [_, _], h => simp at h; omega
    | [_, _, _], h => simp at h; omega
    | [_, _, _, _], h => simp at h; omega
    | [_, _, _, _, _], h => simp at h; omega
    | [_, _, _, _, _, _], h => simp at h; omega
    | [_, _, _, _, _, _, _], h => simp at h; omega
/-- The cells of element k. -/
def ClAt (w : World) (g off k : Nat) (p : Cl) : Prop := w.cell? ⟨g, off + k * 8, none⟩ = some (.int .i64 p.id) ∧ w.cell? ⟨g, off + k * 8 + 1, none⟩ = some (.int .i64 p.pa) ∧ w.cell? ⟨g, off + k * 8 + 2, none⟩ = some (.int .i64 p.ra) ∧ w.cell? ⟨g, off + k * 8 + 3, none⟩ = some (.int .i64 p.ce) ∧ w.cell? ⟨g, off + k * 8 + 4, none⟩ = some (.int .i64 p.bu) ∧ w.cell? ⟨g, off + k * 8 + 5, none⟩ = some (.int .i64 p.cb) ∧ w.cell? ⟨g, off + k * 8 + 6, none⟩ = some (.int .i64 p.pr) ∧ w.cell? ⟨g, off + k * 8 + 7, none⟩ = some (.int .i64 p.li)
/-- A row that has an element: where it lies, and all its cells. -/
theorem crow {w : World} {A : Option Addr} {L : List Cl} (h : IRow w A (flc L)) {k : Nat} (hk : k < L.length) : ∃ g off, A = some ⟨g, off, none⟩ ∧ g < w.heap.size ∧ ∀ j, j < L.length → ClAt w g off j (cat L j) := by
  have hl := flc_len L
  obtain ⟨g, off, rfl, hg, hc⟩ := h.at_ (k := k * 8) (by omega)
  refine ⟨g, off, rfl, hg, fun j hj => ?_⟩
  obtain ⟨g0, g1, g2, g3, g4, g5, g6, g7⟩ := flc_get hj
  refine ⟨?_, ?_, ?_, ?_, ?_, ?_, ?_, ?_⟩
  · have := hc (j * 8) (by omega); rw [g0] at this; exact this
  · have := hc (j * 8 + 1) (by omega); rw [g1] at this; exact this
  · have := hc (j * 8 + 2) (by omega); rw [g2] at this; exact this
  · have := hc (j * 8 + 3) (by omega); rw [g3] at this; exact this
  · have := hc (j * 8 + 4) (by omega); rw [g4] at this; exact this
  · have := hc (j * 8 + 5) (by omega); rw [g5] at this; exact this
  · have := hc (j * 8 + 6) (by omega); rw [g6] at this; exact this
  · have := hc (j * 8 + 7) (by omega); rw [g7] at this; exact this
theorem ClAt.below {w w' : World} {g off k : Nat} {p : Cl} (h : ClAt w g off k p) (hb : Below w.heap.size w w') (hg : g < w.heap.size) : ClAt w' g off k p := by
  obtain ⟨h0, h1, h2, h3, h4, h5, h6, h7⟩ := h
  exact ⟨(bkeep hb _ _ hg).trans h0, (bkeep hb _ _ hg).trans h1, (bkeep hb _ _ hg).trans h2, (bkeep hb _ _ hg).trans h3, (bkeep hb _ _ hg).trans h4, (bkeep hb _ _ hg).trans h5, (bkeep hb _ _ hg).trans h6, (bkeep hb _ _ hg).trans h7⟩
/-! ### Fi -/
structure Fi where
  pr : Int
  fi : Int
  ma : Int
  va : Int
  ta : Int
instance : Inhabited Fi := ⟨⟨0, 0, 0, 0, 0⟩⟩
def Fi.c (p : Fi) : List Int := [p.pr, p.fi, p.ma, p.va, p.ta]
def flf (L : List Fi) : List Int := L.flatMap Fi.c
theorem flf_cons (p : Fi) (L : List Fi) : flf (p :: L) = p.pr :: p.fi :: p.ma :: p.va :: p.ta :: flf L := by simp [flf, Fi.c]
theorem flf_len (L : List Fi) : (flf L).length = L.length * 5 := by
  induction L with
  | nil => rfl
  | cons p L ih => rw [flf_cons]; simp [ih]; omega
theorem flf_drop (L : List Fi) (k : Nat) : (flf L).drop (k * 5) = flf (L.drop k) := by
  induction k generalizing L with
  | zero => simp
  | succ k ih =>
    cases L with
    | nil => simp [flf]
    | cons p L =>
      rw [flf_cons, show (k + 1) * 5 = k * 5 + 1 + 1 + 1 + 1 + 1 by omega]
      simp only [List.drop_succ_cons]
      exact ih L
def fat (L : List Fi) (k : Nat) : Fi := L[k]?.getD default
theorem fat_of {L : List Fi} {k : Nat} {p : Fi} (h : L[k]? = some p) : fat L k = p := by simp [fat, h]
theorem fat_get {L : List Fi} {k : Nat} (h : k < L.length) : L[k]? = some (fat L k) := by simp [fat, h]
theorem flf_get {L : List Fi} {k : Nat} (hk : k < L.length) : (flf L)[k * 5]? = some (fat L k).pr ∧ (flf L)[k * 5 + 1]? = some (fat L k).fi ∧ (flf L)[k * 5 + 2]? = some (fat L k).ma ∧ (flf L)[k * 5 + 3]? = some (fat L k).va ∧ (flf L)[k * 5 + 4]? = some (fat L k).ta := by
  have e : ∀ j, (flf L)[k * 5 + j]? = ((flf L).drop (k * 5))[j]? := fun j => by rw [List.getElem?_drop]
  have hd : L.drop k = fat L k :: L.drop (k + 1) := by rw [List.drop_eq_getElem_cons hk, fat, List.getElem?_eq_getElem hk]; rfl
  refine ⟨(e 0).trans ?_, (e 1).trans ?_, (e 2).trans ?_, (e 3).trans ?_, (e 4).trans ?_⟩ <;> rw [flf_drop, hd, flf_cons] <;> rfl
theorem unflf (n : Nat) (l : List Int) (h : l.length = n * 5) : ∃ L : List Fi, L.length = n ∧ flf L = l := by
  induction n generalizing l with
  | zero => exact ⟨[], rfl, by simp at h; simp [h, flf]⟩
  | succ n ih =>
    match l, h with
    | a :: b :: c :: d :: e :: l, h =>
      obtain ⟨L, h1, h2⟩ := ih l (by simp at h; omega)
      exact ⟨⟨a, b, c, d, e⟩ :: L, by simp [h1], by rw [flf_cons, h2]⟩
    | [], h => simp at h
    | [_], h => simp at h; omega
    | [_, _], h => simp at h; omega
    | [_, _, _], h => simp at h; omega
    | [_, _, _, _], h => simp at h; omega
/-- The cells of element k. -/
def FiAt (w : World) (g off k : Nat) (p : Fi) : Prop := w.cell? ⟨g, off + k * 5, none⟩ = some (.int .i64 p.pr) ∧ w.cell? ⟨g, off + k * 5 + 1, none⟩ = some (.int .i64 p.fi) ∧ w.cell? ⟨g, off + k * 5 + 2, none⟩ = some (.int .i64 p.ma) ∧ w.cell? ⟨g, off + k * 5 + 3, none⟩ = some (.int .i64 p.va) ∧ w.cell? ⟨g, off + k * 5 + 4, none⟩ = some (.int .i64 p.ta)
/-- A row that has an element: where it lies, and all its cells. -/
theorem frow {w : World} {A : Option Addr} {L : List Fi} (h : IRow w A (flf L)) {k : Nat} (hk : k < L.length) : ∃ g off, A = some ⟨g, off, none⟩ ∧ g < w.heap.size ∧ ∀ j, j < L.length → FiAt w g off j (fat L j) := by
  have hl := flf_len L
  obtain ⟨g, off, rfl, hg, hc⟩ := h.at_ (k := k * 5) (by omega)
  refine ⟨g, off, rfl, hg, fun j hj => ?_⟩
  obtain ⟨g0, g1, g2, g3, g4⟩ := flf_get hj
  refine ⟨?_, ?_, ?_, ?_, ?_⟩
  · have := hc (j * 5) (by omega); rw [g0] at this; exact this
  · have := hc (j * 5 + 1) (by omega); rw [g1] at this; exact this
  · have := hc (j * 5 + 2) (by omega); rw [g2] at this; exact this
  · have := hc (j * 5 + 3) (by omega); rw [g3] at this; exact this
  · have := hc (j * 5 + 4) (by omega); rw [g4] at this; exact this
theorem FiAt.below {w w' : World} {g off k : Nat} {p : Fi} (h : FiAt w g off k p) (hb : Below w.heap.size w w') (hg : g < w.heap.size) : FiAt w' g off k p := by
  obtain ⟨h0, h1, h2, h3, h4⟩ := h
  exact ⟨(bkeep hb _ _ hg).trans h0, (bkeep hb _ _ hg).trans h1, (bkeep hb _ _ hg).trans h2, (bkeep hb _ _ hg).trans h3, (bkeep hb _ _ hg).trans h4⟩
end Go.Proofs.YtjajddhedahpnaaDoor
