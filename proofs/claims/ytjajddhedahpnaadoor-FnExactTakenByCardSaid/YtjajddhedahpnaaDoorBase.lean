/- Plain helpers for the proofs of this seat: endings, opening of arguments, rows of integers in memory. No program in sight, no condition. -/
import Derived.WalkKit
import Derived.ProofKit
import Derived.OpenShut
import Derived.ShutString
import Derived.ChangeOld
import Derived.Below
import Derived.Lib.Hide
import Derived.Deep.Slices
import Derived.Deep.Fields
import Derived.Deep.QuietTactic
import Derived.BigQuiet
import Derived.Deep.Draws
namespace Go.Proofs.YtjajddhedahpnaaDoor
open Go.ChangeShapes Go.WideShapes Go.ChangeAt Go.RowKit

theorem ret_b {x y : Bool} (h : x = y) : Ending.returned (.bool x) = .returned (.bool y) := by rw [h]
theorem ret_i {x y : Int} (h : x = y) : Ending.returned (.int .i64 x) = .returned (.int .i64 y) := by rw [h]
theorem ret_v {x y : Value} (h : x = y) : Ending.returned x = .returned y := by rw [h]
def IB (n : Int) : Prop := -9223372036854775808 ≤ n ∧ n ≤ 9223372036854775807
theorem ibounds {n : Int} (h : (Lit.int .i64 n).wf = true) : IB n := bounds_i64 h

theorem arr1 {α : Type} {cs : Array α} (h : cs.size = 1) : ∃ c0, cs = #[c0] := by
  obtain ⟨l⟩ := cs
  match l, h with
  | [c0], _ => exact ⟨c0, rfl⟩
theorem arr2 {α : Type} {cs : Array α} (h : cs.size = 2) : ∃ c0 c1, cs = #[c0, c1] := by
  obtain ⟨l⟩ := cs
  match l, h with
  | [c0, c1], _ => exact ⟨c0, c1, rfl⟩
theorem arr3 {α : Type} {cs : Array α} (h : cs.size = 3) : ∃ c0 c1 c2, cs = #[c0, c1, c2] := by
  obtain ⟨l⟩ := cs
  match l, h with
  | [c0, c1, c2], _ => exact ⟨c0, c1, c2, rfl⟩
theorem arr4 {α : Type} {cs : Array α} (h : cs.size = 4) : ∃ c0 c1 c2 c3, cs = #[c0, c1, c2, c3] := by
  obtain ⟨l⟩ := cs
  match l, h with
  | [c0, c1, c2, c3], _ => exact ⟨c0, c1, c2, c3, rfl⟩
theorem arr5 {α : Type} {cs : Array α} (h : cs.size = 5) : ∃ c0 c1 c2 c3 c4, cs = #[c0, c1, c2, c3, c4] := by
  obtain ⟨l⟩ := cs
  match l, h with
  | [c0, c1, c2, c3, c4], _ => exact ⟨c0, c1, c2, c3, c4, rfl⟩
theorem arr6 {α : Type} {cs : Array α} (h : cs.size = 6) : ∃ c0 c1 c2 c3 c4 c5, cs = #[c0, c1, c2, c3, c4, c5] := by
  obtain ⟨l⟩ := cs
  match l, h with
  | [c0, c1, c2, c3, c4, c5], _ => exact ⟨c0, c1, c2, c3, c4, c5, rfl⟩

section
variable {H : Type} {enc : TypeId × Value → H} {P : Program} {w : World} {base : Nat} {spare : Nat → Bool} {held : Bool}

/-- A one-cell field of a struct that reads: the cell, and the field's own reading. -/
theorem leaf {t : TypeId} {fs : Array Field} {fuel : Nat} {cs : List Value} {x : DataW H × List MemPlace} (hs : P.underlying t = some (.struct fs)) (hf : DataW.trod enc P w base spare held fuel t cs = some x)
    (i : Nat) (f : Field) (hfi : fs[i]? = some f) (hc : P.cellsOf f.type = 1) {c : Value} (hcs : cs[f.offset]? = some c) : ∃ m y, DataW.trod enc P w base spare held m f.type [c] = some y := by
  obtain ⟨xs, n, _, rfl, hl, hlen, hg⟩ := DataW.trod_struct hs hf
  have h1 := hg i f hfi
  have hi : i < xs.length := by rw [hlen]; exact (Array.getElem?_eq_some_iff.1 hfi).1
  rw [hc, List.getElem?_eq_getElem hi] at h1
  obtain ⟨ho, hcc⟩ := List.getElem?_eq_some_iff.1 hcs
  rw [List.drop_eq_getElem_cons ho, hcc] at h1
  exact ⟨n, _, h1⟩
theorem leaf_int {t : TypeId} {fs : Array Field} {k : IntKind} {fuel : Nat} {cs : List Value} {x : DataW H × List MemPlace} (hs : P.underlying t = some (.struct fs)) (hf : DataW.trod enc P w base spare held fuel t cs = some x)
    (i : Nat) (f : Field) (hfi : fs[i]? = some f) (hk : P.underlying f.type = some (.int k)) (hc : P.cellsOf f.type = 1) {c : Value} (hcs : cs[f.offset]? = some c) : ∃ n, c = .int k n ∧ (Lit.int k n).wf = true := by
  obtain ⟨m, y, h⟩ := leaf hs hf i f hfi hc hcs
  obtain ⟨n, e, _, hw⟩ := DataW.trod_int hk h
  exact ⟨n, by simpa using e, hw⟩
theorem leaf_bool {t : TypeId} {fs : Array Field} {fuel : Nat} {cs : List Value} {x : DataW H × List MemPlace} (hs : P.underlying t = some (.struct fs)) (hf : DataW.trod enc P w base spare held fuel t cs = some x)
    (i : Nat) (f : Field) (hfi : fs[i]? = some f) (hk : P.underlying f.type = some .bool) (hc : P.cellsOf f.type = 1) {c : Value} (hcs : cs[f.offset]? = some c) : ∃ n, c = .bool n := by
  obtain ⟨m, y, h⟩ := leaf hs hf i f hfi hc hcs
  obtain ⟨n, e, _⟩ := DataW.trod_bool hk h
  exact ⟨n, by simpa using e⟩
end

/-! ### Old memory is left as it was -/
theorem b0 (w : World) : Below w.heap.size w w := Below.refl _ _
theorem ba {w W : World} (h : Below w.heap.size w W) (o : Obj) : Below w.heap.size w (W.alloc o) := h.alloc h.size o
theorem bt {w W w1 : World} (h : Below w.heap.size w W) (hb : Below W.heap.size W w1) : Below w.heap.size w w1 := h.trans (hb.mono h.size)
theorem bd {w W : World} (h : Below w.heap.size w W) (n : Nat) : Below w.heap.size w (W.drewN n) := ⟨h.os, h.tape, h.output, h.size, h.block⟩
theorem bs {w W : World} (h : Below w.heap.size w W) {p : Addr} (hp : w.heap.size ≤ p.block) (u : Value) : Below w.heap.size w (W.setCell p u) := h.setCell hp u
theorem bkeep {W w1 : World} (hb : Below W.heap.size W w1) : ∀ b o, b < W.heap.size → w1.cell? ⟨b, o, none⟩ = W.cell? ⟨b, o, none⟩ := fun b o h => hb.cell (p := ⟨b, o, none⟩) h
theorem bfree {W w1 : World} (hb : Below W.heap.size W w1) : ∀ b o, b < W.heap.size → w1.frozen? ⟨b, o, none⟩ = W.frozen? ⟨b, o, none⟩ := fun b o h => hb.frozen (p := ⟨b, o, none⟩) h
theorem blt {W w1 : World} (hb : Below W.heap.size W w1) {k : Nat} (h : k < W.heap.size) : k < w1.heap.size := Nat.lt_of_lt_of_le h hb.size
theorem blk_lt {w W w1 : World} {o : Obj} (_ : W = w.alloc o) (hb : Below (w.alloc o).heap.size (w.alloc o) w1) : w.heap.size < w1.heap.size := by
  have := hb.size
  simp at this
  omega
end Go.Proofs.YtjajddhedahpnaaDoor
