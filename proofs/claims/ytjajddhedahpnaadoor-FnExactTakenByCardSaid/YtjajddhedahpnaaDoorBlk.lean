/- Blocks of the call's own that are known whole: what they hold, what stays. No program in sight, no condition. -/
import Derived.Test.YtjajddhedahpnaaDoorGrow
namespace Go.Proofs.YtjajddhedahpnaaDoor
open Go.ChangeShapes Go.WideShapes Go.ChangeAt Go.RowKit
/-- Block g is just these cells, and may be written. -/
def Bk (w : World) (g : Nat) (t : TypeId) (cs : Array Value) : Prop := w.heap[g]? = some (.cells cs t (0, 0))
section
variable {w w' : World} {g : Nat} {t : TypeId} {cs : Array Value}
theorem Bk.lt (h : Bk w g t cs) : g < w.heap.size := (Array.getElem?_eq_some_iff.1 h).1
theorem Bk.cell (h : Bk w g t cs) (i : Nat) : w.cell? ⟨g, i, none⟩ = cs[i]? := cell_of_row w g i cs t (0, 0) h
theorem Bk.free (h : Bk w g t cs) (i : Nat) : w.frozen? ⟨g, i, none⟩ = false := by
  unfold Bk at h
  simp [World.frozen?, h]
theorem Bk.new (w : World) (t : TypeId) (cs : Array Value) : Bk (w.alloc (.cells cs t)) w.heap.size t cs := heap_alloc_new w _
theorem Bk.new_ {w : World} {t : TypeId} {cs : Array Value} {g : Nat} (h : w.heap.size = g) : Bk (w.alloc (.cells cs t)) g t cs := h ▸ heap_alloc_new w _
theorem Bk.alloc (h : Bk w g t cs) (o : Obj) : Bk (w.alloc o) g t cs := (Below.heap_alloc w o g h.lt).trans h
theorem Bk.drewN (h : Bk w g t cs) (n : Nat) : Bk (w.drewN n) g t cs := h
theorem Bk.drew (h : Bk w g t cs) : Bk w.drew g t cs := h
theorem Bk.set (h : Bk w g t cs) (i : Nat) (u : Value) : Bk (w.setCell ⟨g, i, none⟩ u) g t (cs.setIfInBounds i u) := by
  unfold Bk at h ⊢
  simp [World.setCell, Array.getElem?_modify, h]
theorem Bk.far (h : Bk w g t cs) {p : Addr} (hp : g ≠ p.block) (u : Value) : Bk (w.setCell p u) g t cs := (Below.heap_setCell w p u g hp).trans h
theorem Bk.below {B : Nat} (h : Bk w g t cs) (hb : Below B w w') (hg : g < B) : Bk w' g t cs := (hb.block g hg).trans h
theorem Bk.old (h : Bk w g t cs) (hb : Below w.heap.size w w') : Bk w' g t cs := (hb.block g h.lt).trans h
theorem Bk.chg {lo hi : Nat} (h : Bk w g t cs) (hc : Chg lo hi w w') (hg : g < lo ∨ hi ≤ g) : Bk w' g t cs := (hc.block g h.lt hg).trans h
end
section
variable {w : World} {lo hi e s : Nat} {A : Option Addr} {n cap : Nat} {l : List Int}
theorem IOwn.far (h : IOwn w lo hi e s A n cap l) {p : Addr} (hp : p.block < lo ∨ hi ≤ p.block) (u : Value) : IOwn (w.setCell p u) lo hi e s A n cap l := h.keep fun k h1 h2 _ => Below.heap_setCell w p u k (by omega)
theorem IOwn.alloc (h : IOwn w lo hi e s A n cap l) (o : Obj) : IOwn (w.alloc o) lo hi e s A n cap l := h.keep fun k _ _ h3 => Below.heap_alloc w o k h3
theorem IOwn.drew (h : IOwn w lo hi e s A n cap l) : IOwn w.drew lo hi e s A n cap l := h
theorem IOwn.old {w' : World} (h : IOwn w lo hi e s A n cap l) (hb : Below w.heap.size w w') : IOwn w' lo hi e s A n cap l := h.keep fun k _ _ h3 => hb.block k h3
end
theorem IOwn.farB {w : World} {lo hi e s : Nat} {A : Option Addr} {n cap : Nat} {l : List Int} (h : IOwn w lo hi e s A n cap l) {g o : Nat} {u : Value} (hp : g < lo) : IOwn (w.setCell ⟨g, o, none⟩ u) lo hi e s A n cap l := h.far (.inl hp) u
theorem Bk.farB {w : World} {g : Nat} {t : TypeId} {cs : Array Value} (h : Bk w g t cs) {g' o : Nat} {u : Value} (hp : g ≠ g') : Bk (w.setCell ⟨g', o, none⟩ u) g t cs := h.far hp u
theorem bsB {w W : World} (h : Below w.heap.size w W) {g o : Nat} {u : Value} (hp : w.heap.size ≤ g) : Below w.heap.size w (W.setCell ⟨g, o, none⟩ u) := h.setCell hp u
end Go.Proofs.YtjajddhedahpnaaDoor
