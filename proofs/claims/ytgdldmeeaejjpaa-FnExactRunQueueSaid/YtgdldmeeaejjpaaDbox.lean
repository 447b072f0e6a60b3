/- Small laws for regions that draw their order and hold the result's box. No program in sight, no condition. -/
import Derived.Test.YtgdldmeeaejjpaaOw
namespace Go.Proofs.Ytgdldmeeaejjpaa
open Go.ChangeShapes Go.WideShapes Go.ChangeAt Go.RowKit
theorem Bk.setx {w : World} {g : Nat} {t : TypeId} {cs cs' : Array Value} {i : Nat} {u : Value} (h : Bk w g t cs) (e : cs.setIfInBounds i u = cs') : Bk (w.setCell ⟨g, i, none⟩ u) g t cs' := e ▸ h.set i u
theorem IOwn.farC {w : World} {lo hi e s : Nat} {A : Option Addr} {n cap : Nat} {l : List Int} (h : IOwn w lo hi e s A n cap l) {g o : Nat} {u : Value} (hp : g < lo ∨ hi ≤ g) : IOwn (w.setCell ⟨g, o, none⟩ u) lo hi e s A n cap l := h.far hp u
theorem own_ex {w : World} {lo hi e s : Nat} {A : Option Addr} {n cap : Nat} {l : List Int} (h : IOwn w lo hi e s A n cap l) : ∃ lo' hi', lo ≤ lo' ∧ hi' ≤ hi ∧ IOwn w lo' hi' e s A n cap l := ⟨lo, hi, Nat.le_refl _, Nat.le_refl _, h⟩
theorem IOwn.none_cap {w : World} {lo hi e s : Nat} {A : Option Addr} {n cap : Nat} {l : List Int} (h : IOwn w lo hi e s A n cap l) : A = none → cap = 0 := by
  rintro rfl
  rcases h.1.2 with ⟨hv, _⟩ | ⟨g, cap', cur, hv, _⟩
  · injection hv
  · injection hv with hv
    cases hv
/-- What a region leaves whose result went into a box of its own: the box, old memory, what was owned. -/
structure Fin5 (w1 W W' : World) (B T : Nat) (cs : Array Value) : Prop where
  le : w1.heap.size ≤ B
  bk : Bk W' B T cs
  below : Below w1.heap.size w1 W'
  size : W.heap.size ≤ W'.heap.size
  own : ∀ {lo hi e s : Nat} {A : Option Addr} {n cap : Nat} {l : List Int}, IOwn W lo hi e s A n cap l → (B < lo ∨ hi ≤ B) → IOwn W' lo hi e s A n cap l
theorem Fin5.new {w1 W : World} {T : Nat} {cs : Array Value} (hb : Below w1.heap.size w1 W) : Fin5 w1 W (W.alloc (.cells cs T)) W.heap.size T cs :=
  ⟨hb.size, Bk.new _ _ _, ba hb _, by simp, fun h _ => h.alloc _⟩
theorem setCell_size (w : World) (p : Addr) (u : Value) : (w.setCell p u).heap.size = w.heap.size := by simp [World.setCell]
theorem Fin5.old5 {w1 W : World} {B T : Nat} {u0 u1 u2 u3 u4 z0 z1 z2 z3 z4 : Value} (hB : w1.heap.size ≤ B) (hz : Bk W B T #[z0, z1, z2, z3, z4]) (hb : Below w1.heap.size w1 W) :
    Fin5 w1 W (((((W.setCell ⟨B, 0, none⟩ u0).setCell ⟨B, 1, none⟩ u1).setCell ⟨B, 2, none⟩ u2).setCell ⟨B, 3, none⟩ u3).setCell ⟨B, 4, none⟩ u4) B T #[u0, u1, u2, u3, u4] := by
  refine ⟨hB, ?_, (bsB (o := 4) (u := u4) (bsB (o := 3) (u := u3) (bsB (o := 2) (u := u2) (bsB (o := 1) (u := u1) (bsB (o := 0) (u := u0) hb hB) hB) hB) hB) hB), ?_, fun h hp => (((((h.farC (o := 0) (u := u0) hp).farC (o := 1) (u := u1) hp).farC (o := 2) (u := u2) hp).farC (o := 3) (u := u3) hp).farC (o := 4) (u := u4) hp)⟩
  · have h := (((((hz.set 0 u0).set 1 u1).set 2 u2).set 3 u3).set 4 u4)
    simpa using h
  · simp only [setCell_size]
    exact Nat.le_refl _
theorem Fin5.old6 {w1 W : World} {B T : Nat} {u0 u1 u2 u3 u4 u5 z0 z1 z2 z3 z4 z5 : Value} (hB : w1.heap.size ≤ B) (hz : Bk W B T #[z0, z1, z2, z3, z4, z5]) (hb : Below w1.heap.size w1 W) :
    Fin5 w1 W ((((((W.setCell ⟨B, 0, none⟩ u0).setCell ⟨B, 1, none⟩ u1).setCell ⟨B, 2, none⟩ u2).setCell ⟨B, 3, none⟩ u3).setCell ⟨B, 4, none⟩ u4).setCell ⟨B, 5, none⟩ u5) B T #[u0, u1, u2, u3, u4, u5] := by
  refine ⟨hB, ?_, (bsB (o := 5) (u := u5) (bsB (o := 4) (u := u4) (bsB (o := 3) (u := u3) (bsB (o := 2) (u := u2) (bsB (o := 1) (u := u1) (bsB (o := 0) (u := u0) hb hB) hB) hB) hB) hB) hB), ?_, fun h hp => ((((((h.farC (o := 0) (u := u0) hp).farC (o := 1) (u := u1) hp).farC (o := 2) (u := u2) hp).farC (o := 3) (u := u3) hp).farC (o := 4) (u := u4) hp).farC (o := 5) (u := u5) hp)⟩
  · have h := ((((((hz.set 0 u0).set 1 u1).set 2 u2).set 3 u3).set 4 u4).set 5 u5)
    simpa using h
  · simp only [setCell_size]
    exact Nat.le_refl _
section
variable {w1 W W' : World} {B T : Nat} {cs : Array Value} {lo hi e s : Nat} {A : Option Addr} {n cap : Nat} {l : List Int} {lo2 hi2 e2 s2 : Nat} {A2 : Option Addr} {n2 cap2 : Nat} {l2 : List Int}
theorem Fin5.close0 (h : Fin5 w1 W W' B T cs) : (w1.heap.size ≤ B ∧ Bk W' B T cs) ∧ Below w1.heap.size w1 W' := ⟨⟨h.le, h.bk⟩, h.below⟩
theorem Fin5.close1 (h : Fin5 w1 W W' B T cs) (ho : IOwn W lo hi e s A n cap l) (h1 : w1.heap.size ≤ lo) (h2 : hi ≤ W.heap.size) (h3 : B < lo ∨ hi ≤ B) :
    (w1.heap.size ≤ B ∧ Bk W' B T cs) ∧ IOwn W' lo hi e s A n cap l ∧ (w1.heap.size ≤ lo ∧ hi ≤ W'.heap.size ∧ (B < lo ∨ hi ≤ B)) ∧ Below w1.heap.size w1 W' :=
  ⟨⟨h.le, h.bk⟩, h.own ho h3, ⟨h1, Nat.le_trans h2 h.size, h3⟩, h.below⟩
theorem Fin5.close2 (h : Fin5 w1 W W' B T cs) (ho : IOwn W lo hi e s A n cap l) (h1 : w1.heap.size ≤ lo) (h2 : hi ≤ W.heap.size) (h3 : B < lo ∨ hi ≤ B)
    (ho2 : IOwn W lo2 hi2 e2 s2 A2 n2 cap2 l2) (k1 : w1.heap.size ≤ lo2) (k2 : hi2 ≤ W.heap.size) (k3 : B < lo2 ∨ hi2 ≤ B) (h4 : hi ≤ lo2 ∨ hi2 ≤ lo) :
    (w1.heap.size ≤ B ∧ Bk W' B T cs) ∧ IOwn W' lo hi e s A n cap l ∧ (w1.heap.size ≤ lo ∧ hi ≤ W'.heap.size ∧ (B < lo ∨ hi ≤ B)) ∧ IOwn W' lo2 hi2 e2 s2 A2 n2 cap2 l2 ∧ (w1.heap.size ≤ lo2 ∧ hi2 ≤ W'.heap.size ∧ (B < lo2 ∨ hi2 ≤ B)) ∧ (hi ≤ lo2 ∨ hi2 ≤ lo) ∧ Below w1.heap.size w1 W' :=
  ⟨⟨h.le, h.bk⟩, h.own ho h3, ⟨h1, Nat.le_trans h2 h.size, h3⟩, h.own ho2 k3, ⟨k1, Nat.le_trans k2 h.size, k3⟩, h4, h.below⟩
end
end Go.Proofs.Ytgdldmeeaejjpaa
