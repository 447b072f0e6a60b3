/- Rows of the call's own over stores and allocations, their upper bound left open. No program in sight, no condition. -/
import Derived.Test.YtgdldmeeaejjpaaBlk
namespace Go.Proofs.Ytgdldmeeaejjpaa
open Go.ChangeShapes Go.WideShapes Go.ChangeAt Go.RowKit
def IOw (w : World) (lo e s : Nat) (A : Option Addr) (n cap : Nat) (l : List Int) : Prop := ∃ hi, IOwn w lo hi e s A n cap l
section
variable {w : World} {lo e s : Nat} {A : Option Addr} {n cap : Nat} {l : List Int}
theorem IOw.of {hi : Nat} (h : IOwn w lo hi e s A n cap l) : IOw w lo e s A n cap l := ⟨hi, h⟩
theorem IOw.alloc (h : IOw w lo e s A n cap l) (o : Obj) : IOw (w.alloc o) lo e s A n cap l := let ⟨hi, h⟩ := h; ⟨hi, h.alloc o⟩
theorem IOw.drew (h : IOw w lo e s A n cap l) : IOw w.drew lo e s A n cap l := h
theorem IOw.drewN (h : IOw w lo e s A n cap l) (k : Nat) : IOw (w.drewN k) lo e s A n cap l := h
theorem IOw.farB (h : IOw w lo e s A n cap l) {g o : Nat} {u : Value} (hp : g < lo) : IOw (w.setCell ⟨g, o, none⟩ u) lo e s A n cap l := let ⟨hi, h⟩ := h; ⟨hi, h.far (.inl hp) u⟩
theorem IOw.here {lo' : Nat} (h : IOw w lo e s A n cap l) (hl : lo' ≤ lo) : IOwn w lo' w.heap.size e s A n cap l := let ⟨_, h⟩ := h; (h.lo_le hl).here
end
end Go.Proofs.Ytgdldmeeaejjpaa
