/- Regions that draw their order and whose operations only read or call what makes memory of its own: one walk in the order of the text. No program in sight, no condition. -/
import Derived.Test.YtjajddhedahpnaaDoorRow
import Derived.Deep.RegionHeld3
namespace Go.Proofs.YtjajddhedahpnaaDoor
open Go.ChangeShapes Go.WideShapes Go.ChangeAt Go.RowKit
/-- A world in which nothing that lay in w has turned. -/
structure Gr (w : World) where
  v : World
  h : Below w.heap.size w v
instance (w : World) : Nonempty (Gr w) := ⟨⟨w, b0 w⟩⟩
theorem wp_region_gr {P : Program} {id : Nat} {Q : Exit → Act → World → Prop} {a : Act} {w : World} {l : List Oper} (hm : P.follows .mixedOrders = true) (hB : Region.lexB .any l.toArray = true)
    (h : wpQuiet P l.toArray (fun w' => ∃ p : Gr w, w' = p.v) (fun a' => ∀ w', (∃ p : Gr w, w' = p.v) → Q .normal a' w') l a) : (Code.region id l.toArray true).wp P Q a w :=
  wp_region_quiet (C := fun w' => ∃ p : Gr w, w' = p.v) hm hB ⟨⟨_, (b0 w).drew⟩, rfl⟩ (by simpa using h)
/-- A callee's contract, met in a world of the class. -/
theorem gr_of {P : Program} {f : FuncId} {args : Array Value} {w : World} {p : Gr w} {v : Value}
    (h : Calls P f args p.v fun e w' => e = .returned v ∧ Below p.v.heap.size p.v w') : Calls P f args p.v fun e w'' => e = .returned v ∧ ∃ q : Gr w, w'' = q.v :=
  h.mono fun _ w' ⟨he, hb⟩ => ⟨he, ⟨w', bt p.h hb⟩, rfl⟩
theorem gr_same {P : Program} {f : FuncId} {args : Array Value} {w : World} {p : Gr w} {v : Value}
    (h : Calls P f args p.v fun e w' => e = .returned v ∧ p.v = w') : Calls P f args p.v fun e w'' => e = .returned v ∧ ∃ q : Gr w, w'' = q.v :=
  h.mono fun _ _ ⟨he, hb⟩ => ⟨he, p, hb.symm⟩
/-- A cell that reads in w reads so in every world of the class. -/
theorem gr_cell {w : World} {a : Addr} {v : Value} (h : w.cell? a = some v) (p : Gr w) : p.v.cell? a = some v := by
  obtain ⟨b, o, s⟩ := a
  have hs : s = none := World.cell?_spot h
  subst hs
  exact (p.h.cell (p := ⟨b, o, none⟩) (World.block_lt_of_cell? w _ h)).trans h
end Go.Proofs.YtjajddhedahpnaaDoor
