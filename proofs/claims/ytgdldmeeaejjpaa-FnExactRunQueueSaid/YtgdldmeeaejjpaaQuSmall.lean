/- The contracts of QueueBytes, NewQueue and DelayOf. -/
import Derived.Test.YtgdldmeeaejjpaaQuRows
namespace Go.Proofs.Ytgdldmeeaejjpaa
open Go.ChangeShapes Go.WideShapes Go.ChangeAt Go.RowKit
set_option linter.unusedVariables false
theorem quGood_b {b : Bool} (li by_ : Int) (A : Option Addr) (n cap : Nat) (se dr : Int) (L : List Pk) (w : World) (hl : L.length = n) (hr : IRow w A (fl L)) (hn : n ≤ 1099511627776) (hcap : n ≤ cap) (h : qok li by_ L se dr = b) :
    Calls Try.prog 60 #[.agg #[.int .i64 li, .int .i64 by_, .slice A n cap, .int .i64 se, .int .i64 dr]] w fun e w' => e = .returned (.bool b) ∧ Below w.heap.size w w' := h ▸ quGood_any li by_ A n cap se dr L w hl hr hn
theorem isQueue_b {b : Bool} (li by_ : Int) (A : Option Addr) (n cap : Nat) (se dr : Int) (L : List Pk) (w : World) (hl : L.length = n) (hr : IRow w A (fl L)) (hn : n ≤ 1099511627776) (hcap : n ≤ cap) (h : qok li by_ L se dr = b) :
    Calls Try.prog 64 #[.agg #[.int .i64 li, .int .i64 by_, .slice A n cap, .int .i64 se, .int .i64 dr]] w fun e w' => e = .returned (.bool b) ∧ Below w.heap.size w w' := h ▸ implIsQueue_any li by_ A n cap se dr L w hl hr hn hcap
theorem qok_sz {li by_ : Int} {L : List Pk} {se dr : Int} {n : Nat} (hl : L.length = n) (h : qok li by_ L se dr = true) : n ≤ 60 ∧ SzOk L := by
  have := qok_iff.1 h
  exact ⟨by omega, apart_sz this.2.2.2.2.2.1⟩
def ifz (ok : Bool) (x : Int) : Int := if ok then x else 0
theorem szs_take (L : List Pk) (m : Nat) : szs (L.take m) m = szs L m := by simp [szs, List.take_take]
theorem quAt_v {v : Int} (A : Option Addr) (n cap : Nat) (L : List Pk) (id : Int) (w : World) (hl : L.length = n) (hr : IRow w A (fl L)) (hn : n ≤ 1099511627776) (h : quI L id = v) :
    Calls Try.prog 63 #[.slice A n cap, .int .i64 id] w fun e w' => e = .returned (.int .i64 v) ∧ Below w.heap.size w w' := h ▸ quAt_any A n cap L id w hl hr hn
theorem SzOk.take {L : List Pk} (h : SzOk L) (m : Nat) : SzOk (L.take m) := fun i p hp => by
  rw [List.getElem?_take] at hp
  split at hp
  · exact h i p hp
  · cases hp
end Go.Proofs.Ytgdldmeeaejjpaa
