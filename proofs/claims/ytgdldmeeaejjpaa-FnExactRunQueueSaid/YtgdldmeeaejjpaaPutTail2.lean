/- The contracts of PutTail. -/
import Derived.Test.YtgdldmeeaejjpaaPutTail
namespace Go.Proofs.Ytgdldmeeaejjpaa
open Go.ChangeShapes Go.WideShapes Go.ChangeAt Go.RowKit
set_option linter.unusedVariables false
def NewQBB (w : World) (li by_ : Int) (n : Nat) (L : List Pk) (se dr : Int) (put b : Bool) (e : Ending) (w' : World) : Prop :=
  ∃ A cap, e = .returned (.tuple #[.agg #[.int .i64 li, .int .i64 by_, .slice A n cap, .int .i64 se, .int .i64 dr], .bool put, .bool b]) ∧ IOwn w' w.heap.size w'.heap.size 35 6 A n cap (fl L) ∧ Below w.heap.size w w'
def ptOk (li by_ : Int) (L : List Pk) (se dr : Int) (p : Pk) : Bool := askd li by_ L se dr p && (room li by_ L p || cnt (dr + 1))
def ptL (ok rm : Bool) (L : List Pk) (p : Pk) : List Pk := if ok then (if rm then L ++ [p] else L) else []
def ptD (rm : Bool) (dr : Int) : Int := if rm then dr else dr + 1
def PtP (w : World) (li by_ : Int) (L : List Pk) (se dr : Int) (p : Pk) : Ending → World → Prop :=
  NewQBB w (ifz (ptOk li by_ L se dr p) li) (ifz (ptOk li by_ L se dr p) by_) (ptL (ptOk li by_ L se dr p) (room li by_ L p) L p).length (ptL (ptOk li by_ L se dr p) (room li by_ L p) L p) (ifz (ptOk li by_ L se dr p) se) (ifz (ptOk li by_ L se dr p) (ptD (room li by_ L p) dr)) (ptOk li by_ L se dr p && room li by_ L p) (ptOk li by_ L se dr p)
theorem PtP_no {w : World} {li by_ : Int} {L : List Pk} {se dr : Int} {p : Pk} (h : ptOk li by_ L se dr p = false) : PtP w li by_ L se dr p = NewQBB w 0 0 0 [] 0 0 false false := by simp [PtP, h, ifz, ptL]
theorem PtP_put {w : World} {li by_ : Int} {L : List Pk} {se dr : Int} {p : Pk} (h : askd li by_ L se dr p = true) (hr : room li by_ L p = true) : PtP w li by_ L se dr p = NewQBB w li by_ (L.length + 1) (L ++ [p]) se dr true true := by
  have h1 : ptOk li by_ L se dr p = true := by simp [ptOk, h, hr]
  simp [PtP, h1, hr, ifz, ptL, ptD]
theorem PtP_full {w : World} {li by_ : Int} {L : List Pk} {se dr : Int} {p : Pk} (h : askd li by_ L se dr p = true) (hr : room li by_ L p = false) (hc : cnt (dr + 1) = true) : PtP w li by_ L se dr p = NewQBB w li by_ L.length L se (dr + 1) false true := by
  have h1 : ptOk li by_ L se dr p = true := by simp [ptOk, h, hc]
  simp [PtP, h1, hr, ifz, ptL, ptD]
theorem NewQBB.none_ {w w' : World} {e : Ending} (he : e = .returned (.tuple #[.agg #[.int .i64 0, .int .i64 0, .slice none 0 0, .int .i64 0, .int .i64 0], .bool false, .bool false])) (hb : Below w.heap.size w w') : NewQBB w 0 0 0 [] 0 0 false false e w' := ⟨none, 0, he, IOwn.none_ _ _ _ _ _, hb⟩
end Go.Proofs.Ytgdldmeeaejjpaa
