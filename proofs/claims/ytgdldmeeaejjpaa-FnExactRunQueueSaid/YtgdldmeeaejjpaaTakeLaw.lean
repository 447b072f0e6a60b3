/- The plain laws of queues without their first packets. No program in sight. -/
import Derived.Test.YtgdldmeeaejjpaaPutLaw
namespace Go.Proofs.Ytgdldmeeaejjpaa
open Go.ChangeShapes Go.WideShapes Go.ChangeAt Go.RowKit
set_option linter.unusedVariables false
theorem pat_drop (L : List Pk) (m i : Nat) : pat (L.drop m) i = pat L (m + i) := by simp [pat, List.getElem?_drop]
theorem hasI_drop (L : List Pk) (m : Nat) (id : Int) (i : Nat) : hasI (L.drop m) id i = hasI L id (m + i) := by simp [hasI, pat_drop]
theorem apart_drop {L : List Pk} (h : apart L = true) (m : Nat) : apart (L.drop m) = true := by
  refine allB_yes fun i hi => ?_
  have hi' : m + i < L.length := by simp at hi; omega
  have h1 := allB_iff.1 h (m + i) hi'
  simp only [qgd, Bool.and_eq_true, Bool.not_eq_true'] at h1 ⊢
  refine ⟨by rw [pat_drop]; exact h1.1, hasK_iff.2 fun j hj => ?_⟩
  rw [hasI_drop, pat_drop]
  exact hasK_iff.1 h1.2 (m + j) (by omega)
theorem SzOk.drop {L : List Pk} (h : SzOk L) (m : Nat) : SzOk (L.drop m) := fun i p hp => by
  rw [List.getElem?_drop] at hp
  exact h _ _ hp
theorem szs_split (L : List Pk) (m : Nat) (hm : m ≤ L.length) : szs L L.length = szs L m + szs (L.drop m) (L.drop m).length := by
  unfold szs
  rw [List.take_length, List.take_length, ← List.sum_append, ← List.map_append, List.take_append_drop]
theorem qok_drop {li by_ : Int} {L : List Pk} {se dr se' dr' : Int} (h : qok li by_ L se dr = true) (m : Nat) (hm : m ≤ L.length) : qok li by_ (L.drop m) se' dr' = (cnt se' && cnt dr') := by
  have g := qok_iff.1 h
  have hz := apart_sz g.2.2.2.2.2.1
  have hb := szs_b hz m hm
  have hs := szs_split L m hm
  have e1 : decide (1 ≤ li ∧ li ≤ 60) = true := decide_eq_true g.1
  have e2 : decide (1 ≤ by_ ∧ by_ ≤ 90000) = true := decide_eq_true g.2.1
  have e3 : decide (((L.drop m).length : Int) ≤ li) = true := decide_eq_true (by have := g.2.2.1; simp; omega)
  have e5 : decide (szs (L.drop m) (L.drop m).length ≤ by_) = true := decide_eq_true (by have := g.2.2.2.2.2.2; omega)
  simp only [qok, e1, e2, e3, e5, apart_drop g.2.2.2.2.2.1 m, Bool.true_and, Bool.and_true]
/-! ### TakeHead -/
def thOk (li by_ : Int) (L : List Pk) (se dr : Int) : Bool := qok li by_ L se dr && decide (0 < L.length) && cnt (se + 1)
def tlIf (ok : Bool) (L : List Pk) : List Pk := if ok then L.tail else []
def hdIf (ok : Bool) (L : List Pk) : Pk := if ok then pat L 0 else ⟨0, 0, 0, 0, 0, 0⟩
theorem tlIf_len (ok : Bool) (L : List Pk) : (tlIf ok L).length ≤ L.length := by
  unfold tlIf
  split <;> simp
theorem thOk_iff {li by_ : Int} {L : List Pk} {se dr : Int} : thOk li by_ L se dr = true ↔ qok li by_ L se dr = true ∧ 0 < L.length ∧ cnt (se + 1) = true := by
  simp only [thOk, Bool.and_eq_true, decide_eq_true_eq, and_assoc]
end Go.Proofs.Ytgdldmeeaejjpaa
