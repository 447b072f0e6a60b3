/- The plain laws of a packet put at the end of a queue. No program in sight. -/
import Derived.Test.YtgdldmeeaejjpaaPut
namespace Go.Proofs.Ytgdldmeeaejjpaa
open Go.ChangeShapes Go.WideShapes Go.ChangeAt Go.RowKit
set_option linter.unusedVariables false
theorem pat_app {L : List Pk} {p : Pk} {i : Nat} (h : i < L.length) : pat (L ++ [p]) i = pat L i := by
  simp [pat, List.getElem?_append_left h]
theorem pat_end (L : List Pk) (p : Pk) : pat (L ++ [p]) L.length = p := by simp [pat]
theorem hasK_app {L : List Pk} {p : Pk} {k : Nat} {id : Int} (h : k ≤ L.length) : hasK (L ++ [p]) k id = hasK L k id := by
  unfold hasK
  rw [allB_congr (g := fun j => !hasI (L ++ [p]) id j) (h := fun j => !hasI L id j)]
  intro i hi
  simp only [hasI, pat_app (p := p) (show i < L.length by omega)]
theorem qgd_app {L : List Pk} {p : Pk} {i : Nat} (h : i < L.length) : qgd (L ++ [p]) i = qgd L i := by
  simp only [qgd, pat_app h, hasK_app (p := p) (show i ≤ L.length by omega)]
theorem apart_app (L : List Pk) (p : Pk) : apart (L ++ [p]) = (apart L && (p.ok && !hasK L L.length p.id)) := by
  unfold apart
  rw [show (L ++ [p]).length = L.length + 1 by simp, allB_succ, allB_congr (g := qgd (L ++ [p])) (h := qgd L) (fun i hi => qgd_app hi)]
  simp only [qgd, pat_end, hasK_app (p := p) (Nat.le_refl L.length)]
theorem szs_app (L : List Pk) (p : Pk) : szs (L ++ [p]) (L ++ [p]).length = szs L L.length + p.si := by
  rw [show (L ++ [p]).length = L.length + 1 by simp, szs_succ (p := p) (by simp)]
  simp [szs]
theorem askd_iff {li by_ : Int} {L : List Pk} {se dr : Int} {p : Pk} : askd li by_ L se dr p = true ↔ qok li by_ L se dr = true ∧ p.ok = true ∧ hasK L L.length p.id = false := by
  simp [askd, and_assoc]
/-- With room the queue stays valid. -/
theorem qok_put {li by_ : Int} {L : List Pk} {se dr : Int} {p : Pk} (h : askd li by_ L se dr p = true) (hr : room li by_ L p = true) : qok li by_ (L ++ [p]) se dr = true := by
  obtain ⟨h1, h2, h3⟩ := askd_iff.1 h
  simp only [room, Bool.and_eq_true, decide_eq_true_eq] at hr
  have g := qok_iff.1 h1
  refine qok_iff.2 ⟨g.1, g.2.1, ?_, g.2.2.2.1, g.2.2.2.2.1, ?_, ?_⟩
  · simp
    omega
  · rw [apart_app, g.2.2.2.2.2.1, h2, h3]
    rfl
  · rw [szs_app]
    exact hr.2
/-- Other counts. -/
theorem qok_counts {li by_ : Int} {L : List Pk} {se dr se' dr' : Int} (h : qok li by_ L se dr = true) : qok li by_ L se' dr' = (cnt se' && cnt dr') := by
  have g := qok_iff.1 h
  have e1 : decide (1 ≤ li ∧ li ≤ 60) = true := decide_eq_true g.1
  have e2 : decide (1 ≤ by_ ∧ by_ ≤ 90000) = true := decide_eq_true g.2.1
  have e3 : decide ((L.length : Int) ≤ li) = true := decide_eq_true g.2.2.1
  have e5 : decide (szs L L.length ≤ by_) = true := decide_eq_true g.2.2.2.2.2.2
  simp only [qok, e1, e2, e3, e5, g.2.2.2.2.2.1, Bool.true_and, Bool.and_true]
end Go.Proofs.Ytgdldmeeaejjpaa
