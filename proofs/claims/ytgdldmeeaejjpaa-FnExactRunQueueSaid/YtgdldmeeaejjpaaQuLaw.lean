/- The plain laws of queues: places of ids, validity. No program in sight. -/
import Derived.Test.YtgdldmeeaejjpaaSums
namespace Go.Proofs.Ytgdldmeeaejjpaa
open Go.ChangeShapes Go.WideShapes Go.ChangeAt Go.RowKit
set_option linter.unusedVariables false
def hasI (L : List Pk) (id : Int) (i : Nat) : Bool := decide ((pat L i).id = id)
theorem hasI_of {L : List Pk} {i : Nat} {p : Pk} {id : Int} (h : L[i]? = some p) : hasI L id i = decide (p.id = id) := by simp [hasI, pat_of h]
/-- The place of the packet with an id, or -1. -/
def quI (L : List Pk) (id : Int) : Int := fstI L.length (hasI L id)
/-- Whether one of the first k packets has an id. -/
def hasK (L : List Pk) (k : Nat) (id : Int) : Bool := !allB k fun j => !hasI L id j
def qgd (L : List Pk) (i : Nat) : Bool := (pat L i).ok && !hasK L i (pat L i).id
def apart (L : List Pk) : Bool := allB L.length (qgd L)
theorem hasK_hit {L : List Pk} {n k : Nat} {id : Int} (hk : k < n) (h : hasI L id k = true) : hasK L n id = true := by simp [hasK, allB_no (g := fun j => !hasI L id j) hk (by simp [h])]
theorem hasK_none {L : List Pk} {n : Nat} {id : Int} (h : ∀ i, i < n → hasI L id i = false) : hasK L n id = false := by simp [hasK, allB_yes (g := fun j => !hasI L id j) (n := n) fun i hi => by simp [h i hi]]
theorem hasK_iff {L : List Pk} {n : Nat} {id : Int} : hasK L n id = false ↔ ∀ i, i < n → hasI L id i = false := by
  simp [hasK, allB_iff]
theorem quI_self {L : List Pk} {i : Nat} (hi : i < L.length) : (quI L (pat L i).id = (i : Int)) ↔ hasK L i (pat L i).id = false := by
  have hs : hasI L (pat L i).id i = true := by simp [hasI]
  rw [hasK_iff]
  constructor
  · intro h
    rcases fstI_cases L.length (hasI L (pat L i).id) with ⟨k, hk, h1, h2, h3⟩ | ⟨h1, h3⟩
    · unfold quI at h
      rw [h3] at h
      obtain rfl : k = i := by omega
      exact h2
    · rw [h1 i hi] at hs
      cases hs
  · intro h
    exact fstI_hit hi h hs
theorem quI_neg {L : List Pk} {id : Int} : decide (quI L id < 0) = !hasK L L.length id := by
  rcases fstI_cases L.length (hasI L id) with ⟨k, hk, h1, h2, h3⟩ | ⟨h1, h3⟩
  · unfold quI
    rw [h3, hasK_hit hk h1]
    exact decide_eq_false (by omega)
  · unfold quI
    rw [h3, hasK_none h1]
    decide
def cnt (n : Int) : Bool := decide (0 ≤ n ∧ n ≤ 1000000)
theorem cnt_iff {n : Int} : cnt n = true ↔ 0 ≤ n ∧ n ≤ 1000000 := by simp [cnt]
/-- Whether a queue is valid. -/
def qok (li by_ : Int) (L : List Pk) (se dr : Int) : Bool := decide (1 ≤ li ∧ li ≤ 60) && decide (1 ≤ by_ ∧ by_ ≤ 90000) && decide ((L.length : Int) ≤ li) && cnt se && cnt dr && apart L && decide (szs L L.length ≤ by_)
theorem apart_no {L : List Pk} {k : Nat} (hk : k < L.length) (h : qgd L k = false) : apart L = false := allB_no hk h
theorem apart_sz {L : List Pk} (h : apart L = true) : SzOk L := SzOk.of_ok fun i hi => by
  have := allB_iff.1 h i hi
  simp only [qgd, Bool.and_eq_true] at this
  exact this.1
theorem qok_iff {li by_ : Int} {L : List Pk} {se dr : Int} : qok li by_ L se dr = true ↔ (1 ≤ li ∧ li ≤ 60) ∧ (1 ≤ by_ ∧ by_ ≤ 90000) ∧ (L.length : Int) ≤ li ∧ (0 ≤ se ∧ se ≤ 1000000) ∧ (0 ≤ dr ∧ dr ≤ 1000000) ∧ apart L = true ∧ szs L L.length ≤ by_ := by
  simp only [qok, cnt, Bool.and_eq_true, decide_eq_true_eq, and_assoc]
theorem qok_apart {li by_ : Int} {L : List Pk} {se dr : Int} (h : apart L = false) : qok li by_ L se dr = false := by simp [qok, h]
end Go.Proofs.Ytgdldmeeaejjpaa
