/- The plain laws of a packet put into a queue whose first packets make room. No program in sight. -/
import Derived.Test.YtgdldmeeaejjpaaTakeLaw
namespace Go.Proofs.Ytgdldmeeaejjpaa
open Go.ChangeShapes Go.WideShapes Go.ChangeAt Go.RowKit
set_option linter.unusedVariables false
/-- How many first packets go until there is room. -/
def dn (li by_ : Int) (p : Pk) : List Pk → Nat
  | [] => 0
  | x :: T => if room li by_ (x :: T) p then 0 else dn li by_ p T + 1
theorem dn_le (li by_ : Int) (p : Pk) : ∀ L : List Pk, dn li by_ p L ≤ L.length
  | [] => Nat.le_refl _
  | x :: T => by
    unfold dn
    split
    · exact Nat.zero_le _
    · have := dn_le li by_ p T
      simp
      omega
theorem dn_hit {li by_ : Int} {p : Pk} : ∀ {L : List Pk} {k : Nat}, k ≤ L.length → (∀ j, j < k → room li by_ (L.drop j) p = false) → room li by_ (L.drop k) p = true → dn li by_ p L = k
  | [], k, hk, _, _ => by simp at hk; subst hk; rfl
  | x :: T, 0, _, _, h => by rw [dn, if_pos (by simpa using h)]
  | x :: T, k + 1, hk, h1, h => by
    have h0 := h1 0 (by omega)
    rw [List.drop_zero] at h0
    rw [dn, if_neg (by simp [h0]), dn_hit (k := k) (by simpa using hk) (fun j hj => by have := h1 (j + 1) (by omega); simpa using this) (by simpa using h)]
theorem room_nil {li by_ : Int} {p : Pk} (h1 : 1 ≤ li) (h2 : p.si ≤ by_) : room li by_ [] p = true := by
  simp [room, szs]
  omega
theorem room_all {li by_ : Int} {p : Pk} {L : List Pk} {k : Nat} (h1 : 1 ≤ li) (h2 : p.si ≤ by_) (hk : L.length ≤ k) : room li by_ (L.drop k) p = true := by
  rw [List.drop_eq_nil_of_le hk]
  exact room_nil h1 h2
theorem askd_drop {li by_ : Int} {L : List Pk} {se dr se' dr' : Int} {p : Pk} (h : askd li by_ L se dr p = true) (k : Nat) (hk : k ≤ L.length) (h1 : cnt se' = true) (h2 : cnt dr' = true) : askd li by_ (L.drop k) se' dr' p = true := by
  obtain ⟨a, b, c⟩ := askd_iff.1 h
  refine askd_iff.2 ⟨by rw [qok_drop a k hk, h1, h2]; rfl, b, hasK_iff.2 fun j hj => ?_⟩
  rw [hasI_drop]
  exact hasK_iff.1 c (k + j) (by simp at hj; omega)
theorem qok_drop_put {li by_ : Int} {L : List Pk} {se dr dr' : Int} {p : Pk} (h : askd li by_ L se dr p = true) (k : Nat) (hk : k ≤ L.length) (hr : room li by_ (L.drop k) p = true) : qok li by_ (L.drop k ++ [p]) se dr' = cnt dr' := by
  have g := qok_iff.1 (askd_iff.1 h).1
  have h1 := qok_put (askd_drop h k hk (cnt_iff.2 g.2.2.2.1) (cnt_iff.2 g.2.2.2.2.1)) hr
  rw [qok_counts h1, cnt_iff.2 g.2.2.2.1, Bool.true_and]
/-! ### PutDropHead -/
def pdL (by_ : Int) (k : Nat) (L : List Pk) (p : Pk) : List Pk := if p.si ≤ by_ then L.drop k ++ [p] else L
def pdI (by_ : Int) (k : Nat) (L : List Pk) (p : Pk) : List Int := if p.si ≤ by_ then (L.take k).map Pk.id else [p.id]
def pdD (by_ : Int) (k : Nat) (p : Pk) (dr : Int) : Int := if p.si ≤ by_ then dr + (k : Int) else dr + 1
def pdOk (li by_ : Int) (L : List Pk) (se dr : Int) (p : Pk) : Bool := askd li by_ L se dr p && cnt (pdD by_ (dn li by_ p L) p dr)
def ifL (ok : Bool) (L : List Pk) : List Pk := if ok then L else []
theorem ifL_len (ok : Bool) (by_ : Int) (k : Nat) (L : List Pk) (p : Pk) : (ifL ok (pdL by_ k L p)).length ≤ L.length + 1 := by
  unfold ifL pdL
  split
  · split <;> simp
  · simp
theorem pdI_len (ok : Bool) (by_ : Int) (k : Nat) (L : List Pk) (p : Pk) : (ifl ok (pdI by_ k L p)).length ≤ L.length + 1 := by
  unfold ifl pdI
  split
  · split
    · simp
      omega
    · simp
  · simp
end Go.Proofs.Ytgdldmeeaejjpaa
