/- The contracts of the sums of packets' sizes. -/
import Derived.Test.YtgdldmeeaejjpaaPackets
namespace Go.Proofs.Ytgdldmeeaejjpaa
open Go.ChangeShapes Go.WideShapes Go.ChangeAt Go.RowKit
set_option linter.unusedVariables false
/-- Every size is in its range. -/
def SzOk (L : List Pk) : Prop := ∀ (i : Nat) (p : Pk), L[i]? = some p → 0 ≤ p.si ∧ p.si ≤ 1500
theorem szs_b {L : List Pk} (h : SzOk L) : ∀ k, k ≤ L.length → 0 ≤ szs L k ∧ szs L k ≤ k * 1500
  | 0, _ => by simp [szs_zero]
  | k + 1, hk => by
    have ih := szs_b h k (by omega)
    have e := List.getElem?_eq_getElem (show k < L.length by omega)
    have h1 := h k _ e
    rw [szs_succ e]
    omega
theorem SzOk.of_ok {L : List Pk} (h : ∀ i, i < L.length → (pat L i).ok = true) : SzOk L := fun i p hp => by
  have h1 := h i (List.getElem?_eq_some_iff.1 hp).1
  rw [pat_of hp] at h1
  have := Pk.ok_iff.1 h1
  omega
set_option maxHeartbeats 1000000 in
theorem pkSum_any (A : Option Addr) (n cap : Nat) (L : List Pk) (w : World) (hl : L.length = n) (hr : IRow w A (fl L)) (hn : n ≤ 1000000) (hs : SzOk L) :
    Calls Try.prog 83 #[.slice A n cap] w fun e w' => e = .returned (.int .i64 (szs L n)) ∧ Below w.heap.size w w' := by
  have HL := Lib.hid hl
  have HR := Lib.hid hr
  have HS := Lib.hid hs
  clear hl hr hs
  go_enter Try.func83, Try.ntmps83
  go_wp2_with fail
  go_loopw [3, 8] (fun a i wr => ∃ k : Nat, k ≤ n ∧ i = .int .i64 k ∧ a = .int .i64 (szs L k) ∧ Below w.heap.size w wr) (fun _ i _ => n - (intOf i).toNat)
  case atStart => exact ⟨0, Nat.zero_le _, rfl, by simp [szs_zero], b0 _⟩
  case round =>
    obtain ⟨k, hk, rfl, rfl, hbw⟩ := hrel
    by_cases hlt : k < n
    · obtain ⟨g, off, p, rfl, hg, hpk, c0, c1, c2, c3, c4, c5⟩ := pk_at (HR.out.below hbw) (k := k) (by have := HL.out; omega)
      have HE := Lib.hid (szs_succ hpk)
      have hb := szs_b HS.out k (by have := HL.out; omega)
      have hz := HS.out k p hpk
      clear hpk
      generalize szs L k = a at *
      go_wp2_with fail
      go_roundw
      case rel => exact ⟨k + 1, by omega, by go_num, by rw [HE.out], (by repeat (first | (with_reducible exact b0 _) | (with_reducible refine ba ?_ _) | (with_reducible refine bd ?_ _) | (with_reducible refine Below.drew ?_) | (with_reducible refine bs ?_ (by first | exact Nat.le_refl _ | exact Nat.le_add_right _ _ | omega) _) | (with_reducible refine bt ?_ (by assumption))))⟩
      case measure => simp [intOf]; omega
    · obtain rfl : k = n := by omega
      go_wp2_with fail
      go_ret
      exact ⟨rfl, hbw⟩
set_option maxHeartbeats 1000000 in
theorem sumSizes_any (A : Option Addr) (n cap : Nat) (L : List Pk) (w : World) (hl : L.length = n) (hr : IRow w A (fl L)) (hn : n ≤ 1000000) (hs : SzOk L) :
    Calls Try.prog 85 #[.slice A n cap] w fun e w' => e = .returned (.int .i64 (szs L n)) ∧ Below w.heap.size w w' := by
  have HL := Lib.hid hl
  have HR := Lib.hid hr
  have HS := Lib.hid hs
  clear hl hr hs
  go_enter Try.func85, Try.ntmps85
  go_wp2_with fail
  go_loopw [3, 8] (fun a i wr => ∃ k : Nat, k ≤ n ∧ i = .int .i64 k ∧ a = .int .i64 (szs L k) ∧ Below w.heap.size w wr) (fun _ i _ => n - (intOf i).toNat)
  case atStart => exact ⟨0, Nat.zero_le _, rfl, by simp [szs_zero], b0 _⟩
  case round =>
    obtain ⟨k, hk, rfl, rfl, hbw⟩ := hrel
    by_cases hlt : k < n
    · obtain ⟨g, off, p, rfl, hg, hpk, c0, c1, c2, c3, c4, c5⟩ := pk_at (HR.out.below hbw) (k := k) (by have := HL.out; omega)
      have HE := Lib.hid (szs_succ hpk)
      have hb := szs_b HS.out k (by have := HL.out; omega)
      have hz := HS.out k p hpk
      clear hpk
      generalize szs L k = a at *
      go_wp2_with fail
      go_roundw
      case rel => exact ⟨k + 1, by omega, by go_num, by rw [HE.out], (by repeat (first | (with_reducible exact b0 _) | (with_reducible refine ba ?_ _) | (with_reducible refine bd ?_ _) | (with_reducible refine Below.drew ?_) | (with_reducible refine bs ?_ (by first | exact Nat.le_refl _ | exact Nat.le_add_right _ _ | omega) _) | (with_reducible refine bt ?_ (by assumption))))⟩
      case measure => simp [intOf]; omega
    · obtain rfl : k = n := by omega
      go_wp2_with fail
      go_ret
      exact ⟨rfl, hbw⟩
end Go.Proofs.Ytgdldmeeaejjpaa
