/- The contracts of the keyed number's functions: what the call returns; old memory is left as it was. -/
import Derived.Test.YtpgddjnjojkllaaEarly
namespace Go.Proofs.Ytpgddjnjojkllaa
open Go.ChangeShapes Go.WideShapes Go.ChangeAt Go.RowKit
def kst (a n : Int) : Int := (25 * a + n + 1) % 1000003 * ((25 * a + n + 1) % 1000003 / 16 + 3) % 1000003
def keyed (key i : Int) : Int := kst (kst (kst 7919 key) i) 20
theorem kst_bound (a n : Int) : 0 ≤ kst a n ∧ kst a n < 1000003 := by unfold kst; omega
theorem kmul_bound {x : Int} (h0 : 0 ≤ x) (h1 : x < 1000003) : 0 ≤ x * (x / 16 + 3) ∧ x * (x / 16 + 3) ≤ 1000003 * 62504 := by
  refine ⟨Int.mul_nonneg h0 (by omega), ?_⟩
  exact Int.mul_le_mul (by omega) (by omega) (by omega) (by omega)
/-- What the loop holds behind k rounds. -/
def kat (key i : Int) : Nat → Int
  | 0 => 7919
  | 1 => kst 7919 key
  | 2 => kst (kst 7919 key) i
  | _ => keyed key i
def knum (key i : Int) : Nat → Int
  | 0 => key
  | 1 => i
  | _ => 20
theorem kat_bound (key i : Int) (k : Nat) : 0 ≤ kat key i k ∧ kat key i k < 1000003 := by
  unfold kat; split
  · omega
  · exact kst_bound _ _
  · exact kst_bound _ _
  · exact kst_bound _ _
theorem kat_succ (key i : Int) (k : Nat) (h : k < 3) : kat key i (k + 1) = kst (kat key i k) (knum key i k) := by
  obtain rfl | rfl | rfl : k = 0 ∨ k = 1 ∨ k = 2 := by omega
  · rfl
  · rfl
  · rfl
theorem rdKeyed_any (key i : Int) (w : World) (h1 : 0 ≤ key) (h2 : key ≤ 1000000000) (h3 : 0 ≤ i) (h4 : i ≤ 1000) :
    Calls Try.prog 49 #[.int .i64 key, .int .i64 i] w fun e w' => e = .returned (.int .i64 (keyed key i)) ∧ Below w.heap.size w w' := by
  go_enter Try.func49, Try.ntmps49
  go_wp2
  go_loop [5, 12] (fun a n => ∃ k : Nat, k ≤ 3 ∧ n = .int .i64 k ∧ a = .int .i64 (kat key i k)) (fun _ n => 3 - (intOf n).toNat)
  case atStart => exact ⟨0, by omega, rfl, rfl⟩
  case round =>
    obtain ⟨k, hk, rfl, rfl⟩ := hrel
    by_cases h : k < 3
    · have hs := Lib.hid (kat_succ key i k h)
      have hb := kat_bound key i k
      have hm := kmul_bound (x := (25 * kat key i k + knum key i k + 1) % 1000003) (by omega) (by omega)
      obtain rfl | rfl | rfl : k = 0 ∨ k = 1 ∨ k = 2 := by omega
      all_goals
        simp only [knum] at hm
        go_wp2
        go_round
        case rel => first | exact ⟨1, by omega, rfl, by rw [hs.out]; rfl⟩ | exact ⟨2, by omega, rfl, by rw [hs.out]; rfl⟩ | exact ⟨3, by omega, rfl, by rw [hs.out]; rfl⟩
        case measure => simp [intOf]
    · obtain rfl : k = 3 := by omega
      go_wp2
      go_ret
      exact ⟨rfl, (by repeat (first | (with_reducible exact b0 _) | (with_reducible refine ba ?_ _) | (with_reducible refine bd ?_ _) | (with_reducible refine Below.drew ?_) | (with_reducible refine bs ?_ (by first | exact Nat.le_refl _ | exact Nat.le_add_right _ _ | omega) _) | (with_reducible refine bt ?_ (by assumption))))⟩
theorem keyedNumber_any (key i : Int) (w : World) (h1 : 0 ≤ key) (h2 : key ≤ 1000000000) (h3 : 0 ≤ i) (h4 : i ≤ 1000) :
    Calls Try.prog 51 #[.int .i64 key, .int .i64 i] w fun e w' => e = .returned (.int .i64 (keyed key i)) ∧ Below w.heap.size w w' := by
  have i0 : ∀ w, (Instr.index 58 (.agg #[.int .i64 key, .int .i64 i, .int .i64 20]) (.int .i64 0)).run Try.prog w = .ok (.int .i64 key) w := fun _ => by kernel_rfl
  have i1 : ∀ w, (Instr.index 58 (.agg #[.int .i64 key, .int .i64 i, .int .i64 20]) (.int .i64 1)).run Try.prog w = .ok (.int .i64 i) w := fun _ => by kernel_rfl
  have i2 : ∀ w, (Instr.index 58 (.agg #[.int .i64 key, .int .i64 i, .int .i64 20]) (.int .i64 2)).run Try.prog w = .ok (.int .i64 20) w := fun _ => by kernel_rfl
  go_enter Try.func51, Try.ntmps51
  go_wp2
  go_loop [5, 11] (fun a n => ∃ k : Nat, k ≤ 3 ∧ n = .int .i64 k ∧ a = .int .i64 (kat key i k)) (fun _ n => 3 - (intOf n).toNat)
  case atStart => exact ⟨0, by omega, rfl, rfl⟩
  case round =>
    obtain ⟨k, hk, rfl, rfl⟩ := hrel
    by_cases h : k < 3
    · have hs := Lib.hid (kat_succ key i k h)
      have hb := kat_bound key i k
      have hm := kmul_bound (x := (25 * kat key i k + knum key i k + 1) % 1000003) (by omega) (by omega)
      obtain rfl | rfl | rfl : k = 0 ∨ k = 1 ∨ k = 2 := by omega
      all_goals
        simp only [knum] at hm
        go_wp2
        go_round
        case rel => first | exact ⟨1, by omega, rfl, by rw [hs.out]; rfl⟩ | exact ⟨2, by omega, rfl, by rw [hs.out]; rfl⟩ | exact ⟨3, by omega, rfl, by rw [hs.out]; rfl⟩
        case measure => simp [intOf]
    · obtain rfl : k = 3 := by omega
      go_wp2
      go_ret
      exact ⟨rfl, (by repeat (first | (with_reducible exact b0 _) | (with_reducible refine ba ?_ _) | (with_reducible refine bd ?_ _) | (with_reducible refine Below.drew ?_) | (with_reducible refine bs ?_ (by first | exact Nat.le_refl _ | exact Nat.le_add_right _ _ | omega) _) | (with_reducible refine bt ?_ (by assumption))))⟩

theorem rdKey_any (key i : Int) (w : World) : Calls Try.prog 48 #[.int .i64 key, .int .i64 i] w fun e w' => e = .returned (.bool (decide (0 ≤ key ∧ key ≤ 1000000000 ∧ 0 ≤ i ∧ i ≤ 1000))) ∧ w = w' := by
  go_enter Try.func48, Try.ntmps48
  go_wp2_with (go_at_call 43; refine (l1In_any _ _ _ _).mono ?_; rintro e w' ⟨rfl, rfl⟩)
  all_goals
    go_ret
    exact ⟨ret_b (by rw [Bool.eq_iff_iff]; simp; try omega), rfl⟩
theorem isKey20_any (key : Int) (w : World) : Calls Try.prog 50 #[.int .i64 key] w fun e w' => e = .returned (.bool (decide (0 ≤ key ∧ key ≤ 1000000000))) ∧ w = w' := by
  go_enter Try.func50, Try.ntmps50
  go_wp2
  all_goals
    go_ret
    exact ⟨ret_b (by rw [Bool.eq_iff_iff]; simp; try omega), rfl⟩
def knR (key i : Int) : Int × Bool := if 0 ≤ key ∧ key ≤ 1000000000 ∧ 0 ≤ i ∧ i ≤ 1000 then (keyed key i, true) else (0, false)
theorem specKeyedNumber_any (key i : Int) (w : World) :
    Calls Try.prog 19 #[.int .i64 key, .int .i64 i] w fun e w' => e = .returned (.tuple #[.int .i64 (knR key i).1, .bool (knR key i).2]) ∧ Below w.heap.size w w' := by
  by_cases h : 0 ≤ key ∧ key ≤ 1000000000 ∧ 0 ≤ i ∧ i ≤ 1000
  · have hR := Lib.hid (show knR key i = (keyed key i, true) by rw [knR, if_pos h])
    go_enter Try.func19, Try.ntmps19
    go_wp2_with (first | (go_at_call 48; refine (rdKey_any _ _ _).mono ?_; rintro e w' ⟨rfl, rfl⟩) | (go_at_call 49; refine (rdKeyed_any _ _ _ (by omega) (by omega) (by omega) (by omega)).mono ?_; rintro e w1 ⟨rfl, h1⟩))
    go_ret2
    exact ⟨by rw [hR.out]; rfl, (by repeat (first | (with_reducible exact b0 _) | (with_reducible refine ba ?_ _) | (with_reducible refine bd ?_ _) | (with_reducible refine Below.drew ?_) | (with_reducible refine bs ?_ (by first | exact Nat.le_refl _ | exact Nat.le_add_right _ _ | omega) _) | (with_reducible refine bt ?_ (by assumption))))⟩
  · have hR := Lib.hid (show knR key i = (0, false) by rw [knR, if_neg h])
    go_enter Try.func19, Try.ntmps19
    go_wp2_with (first | (go_at_call 48; refine (rdKey_any _ _ _).mono ?_; rintro e w' ⟨rfl, rfl⟩))
    all_goals first | (go_ret2; exact ⟨by rw [hR.out]; rfl, (by repeat (first | (with_reducible exact b0 _) | (with_reducible refine ba ?_ _) | (with_reducible refine bd ?_ _) | (with_reducible refine Below.drew ?_) | (with_reducible refine bs ?_ (by first | exact Nat.le_refl _ | exact Nat.le_add_right _ _ | omega) _) | (with_reducible refine bt ?_ (by assumption))))⟩) | (exfalso; simp_all; done) | (exfalso; simp at *; omega)
theorem implKeyedNumber_any (key i : Int) (w : World) :
    Calls Try.prog 20 #[.int .i64 key, .int .i64 i] w fun e w' => e = .returned (.tuple #[.int .i64 (knR key i).1, .bool (knR key i).2]) ∧ Below w.heap.size w w' := by
  by_cases h : 0 ≤ key ∧ key ≤ 1000000000 ∧ 0 ≤ i ∧ i ≤ 1000
  · have hR := Lib.hid (show knR key i = (keyed key i, true) by rw [knR, if_pos h])
    go_enter Try.func20, Try.ntmps20
    go_wp2_with (first | (go_at_call 50; refine (isKey20_any _ _).mono ?_; rintro e w' ⟨rfl, rfl⟩) | (go_at_call 51; refine (keyedNumber_any _ _ _ (by omega) (by omega) (by omega) (by omega)).mono ?_; rintro e w1 ⟨rfl, h1⟩))
    go_ret2
    exact ⟨by rw [hR.out]; rfl, (by repeat (first | (with_reducible exact b0 _) | (with_reducible refine ba ?_ _) | (with_reducible refine bd ?_ _) | (with_reducible refine Below.drew ?_) | (with_reducible refine bs ?_ (by first | exact Nat.le_refl _ | exact Nat.le_add_right _ _ | omega) _) | (with_reducible refine bt ?_ (by assumption))))⟩
  · have hR := Lib.hid (show knR key i = (0, false) by rw [knR, if_neg h])
    go_enter Try.func20, Try.ntmps20
    go_wp2_with (first | (go_at_call 50; refine (isKey20_any _ _).mono ?_; rintro e w' ⟨rfl, rfl⟩))
    all_goals first | (go_ret2; exact ⟨by rw [hR.out]; rfl, (by repeat (first | (with_reducible exact b0 _) | (with_reducible refine ba ?_ _) | (with_reducible refine bd ?_ _) | (with_reducible refine Below.drew ?_) | (with_reducible refine bs ?_ (by first | exact Nat.le_refl _ | exact Nat.le_add_right _ _ | omega) _) | (with_reducible refine bt ?_ (by assumption))))⟩) | (exfalso; simp_all; done) | (exfalso; simp at *; omega)
end Go.Proofs.Ytpgddjnjojkllaa
